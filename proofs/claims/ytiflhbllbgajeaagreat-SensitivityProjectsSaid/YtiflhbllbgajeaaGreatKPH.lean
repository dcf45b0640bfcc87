/- Part. -/
import Derived.Test.YtiflhbllbgajeaaGreatKPG
set_option linter.all false
namespace Go.Proofs.YtiflhbllbgajeaaGreat
open Go.Proofs.Tryz
open Go.Vc Go.Gw
open Go.IntKind (i64 u64 u32)
def Hv (x:A2 I0.args) (a:awf I0.args x) (c:I0.pre x):Bt x:=by
 obtain⟨l,⟨b,f⟩,_⟩:=x;have g:l.length<=9223372036854775807:=a.1.1;change List Int at l;have c:∀i∈l,b (i,()):=c;simp only[Bt,iB];refine⟨fun p=>0<=p.1/\p.1<=(l.length:Int)/\∀y∈l.take p.1.toNat,f (y,())=false,fun p=>((l.length:Int)-p.1).toNat,⟨qI _,qD _,by simp⟩, ?_⟩;rintro⟨i,_⟩ _ ⟨a,g,b⟩;change Int at i;simp only at a g b⊢;refine⟨fun h=> ?_,fun h=> ?_⟩
 . have h:=qA h;refine⟨⟨a,h⟩,by trivial,c _ (H8 a h),fun _=>⟨fun o=> ?_,fun k=> ?_⟩⟩
   . have n:l.findIdx? (fun i=>f (i,()))=some i.toNat:=by
      rw[zI];have c:=G8 (d:=(0:Int)) a h;have g:i.toNat<l.length:=by omega
      rw[qT g]at c;refine⟨g,by rw[xI c];exact o,fun j c=> ?_⟩;have:=b l[j] (uU.2 ⟨j,by rw[qW];omega,by simp⟩);simp[this]
     unfold mB;rw[n];show i=((i.toNat:Nat):Int);omega
   . rw[wv (by omega)];exact⟨⟨by omega,by omega,Fs a h b k⟩,by omega⟩
 . have h:=qB h;rw[D7 (by omega)]at b;unfold mB;have:l.findIdx? (fun i=>f (i,()))=none:=by
    rw[g0z];exact b
   rw[this]
def B5u (p:Int->Bool) (l:List Int):0<=mB p l↔∃i,i∈l/\p i=true:=by
 unfold mB;cases h:l.findIdx? p with
 |none=>
  rw[g0z]at h;constructor
  . intro a;simp at a
  . rintro⟨i,b,a⟩;have:=h i b;rw[this]at a;cases a
 |some k=>
  rw[zI]at h;obtain⟨a,b,_⟩:=h;exact⟨fun _=>⟨_,wY a,b⟩,fun _=>qD _⟩
def Fq (x:A2 F3.args) (d:awf F3.args x) (a:F3.pre x):Y5 x:=by
 obtain⟨l,⟨c,f⟩,_⟩:=x;change List Int at l;have a:∀i∈l,c (i,()):=a;simp only[Y5,Cp];refine⟨by trivial,by trivial,a, ?_⟩;rintro⟨r,_⟩ _ b;simp only at b⊢;rw[b];exact wL.2 (B5u _ _)
def Ts (x:A2 J5.args) (a:awf J5.args x) (_:J5.pre x):Jy x:=by
 simp only[Jy];rw[G6,Bool.decide_or]
def A5e {a b:List D1} (h:a.Perm b) (j:Int):A4 a j=A4 b j:=by
 induction h with
 |nil=>rfl
 |cons e _ c=>rw[A4,A4,c]
 |swap e f l=>simp only[A4];rw[<-yF, <-yF,g3z (if f.1=j then rv f.2 else 0)]
 |trans _ _ c d=>rw[c,d]
def B5f {a b:Int} (h:¬K6 b a<0):a<=b:=by
 unfold K6 at h;split at h
 . omega
 . split at h<;>omega
def FV (x:A2 V5.args) (bq:awf V5.args x) (bk:V5.pre x):Tr x:=by
 obtain⟨⟨R,C,D⟩,rows,a,_⟩:=x;have ca:aJ (R,C,D):=Vd bq.1.2.2.2;change Int at R C;change List (List D1)at D;change List Int at rows a;obtain⟨⟨bm,cb,c9⟩,aw⟩:(X5 K1 (R,C,D)/\rows.length<=1000/\a.length<=1000)/\a.Nodup:=by
  obtain⟨B,E,r,d⟩:=bk;exact⟨⟨B,E,r⟩,d⟩
 simp only[Tr,iB,I2,Ql];refine⟨trivial, ?_⟩;rintro⟨b2,_⟩ _ H;simp only at H⊢;by_cases v:C2 (R,C,D)
 . have H:b2=true:=by rw[H];exact rG v
   rw[H];obtain⟨bz,c0,c2,c3,_,_⟩:=id v;have cf:(D.length:Int)=R:=v.2.2.2.2.1;have c4:∀w∈D,F7 w C:=v.2.2.2.2.2;simp only at bz c0 c2 c3;refine⟨fun h=>(by cases h),fun _=>⟨by trivial,by trivial,fun _ _=>trivial, ?_⟩⟩;rintro⟨a6,_⟩ _ a0;simp only at a0⊢;refine⟨by trivial,by trivial,fun _ _ _=>trivial, ?_⟩;rintro⟨b3,_⟩ U;simp only at U⊢;rw[G6];have aj:(a6||b3)=true↔((∃i,i∈rows/\(i<0\/R<=i))\/∃i,i∈a/\(i<0\/C<=i)):=by
    by_cases f:∃i,i∈rows/\(i<0\/R<=i)
    . have:a6=true:=by
       rw[a0];obtain⟨i,b,c⟩:=f;exact rG ⟨i,b,rG c⟩
      rw[this];exact⟨fun _=> .inl f,fun _=>rfl⟩
    . have am:a6=false:=by
       rw[a0];exact rE fun⟨i,b,c⟩=>f ⟨i,b,qA c⟩
      have U:=(U am).2;rw[am,vP,U];constructor
      . intro h;obtain⟨i,b,c⟩:=qA h;exact .inr ⟨i,b,qA c⟩
      . rintro(h| ⟨i,b,c⟩)
        . exact absurd h f
        . exact rG ⟨i,b,rG c⟩
   refine⟨fun h=> ?_,fun h=>⟨trivial, ?_⟩⟩
   . have h:=aj.1 h;exact⟨fun g=>absurd v g,fun _=>⟨fun _=>⟨rfl,by trivial⟩,fun g=>absurd h g⟩⟩
   have ac:¬((∃i,i∈rows/\(i<0\/R<=i))\/∃i,i∈a/\(i<0\/C<=i)):=fun g=>by rw[aj.2 g]at h;cases h
   have bl:∀i∈rows,0<=i/\i<R:=fun i b=>qU fun hn=>ac (.inl ⟨i,b,by omega⟩)
   have bd:∀i∈a,0<=i/\i<C:=fun i b=>qU fun hn=>ac (.inr ⟨i,b,by omega⟩)
   rintro⟨b4,_⟩ _ a7;simp only at a7⊢;refine⟨fun _=>trivial, ?_⟩;rintro⟨b5,_⟩ a8;simp only at a8⊢;have M:b4=true:=by rw[a7];exact rG ⟨by omega,by omega⟩
   have F:b5=true:=by rw[(a8 (by rw[M];rfl)).2];exact rG ⟨by omega,by omega⟩
   rw[M,F];refine⟨fun h=>(by cases h),fun _=> ?_⟩;clear a0 U a7 a8 aj h;refine⟨fun p=>0<=p.1/\p.1<=(a.length:Int)/\(∀k:Nat,k<p.1.toNat->K8 (.int .i64) (a.getD k 0) p.2.1=some [(k:Int)])/\∀r,r∉a.take p.1.toNat->K8 (.int .i64) r p.2.1=Option.none,fun p=>((a.length:Int)-p.1).toNat,⟨qI _,qD _,fun k o=>by simp at o,fun _ _=>rfl⟩, ?_⟩;rintro⟨i,J,_⟩ _ ⟨ai,bs,a1,W⟩;change Int at i;change List (Int×List Int)at J;simp only at ai bs a1 W⊢;refine⟨fun b=> ?_,fun b=> ?_⟩
   . have b:=qA b;have a9:=G7 (d:=(0:Int)) ai b;have ar:i.toNat<a.length:=by omega
     have b0:a.take (i+1).toNat=a.take i.toNat++ [a.getD i.toNat 0]:=by
      rw[show(i+1).toNat=i.toNat+1 from by omega,rQ,qT ar,H6 _ _ ar];rfl
     have ax:a.getD i.toNat 0∉a.take i.toNat:=fun aa=>by
      have f:(a.take (i+1).toNat).Nodup:=aw.take;rw[b0,sW]at f;exact f.2.2 _ aa _ (qP.2 rfl) rfl
     rw[a9,wv (by omega)];refine⟨⟨ai,b⟩,W _ ax,⟨by simp only[rC];omega,by simp only[rC];omega⟩,⟨by omega,by omega,fun k o=> ?_,fun r c=> ?_⟩,by omega⟩
     . show K8 (.int .i64) (a.getD k 0) (Fl (.int .i64) (a.getD i.toNat 0) [i] J)= _;rw[EA];by_cases aq:k=i.toNat
       . rw[qR (by rw[aq]),aq,show((i.toNat:Nat):Int)=i from by omega]
       . have bh:k<i.toNat:=by have o:k<(i+1).toNat:=o;omega
         rw[qK,a1 k bh];intro bf;apply ax;rw[<-bf,H6 _ _ (show k<a.length by omega)];exact uU.2 ⟨k,by rw[qW];omega,by simp⟩
     . show K8 (.int .i64) r (Fl (.int .i64) (a.getD i.toNat 0) [i] J)= _;have c:r∉a.take (i+1).toNat:=c;rw[b0,qY,qP,g4o]at c;rw[EA,qK c.2,W r c.1]
   . have b:=qB b;rw[D7 (by omega)]at W;have aa:i.toNat=a.length:=by omega
     rw[aa]at a1;rw[qM];refine⟨⟨by omega,qI _,by omega,by omega⟩,fun p=>0<=p.1/\p.1<=(rows.length:Int)/\lI rows.length p.1.toNat (fun i=>SF a.length fun j=>el (R,C,D) (rows.getD i 0).toNat (a.getD j 0).toNat) p.2.1,fun p=>((rows.length:Int)-p.1).toNat,⟨qI _,qD _,C0b rF⟩, ?_⟩;rintro⟨k,out,_⟩ _ ⟨O,bt,V⟩;change Int at k;change List (List D1)at out;simp only at O bt V⊢;have cc:=V.1;refine⟨fun o=> ?_,fun o=> ?_⟩
     . have o:=qA o;have a9:=G7 (d:=(0:Int)) O o;have ae:=bl _ (H8 (d:=(0:Int)) O o);rw[a9]at ae⊢;have bg:∀ {w:List D1},SF a.length (fun j=>el (R,C,D) (rows.getD k.toNat 0).toNat (a.getD j 0).toNat) w->lI rows.length (k+1).toNat (fun i=>SF a.length fun j=>el (R,C,D) (rows.getD i 0).toNat (a.getD j 0).toNat) (out.set k.toNat w):=fun {w} hw2=>A5k V O o hw2
       generalize rows.getD k.toNat 0=Z at*;have az:Z<(D.length:Int):=by omega
       rw[VQ ae.1 az];have au:D.getD Z.toNat []∈D:=C8 (by omega);have af:=XW v bm au;have bp:=c4 _ au;have bc:∀r:Int,0<=r->A4 (D.getD Z.toNat []) r=el (R,C,D) Z.toNat r.toNat:=fun r c=>A9o _ _ c
       generalize D.getD Z.toNat []=row at*;have ce:=af.2.2;refine⟨⟨O,o⟩,⟨ae.1,az⟩,fun p=>0<=p.2.1/\p.2.1<=(row.length:Int)/\p.1.length<=p.2.1.toNat/\(p.1.map fun e=>e.1).Nodup/\(∀x∈p.1,∃q:Nat,q<a.length/\x.1=(q:Int)/\(∃y∈row.take p.2.1.toNat,y.1=a.getD q 0)/\rv x.2≠0/\x.2=rc (rv x.2))/\∀j:Nat,j<a.length->A4 p.1 (j:Int)=A4 (row.take p.2.1.toNat) (a.getD j 0),fun p=>((row.length:Int)-p.2.1).toNat,⟨qI _,qD _,qZ _,xS,fun _ h=>(by cases h),fun j _=>rfl⟩, ?_⟩;rintro⟨P,t,_⟩ _ ⟨Q,bw,bu,a3,a4,Y⟩;change List D1 at P;change Int at t;simp only at Q bw bu a3 a4 Y⊢;refine⟨fun u=> ?_,fun u=> ?_⟩
       . have u:=qA u;have ap:=H8 (d:=E4) Q u;obtain⟨c5,c6,b6⟩:=bp.2 _ ap;have bn:=af.2.1 _ ap;have be:=A5f (d:=E4) Q u;have bb:∀y∈row.take t.toNat,y.1≠(gx E4 row t).1:=fun x n hxe=>by
          have f:(row.take (t+1).toNat).Pairwise (fun B E=>B.1<E.1):=af.1.take;rw[show(t+1).toNat=t.toNat+1 from by omega,rQ,G8 (d:=E4) Q u,tL]at f;have:=f.2.2 x n (gx E4 row t) (by simp);omega
         have bo:∀y∈row.take t.toNat,y∈row.take (t+1).toNat:=fun y X=>by
          rw[show(t+1).toNat=t.toNat+1 from by omega,rQ];exact qY.2 (.inl X)
         have bj:gx E4 row t∈row.take (t+1).toNat:=by
          rw[show(t+1).toNat=t.toNat+1 from by omega,rQ,G8 (d:=E4) Q u];simp
         generalize gx E4 row t=e at*;have N:(K8 (.int .i64) e.1 J).getD []= []/\e.1∉a\/∃q:Nat,q<a.length/\a.getD q 0=e.1/\(K8 (.int .i64) e.1 J).getD []= [(q:Int)]:=by
          by_cases c:e.1∈a
          . obtain⟨q,A,G⟩:=Z7 0 c;have:=a1 q A;rw[G]at this;exact .inr ⟨q,A,G,by rw[this];rfl⟩
          . exact .inl ⟨by rw[W _ c];rfl,c⟩
         generalize (K8 (.int .i64) e.1 J).getD []=L at*;have c7:L.length<=1:=by
          rcases N with⟨h,_⟩ | ⟨q,_,_,h⟩<;>rw[h]<;>simp
         refine⟨⟨Q,u⟩,fun p=>0<=p.2.1/\p.2.1<=(L.length:Int)/\p.1=P++(L.take p.2.1.toNat).map fun q=>(q,rc (rv e.2)),fun p=>((L.length:Int)-p.2.1).toNat,⟨qI _,qD _,by simp⟩, ?_⟩;rintro⟨b1,a5,_⟩ _ ⟨ak,bx,z⟩;change List D1 at b1;change Int at a5;simp only at ak bx z⊢;have cd:b1.length<=P.length+1:=by
          rw[z,rO,tG,qW];omega
         refine⟨fun I=> ?_,fun I=> ?_⟩
         . have I:=qA I;refine⟨⟨ak,I⟩,X8 bn (by decide), ?_⟩;rintro⟨q,_⟩ _ A;simp only at A⊢;rw[wv (by omega)];refine⟨⟨by simp only[rC];omega,by simp only[rC];omega⟩,⟨by omega,by omega, ?_⟩,by omega⟩;rw[z,A,show(a5+1).toNat=a5.toNat+1 from by omega,rQ,G8 (d:=(0:Int)) ak I,uJ,uB];rfl
         . have I:=qB I;rw[D7 (l:=L) (i:=a5) (by omega)]at z;rw[wv (by omega)];have ao:∀j:Nat,j<a.length->A4 (row.take (t+1).toNat) (a.getD j 0)=A4 (row.take t.toNat) (a.getD j 0)+if e.1=a.getD j 0 then rv e.2 else 0:=fun j _=>be _
           have av:∀x∈P,∃q:Nat,q<a.length/\x.1=(q:Int)/\(∃y∈row.take (t+1).toNat,y.1=a.getD q 0)/\rv x.2≠0/\x.2=rc (rv x.2):=fun x n=>by
            obtain⟨q,f,g,⟨y,X,M⟩,F,T⟩:=a4 x n;exact⟨q,f,g,⟨y,bo y X,M⟩,F,T⟩
           rcases N with⟨N,bi⟩ | ⟨q,A,G,N⟩
           . rw[N,g1x,vT]at z;subst z;refine⟨⟨by omega,by omega,by omega,a3,av,fun j s=> ?_⟩,by omega⟩;rw[Y j s,ao j s,qK (fun h=>bi (by rw[h];exact C8 s)),rN]
           . rw[N,rZ,g1x]at z;subst z;refine⟨⟨by omega,by omega,by omega, ?_,fun x n=> ?_,fun j s=> ?_⟩,by omega⟩
             . show((P++ [((q:Int),rc (rv e.2))]).map fun e:D1=>e.1).Nodup;rw[uJ,sW];refine⟨a3,by simp,fun B b8 E ba c8=> ?_⟩;obtain⟨x,n,rfl⟩:=sP.1 b8;simp only[rZ,g1x,qP]at ba;obtain⟨bv,f,g,⟨y,X,M⟩,_⟩:=a4 x n;have:bv=q:=by omega
               subst this;exact bb y X (by rw[M,G])
             . rcases qY.1 n with n|n
               . exact av x n
               . rw[qP.1 n];exact⟨q,A,rfl,⟨e,bj,G.symm⟩,by rw[E3];exact b6,by rw[E3]⟩
             . show A4 (P++ [((q:Int),rc (rv e.2))]) (j:Int)= _;rw[Ft,Y j s,ao j s];congr 1;by_cases ay:q=j
               . subst ay;rw[qR rfl,qR G.symm]
               . rw[qK (by omega),qK];intro b7;apply ay;have an:a.getD q 0=a.getD j 0:=G.trans b7;rw[H6 _ _ A,H6 _ _ s]at an;exact(wK aw).1 an
       . have u:=qB u;rw[D7 (by omega)]at Y;refine⟨by omega,fun a2 _ ad ag=> ?_⟩;have ag:a2.Pairwise fun B E:D1=>¬K6 E.1 B.1<0:=ag
         rw[wv (by omega)];refine⟨⟨O,by omega⟩,⟨by omega,by omega,bg ?_⟩,by omega⟩;have ab:(a2.map fun e:D1=>e.1).Nodup:=(ad.map _).nodup_iff.2 a3;have b9:Fj a2:=by
          unfold List.Nodup at ab;rw[vM]at ab;refine g3k ?_ ag ab;intro B E f g;have:=B5f f;omega
         have n:∀x∈a2,∃q:Nat,q<a.length/\x.1=(q:Int)/\rv x.2≠0/\x.2=rc (rv x.2):=fun x n=>by
          obtain⟨q,f,g,_,F,T⟩:=a4 x (ad.mem_iff.1 n);exact⟨q,f,g,F,T⟩
         refine⟨⟨b9,fun x ah=> ?_⟩,fun x ah=> ?_,fun j s=> ?_⟩
         . obtain⟨q,_,_,F,T⟩:=n x ah;exact⟨F,T⟩
         . obtain⟨q,f,g,_⟩:=n x ah;omega
         . rw[A5e ad,Y j s];exact bc _ (bd _ (C8 s)).1
     . have o:=qB o;exact⟨fun h=>absurd v h,fun _=>⟨fun g=>absurd g ac,fun _=>⟨fun g=>absurd g (by omega),fun _=>⟨⟨rfl,rfl,V.1,fun i b=>V.2 i (by omega)⟩,by trivial⟩⟩⟩⟩
 . have H:b2=false:=by rw[H];exact rE v
   rw[H];exact⟨fun _=>⟨fun _=>⟨rfl,by trivial⟩,fun h=>absurd h v⟩,fun h=>(by cases h)⟩
def pH:An:= {loop:= [(15,⟨[2,3,4,6,7,8,9,10,11],[0,1,2,3],[(12,false,vI)],[(4,43,[.val .bool, .val (.sl (.int .u32)), .val (.sl (.int .u32))])],[]⟩),(11,⟨[2,3,4,6,7,8,9],[0,1,2],[(10,false,vI)],[],[(3, .rows tQ 46 43)]⟩),(8,⟨[2,3,4,6,7,8],[0,1,2],[(9,false,vI)],[],[(3, .rows tQ 46 43)]⟩)],plan:= [(5,[0,2],[],true,(.q 0 (.q 2 (.e 1 (.e 3 (.p 4 (.p 5 .done))))))),(17,[0,4,7,11,14],[17],true,(.q 0 (pZ9 1 3 (.q 4 (.p 5 (.p 6 (.q 7 (pZ9 8 3 (.q 11 (.p 12 (.p 13 (.q 14 (.e 15 (.e 16 (.e 17 .done))))))))))))))),(18,[5,6],[8,10],false,(pZ9 0 5 (.q 5 (.q 6 (.e 7 (.e 8 (.p 9 (.e 10 .done))))))))]}
abbrev A7l:=Int×List (List QQ)×Unit
def ZQ:A2 Te.args->Prop:=fun(x:A7m)=>let u:Prop:=(x.1.2.1≠x.2.1.1);let n:=(4:Int);let g:Prop:=(C2 x.1/\C2 x.2.1);let c:=(1:Int);let b:=(0:Int);X5 K1 x.1/\Ql fun r=>r.1=decide (C2 x.1)->((!r.1)=false->X5 K1 x.2.1)/\∀(C:V2),((!r.1)=false->(True/\True)/\C.1=decide (C2 x.2.1))->(iB ((I6 (!r.1) true !C.1)) ((¬g->(b,b,[])=zm/\c=c)/\(C2 x.1/\C2 x.2.1->(x.1.2.1≠x.2.1.1->(b,b,[])=zm/\c=n)/\(x.1.2.1=x.2.1.1->Kd x.1.1.toNat x.2.1.2.1.toNat (fun(i j:Nat)=>C6 x.1.2.1.toNat fun(k:Nat)=>el x.1 i k*el x.2.1 k j) (b,b,[])/\c=b))) ((iB (decide u) ((¬g->(b,b,[])=zm/\n=c)/\(C2 x.1/\C2 x.2.1->(x.1.2.1≠x.2.1.1->(b,b,[])=zm/\n=n)/\(x.1.2.1=x.2.1.1->Kd x.1.1.toNat x.2.1.2.1.toNat (fun(i j:Nat)=>C6 x.1.2.1.toNat fun(k:Nat)=>el x.1 i k*el x.2.1 k j) (b,b,[])/\n=b))) ((X5 K1 x.1/\C2 x.1)/\∀(r:List (List QQ)×Unit),A8k r.1/\True->r.1=els x.1->(X5 K1 x.2.1/\C2 x.2.1)/\∀(z:List (List QQ)×Unit),A8k z.1/\True->z.1=els x.2.1->(b<=x.1.1/\x.1.1<=x.1.1/\(↑(24:Nat):Int)*x.1.1<=281474976710656/\x.1.1<=9223372036854775807)/\∃(I:A7l->Prop),∃(d: _->Nat),I (b,List.replicate x.1.1.toNat [],())/\∀(p:A7l),let o:=(gx [] r.1 p.1);let f:=p.1.toNat;(Ty.int i64).wf p.1/\A8k p.2.1/\True->I p->(iB (decide (p.1<x.1.1)) (∃(I_1:A7l->Prop),∃(v: _->Nat),I_1 (b,p.2.1,())/\∀(y:A7l),let a:Prop:=(y.1<x.2.1.2.1);let u:=(List.getD y.2.1 f []);let s:=(i64.wrap (p.1+c),y.2.1,());let h:Prop:=(b<=p.1/\p.1<(y.2.1.length:Int));(Ty.int i64).wf y.1/\A8k y.2.1/\True->I_1 y->(iB (decide a) (True/\I2 fun A=>A.1=rc (0:Rat)->∃(I:A7i->Prop),∃(d: _->Nat),I (b,A.1.1.1,A.1.1.2,A.1.2,())/\∀(w:A7i),let m:=(gx [] z.1 w.1);let a:=((w.2.1,w.2.2.1),w.2.2.2.1);let q:=(List.getD y.2.1 f []++ [a]);let t:=(i64.wrap (y.1+c),List.set y.2.1 f q,());(Ty.int i64).wf w.1/\Ty.bool.wf w.2.1/\(Ty.int u32).sl.wf w.2.2.1/\(Ty.int u32).sl.wf w.2.2.2.1/\True->I w->(iB (decide (w.1<x.1.2.1)) ((b<=p.1/\p.1<(r.1.length:Int))/\(b<=w.1/\w.1<(↑o.length:Int))/\(b<=w.1/\w.1<(z.1.length:Int))/\(b<=y.1/\y.1<(↑m.length:Int))/\(E6 (gx dQ o w.1)/\E6 (gx dQ m y.1))/\I2 fun B=>B.1=rc (rv (gx dQ o w.1)*rv (gx dQ m y.1))->(E6 a/\E6 B.1)/\I2 fun r=>let e:=(i64.wrap (w.1+c),r.1.1.1,r.1.1.2,r.1.2,());r.1=rc (rv a+rv B.1)->I e/\d e<d w) (h/\((u.length+ [a].length)*(56:Nat)<=(140737488355328:Nat)/\u.length+ [a].length<=9223372036854775807)/\h/\Int.toNat p.1=Int.toNat p.1/\I_1 t/\v t<v y))) (I s/\d s<d p))) (((∀(l:List QQ),l∈p.2.1->GN K1 l/\(↑l.length:Int)=x.2.1.2.1)/\b<=x.2.1.2.1/\x.2.1.2.1<=16384/\List.length p.2.1<=16384)/\∀(r:IP),WfM r.1/\True->Kd p.2.1.length x.2.1.2.1.toNat (fun(i j:Nat)=>rv ((List.getD p.2.1 i []).getD j zr)) r.1->(¬g->r.1=zm/\b=c)/\(C2 x.1/\C2 x.2.1->(x.1.2.1≠x.2.1.1->r.1=zm/\b=n)/\(x.1.2.1=x.2.1.1->Kd x.1.1.toNat x.2.1.2.1.toNat (fun(i j:Nat)=>C6 x.1.2.1.toNat fun(k:Nat)=>el x.1 i k*el x.2.1 k j) r.1/\b=b))))))))
def eZ:An:= {loop:= [(4,⟨[1],[0],[(3,false,vI)],[],[]⟩)],plan:= [(6,[1,4,6],[],true,(.p 0 (.q 1 (.p 2 (.p 3 (.q 4 (.p 5 (.q 6 (.e 7 (.p 8 .done))))))))))]}
def kJ:An:= {loop:= [(3,⟨[0,4,5],[0],[(6,false,vI)],[(1,29,[.val (.int .i64), .val (.int .i64), .own (.sl tE) 79])],[]⟩)],plan:= [(5,[1,5],[8,10],false,(.p 0 (.q 1 (pZ9 2 3 (.q 5 (.e 6 (.e 7 (.e 8 (.p 9 (.e 10 .done))))))))))]}
def RR:An:= {loop:= [(3,⟨[1,3],[0],[(4,false,vI)],[],[(1, .row (.sl tQ) 46)]⟩)],plan:= [(5,[3,6,8],[14],true,(pZ9 0 3 (.q 3 (.p 4 (.p 5 (.q 6 (.p 7 (.q 8 (.e 9 (pZ9 10 4 (.e 14 .done)))))))))))]}
def NE:An:= {loop:= [(4,⟨[2,3],[0,1],[(5,false,vI)],[],[]⟩)],plan:= [(6,[1,4,6,9],[],true,(.p 0 (.q 1 (.p 2 (.p 3 (.q 4 (.p 5 (.q 6 (.p 7 (.p 8 (.q 9 (.e 10 (.p 11 .done)))))))))))))]}
def MI:A2 Jt.args->Prop:=fun(x:IP)=>let f:=(0:Int);let b:=(x.1.2.2.length:Int);let e:=(decide (b≠x.1.1));let c:=(I6 (I6 (I6 (decide (x.1.1<f)) true (decide (16384<x.1.1))) true (decide (x.1.2.1<f))) true (decide (16384<x.1.2.1)));(iB (I6 c true e) (false=decide (C2 x.1)) (∃(I:C7->Prop),∃(a: _->Nat),I (f,())/\∀(p:C7),let d:=(gx [] x.1.2.2 p.1);let c:=(i64.wrap (p.1+1),());(Ty.int i64).wf p.1/\True->I p->(iB (decide (p.1<x.1.1)) ((f<=p.1/\p.1<b)/\MR K1 d/\Ql fun r=>r.1=decide (F7 d x.1.2.1)->(iB ((!r.1)) (false=decide (C2 x.1)) (I c/\a c<a p))) (true=decide (C2 x.1)))))
abbrev C4q:=Int×Int×Int×List (List EE)×Unit
abbrev C1v:=List (List QQ)×Int×Unit
def QZ:A2 Iv.args->Prop:=fun(x:C1v)=>let d:=(↑x.2.1.toNat:Int);let b:=(x.1.length:Int);∃(I:C4q->Prop),∃(f: _->Nat),I ((0:Int),b,x.2.1,[],())/\∀(p:C4q),let c:=(gx [] x.1 p.1);(Ty.int i64).wf p.1/\(Ty.int i64).wf p.2.1/\(Ty.int i64).wf p.2.2.1/\tE.sl.sl.wf p.2.2.2.1/\True->I p->(iB (decide (p.1<b)) ((0<=p.1/\p.1<b)/\(c.length<=(100000:Nat)/\GN K1 c)/\iV fun r=>let a:=(i64.wrap (p.1+1),p.2.1,p.2.2.1,p.2.2.2.1++ [r.1],());SF c.length (fun(j:Nat)=>rv (c.getD j zr)) r.1->((p.2.2.2.1.length+ [r.1].length)*(24:Nat)<=(140737488355328:Nat)/\p.2.2.2.1.length+ [r.1].length<=9223372036854775807)/\I a/\f a<f p) (p.2.1=(↑x.1.length:Int)/\p.2.2.1=d/\p.2.2.2.1.length=x.1.length/\∀(i:Nat),i<x.1.length->Z4 (p.2.2.2.1.getD i [])/\(∀(e:D1),e∈p.2.2.2.1.getD i []->0<=e.1/\e.1<d)/\∀(j:Nat),j<x.2.1.toNat->A4 (p.2.2.2.1.getD i []) (↑j:Int)=rv ((x.1.getD i []).getD j zr)))
def Xm:A2 Dh.args->Prop:=fun(x:IP)=>let c:=(0:Int);(c<=x.1.1/\x.1.1<=x.1.1/\(↑(24:Nat):Int)*x.1.1<=281474976710656/\x.1.1<=9223372036854775807)/\∃(I:A7l->Prop),∃(d: _->Nat),I (c,List.replicate x.1.1.toNat [],())/\∀(p:A7l),let b:=(gx [] x.1.2.2 p.1);(Ty.int i64).wf p.1/\A8k p.2.1/\True->I p->(iB (decide (p.1<x.1.1)) ((c<=p.1/\p.1<(x.1.2.2.length:Int))/\(Yf K1 b/\F7 b x.1.2.1/\c<=x.1.2.1/\x.1.2.1<=16384)/\∀(r:List QQ×Bool×Unit),let a:=(i64.wrap (p.1+1),List.set p.2.1 p.1.toNat r.1,());WfL r.1/\True/\True->r.1=dl x.1.2.1 (A4 b)/\r.2.1=true->(c<=p.1/\p.1<(p.2.1.length:Int))/\I a/\d a<d p) (p.2.1=els x.1))
def Tw:A2 V6.args->Prop:=fun(x:A7m)=>let d:=(x.2.1.2.2.length:Int);let g:=(I6 (decide (x.1.1≠x.2.1.1)) true (decide (x.1.2.1≠x.2.1.2.1)));let b:Prop:=(false=true↔x.1=x.2.1/\∀(v:List EE),v∈x.1.2.2->∀(e:EE),e∈v->e.2=rc (rv e.2));let a:=(x.1.2.2.length:Int);(iB (I6 g true (decide (a≠d))) (b) (∃(I:C7->Prop),∃(c: _->Nat),I ((0:Int),())/\∀(p:C7),let f:=(i64.wrap (p.1+1),());(Ty.int i64).wf p.1/\True->I p->(iB (decide (p.1<a)) ((0<=p.1/\p.1<a)/\(0<=p.1/\p.1<d)/\MR K1 (gx [] x.1.2.2 p.1)/\Ql fun r=>r.1=decide (gx [] x.1.2.2 p.1=gx [] x.2.1.2.2 p.1/\∀(e:EE),e∈gx [] x.1.2.2 p.1->e.2=rc (rv e.2))->(iB ((!r.1)) (b) (I f/\c f<c p))) ((true=true↔x.1=x.2.1/\∀(v:List EE),v∈x.1.2.2->∀(e:EE),e∈v->e.2=rc (rv e.2))))))
def SZ (x:A2 Jt.args) (b:awf Jt.args x) (a:Jt.pre x):MI x:=by
 obtain⟨⟨R,C,D⟩,_⟩:=x;have c:D.length<=9223372036854775807:=b.1.2.2.1;change Int at R C;change List (List D1)at D;have l:X5 K1 (R,C,D):=a;simp only[MI,iB,Ql];simp only[G6];refine⟨fun h=> ?_,fun h=> ?_⟩
 . refine(rE fun i=> ?_).symm;obtain⟨a,b,c,f,g,_⟩:=i;simp only at a b c f g;simp only[uA,rV]at h;omega
 . simp only[rI,rK,uK]at h;obtain⟨⟨⟨⟨a,b⟩,c⟩,d⟩,e⟩:=h;refine⟨fun p=>0<=p.1/\∀v∈D.take p.1.toNat,F7 v C,fun p=>(R-p.1).toNat,⟨qI _,by simp⟩, ?_⟩;rintro⟨j,_⟩ _ ⟨c,f⟩;change Int at j;simp only at c f⊢;refine⟨fun b=> ?_,fun b=> ?_⟩
   . have b:=qA b;have g:j<(D.length:Int):=by omega
     have k:=H8 (d:=([]:List D1)) c g;refine⟨⟨c,g⟩,l _ k, ?_⟩;rintro⟨q,_⟩ _ h;simp only at h⊢;refine⟨fun a=> ?_,fun a=> ?_⟩
     . refine(rE fun i=> ?_).symm;rw[h,rG (i.2.2.2.2.2 _ k)]at a;cases a
     . rw[h]at a;have a:decide (F7 (gx [] D j) C)=true:=by simpa using a
       rw[wv (by omega)];exact⟨⟨by omega,Fs (d:=([]:List D1)) (q:=fun v=>F7 v C) c g f (qA a)⟩,by omega⟩
   . have b:=qB b;rw[D7 (by omega)]at f;exact(rG (show C2 (R,C,D)from⟨by show 0<=R;omega,by show R<= _;omega,by show 0<=C;omega,by show C<= _;omega,e,f⟩)).symm
def ZP (x:A2 Iv.args) (b:awf Iv.args x) (a:Iv.pre x):QZ x:=by
 obtain⟨D,C,_⟩:=x;change List (List D3)at D;change Int at C;obtain⟨k,b,c1,c⟩:(∀l∈D,GN K1 l/\(l.length:Int)=C)/\0<=C/\C<=16384/\D.length<=16384:=a;simp only[QZ,iB,iV];refine⟨fun p=>0<=p.1/\p.1<=(D.length:Int)/\p.2.1=(D.length:Int)/\p.2.2.1=C/\p.2.2.2.1.length=p.1.toNat/\∀i,i<p.1.toNat->SF C.toNat (fun j=>rv ((D.getD i []).getD j zr)) (p.2.2.2.1.getD i []),fun p=>((D.length:Int)-p.1).toNat,⟨qI _,qD _,rfl,rfl,rfl,fun i a=>by simp at a⟩, ?_⟩;rintro⟨i,f,h,rows,_⟩ _ ⟨a,n,b,g,j,c⟩;change Int at i f h;change List (List D1)at rows;simp only at a n b g j c⊢;refine⟨fun h=> ?_,fun h=> ?_⟩
 . have h:=qA h;have j:=H8 (d:=([]:List D3)) a h;obtain⟨f,n⟩:=k _ j;refine⟨⟨a,h⟩,⟨by omega,f⟩, ?_⟩;rintro⟨v,_⟩ _ f;simp only at f⊢;rw[wv (by omega)];rw[show(gx [] D i).length=C.toNat from by omega,G7 a h]at f;refine⟨⟨by simp only[rC];omega,by simp only[rC];omega⟩,⟨by omega,by omega,b,g,by rw[rO,rC];omega,fun k g=> ?_⟩,by omega⟩;show SF _ _ ((rows++ [v]).getD k []);by_cases j:k<rows.length
   . have a:(rows++ [v]).getD k []=rows.getD k []:=by
      rw[qF,wF j, <-qF]
     rw[a];exact c k (by omega)
   . have j:k=i.toNat:=by omega
     have a:(rows++ [v]).getD k []=v:=by
      rw[qF,uC (by omega),show k-rows.length=0 from by omega];rfl
     rw[a,j];exact f
 . have h:=qB h;exact⟨b,by omega,by omega,fun k g=>c k (by omega)⟩
def JA (x:A2 Dh.args) (b:awf Dh.args x) (a:Dh.pre x):Xm x:=by
 obtain⟨⟨R,C,D⟩,_⟩:=x;change Int at R C;change List (List D1)at D;obtain⟨l,c⟩:X5 K1 (R,C,D)/\C2 (R,C,D):=a;obtain⟨a,b,i,j,_,_⟩:=id c;have f:(D.length:Int)=R:=c.2.2.2.2.1;have n:∀w∈D,F7 w C:=c.2.2.2.2.2;simp only at a b i j;simp only[Xm,iB];refine⟨⟨a,qI _,by omega,by omega⟩,fun p=>0<=p.1/\p.1<=R/\fill R.toNat p.1.toNat (fun b=>dl C (A4 (D.getD b []))) p.2.1,fun p=>(R-p.1).toNat,⟨qI _,a,B8o rF⟩, ?_⟩;rintro⟨k,rows,_⟩ _ ⟨a,f,b⟩;change Int at k;change List (List D3)at rows;simp only at a f b⊢;have:=b.1;refine⟨fun h=> ?_,fun h=> ?_⟩
 . have h:=qA h;have f:k<(D.length:Int):=by omega
   have g:=H8 (d:=([]:List D1)) a f;refine⟨⟨a,f⟩,⟨XW c l g,n _ g,i,j⟩, ?_⟩;rintro⟨l,g,_⟩ _ ⟨c,_⟩;simp only at c⊢;rw[wv (by omega)];refine⟨⟨a,by omega⟩,⟨by omega,by omega,lN b a (by omega) ?_⟩,by omega⟩;rw[c,VQ a f]
 . have h:=qB h;exact lJ b (by omega)
def GA (x:A2 V6.args) (B:awf V6.args x) (y:V6.pre x):Tw x:=by
 obtain⟨⟨R,C,D⟩,⟨R',C',D'⟩,_⟩:=x;have E:D.length<=9223372036854775807:=B.1.2.2.1;change Int at R C R' C';change List (List D1)at D D';have z:X5 K1 (R,C,D):=y;simp only[Tw,iB,Ql];simp only[G6];refine⟨fun h=> ?_,fun h=> ?_⟩
 . simp only[uA,rV]at h;refine⟨fun a=>(by cases a),fun a=> ?_⟩;have c:=a.1;simp only[zZ]at c;obtain⟨rfl,rfl,rfl⟩:=c;simp at h
 . simp only[rI,rK,uK]at h;obtain⟨⟨rfl,rfl⟩,F⟩:=h;refine⟨fun p=>0<=p.1/\p.1<=(D.length:Int)/\D.take p.1.toNat=D'.take p.1.toNat/\∀v∈D.take p.1.toNat,∀e∈v,e.2=rc (rv e.2),fun p=>((D.length:Int)-p.1).toNat,⟨qI _,qD _,by simp,by simp⟩, ?_⟩;rintro⟨i,_⟩ _ ⟨f,u,a,c⟩;change Int at i;simp only at f u a c⊢;refine⟨fun h=> ?_,fun h=> ?_⟩
   . have h:=qA h;have o:=H8 (d:=([]:List D1)) f h;have s:=G8 (d:=([]:List D1)) f h;have t:=G8 (d:=([]:List D1)) (l:=D') f (by omega);have r:D.take (i+1).toNat=D.take i.toNat++ [gx [] D i]:=by
      rw[show(i+1).toNat=i.toNat+1 from by omega,rQ,s];rfl
     have A:D'.take (i+1).toNat=D'.take i.toNat++ [gx [] D' i]:=by
      rw[show(i+1).toNat=i.toNat+1 from by omega,rQ,t];rfl
     refine⟨⟨f,h⟩,⟨f,by omega⟩,z _ o, ?_⟩;rintro⟨q,_⟩ _ k;simp only at k⊢;refine⟨fun b=>⟨fun j=>(by cases j),fun j=> ?_⟩,fun b=> ?_⟩
     . obtain⟨n,w⟩:=j;simp only[zZ,true_and]at n;subst n;rw[k,rG (⟨rfl,w _ o⟩: _ /\ _)]at b;cases b
     . rw[k]at b;have b:gx [] D i=gx [] D' i/\∀e∈gx [] D i,e.2=rc (rv e.2):=qA (by simpa using b);rw[wv (by omega)];refine⟨⟨by omega,by omega,by rw[r,A,a,b.1],fun v g=> ?_⟩,by omega⟩;rw[r]at g;rcases qY.1 g with g|g
       . exact c v g
       . rw[qP.1 g];exact b.2
   . have h:=qB h;rw[D7 (by omega),D7 (by omega)]at a;rw[D7 (by omega)]at c;subst a;exact⟨fun _=>⟨rfl,c⟩,fun _=>by trivial⟩
def grown (n m i j:Nat) (f:Nat->Nat->Rat) (rows:List (List D3)):Prop:=rows.length=n/\∀k,k<n->rows.getD k []=(List.range (if k<i then m else if k=i then j else 0)).map fun l=>rc (f k l)
def C0f {n m:Nat} {f:Nat->Nat->Rat} :grown n m 0 0 f (List.replicate n []):=⟨rF,fun k a=>by
 rw[qF,uG,qR a,qK (by omega)];by_cases h:k=0
 . rw[qR h];rfl
 . rw[qK h];rfl⟩
def pX {n m i j:Nat} {f:Nat->Nat->Rat} {rows:List (List D3)} {v:D3} (h:grown n m i j f rows) (a:i<n) (c:v=rc (f i j)):grown n m i (j+1) f (rows.set i (rows.getD i []++ [v])):=⟨by rw[qN];exact h.1,fun k b=>by
 rw[qF,vZ];by_cases a:i=k
 . subst a;rw[qR rfl,qR (by rw[h.1];exact b)];show rows.getD i []++ [v]= _;rw[h.2 i b,qK (by omega),qR rfl,qK (by omega),qR rfl,yC,uJ,c];rfl
 . rw[qK a, <-qF,h.2 k b,qK (fun e:k=i=>a e.symm),qK (fun e:k=i=>a e.symm)]⟩
def pW {n m i:Nat} {f:Nat->Nat->Rat} {rows:List (List D3)} (h:grown n m i m f rows):grown n m (i+1) 0 f rows:=⟨h.1,fun k a=>by
 rw[h.2 k a];have e:(if k<i then m else if k=i then m else 0)=(if k<i+1 then m else if k=i+1 then 0 else 0):=by
  by_cases a:k<i
  . rw[qR a,qR (by omega)]
  . rw[qK a];by_cases a:k=i
    . rw[qR a,qR (by omega)]
    . rw[qK a,qK (by omega)];split<;>rfl
 rw[e]⟩
def A5m {n m i j:Nat} {f:Nat->Nat->Rat} {rows:List (List D3)} (h:grown n m i j f rows) (a:i<n):(rows.getD i []).length=j:=by
 rw[h.2 i a,qK (by omega),qR rfl];simp
def lY {n m:Nat} {f:Nat->Nat->Rat} {rows:List (List D3)} (h:grown n m n 0 f rows) {k:Nat} (a:k<n):rows.getD k []=(List.range m).map fun l=>rc (f k l):=by
 rw[h.2 k a,qR a]
def pV {n m:Nat} {f:Nat->Nat->Rat} {rows:List (List D3)} (h:grown n m n 0 f rows) (d:∀i j,i<n->j<m->qs K1 (f i j)):∀l∈rows,GN K1 l/\(l.length:Int)=(m:Int):=fun l b=>by
 obtain⟨k,a,rfl⟩:=Z7 [] b;rw[h.1]at a;rw[lY h a];refine⟨fun x g=> ?_,by simp⟩;obtain⟨c,b,rfl⟩:=sP.1 g;exact d k c a (vS.1 b)
def A5n {n m:Nat} {f:Nat->Nat->Rat} {rows:List (List D3)} (h:grown n m n 0 f rows) {i j:Nat} (a:i<n) (b:j<m):rv ((rows.getD i []).getD j zr)=f i j:=by
 rw[lY h a,qF,uM,vL b];exact E3 _
def B0b {m:U9} (i:Int) (a:0<=i) (b:i<m.1):gx [] (els m) i=dl m.2.1 (A4 (m.2.2.getD i.toNat [])):=by
 rw[G7 a (by rw[fX];omega),B0a (by omega)]
def A2p {m:U9} {i:Int} (a:0<=i) (b:i<m.1):(gx [] (els m) i).length=m.2.1.toNat:=by rw[B0b i a b,A9s]
def A2q {m:U9} {i j:Int} (a:0<=i) (b:i<m.1) (c:0<=j) (d:j<m.2.1):gx dQ (gx [] (els m) i) j=rc (el m i.toNat j.toNat):=by
 rw[B0b i a b,G7 c (by rw[A9s];omega),B5k _ (by omega)];rfl
def bK (x:A2 Te.args) (a:awf Te.args x) (b:Te.pre x):ZQ x:=by
 obtain⟨⟨R,C,D⟩,⟨R',C',D'⟩,_⟩:=x;have G:aJ (R,C,D):=Vd a.1.2.2.2;have H:aJ (R',C',D'):=Vd a.2.1.2.2.2;change Int at R C R' C';change List (List D1)at D D';obtain⟨A,f,s,y,z,c,a⟩:∃A f:Nat,1<=A/\X5 A (R,C,D)/\X5 A (R',C',D')/\C<=(f:Int)/\(A+A+1)*(f+1)<=K1:=b;have hK:K1=549755813888:=rfl;have b:A+A+1<=K1:=qX (g1o _ (Nat.succ_pos f)) a;have g:=mX y (show A<=K1 by omega);have i:=mX z (show A<=K1 by omega);simp only[ZQ,iB,I2,Ql];refine⟨g, ?_⟩;rintro⟨r,_⟩ _ a;simp only at a⊢;refine⟨fun _=>i, ?_⟩;rintro⟨c,_⟩ b;simp only at b⊢;rw[G6];by_cases c:C2 (R,C,D)
 case neg=>
  have a:r=false:=by rw[a];exact rE c
  rw[a];exact⟨fun _=>⟨fun _=>⟨rfl,by trivial⟩,fun h=>absurd h.1 c⟩,fun h=>(by cases h)⟩
 have a:r=true:=by rw[a];exact rG c
 have b:=(b (by rw[a];rfl)).2;rw[a,b];by_cases d:C2 (R',C',D')
 case neg=>
  rw[rE d];exact⟨fun _=>⟨fun _=>⟨rfl,by trivial⟩,fun h=>absurd h.2 d⟩,fun h=>(by cases h)⟩
 rw[rG d];refine⟨fun h=>(by cases h),fun _=>⟨fun h=> ?_,fun h=> ?_⟩⟩
 . have h:=qA h;exact⟨fun h=>absurd ⟨c,d⟩ h,fun _=>⟨fun _=>⟨rfl,by trivial⟩,fun b=>absurd b h⟩⟩
 have h:=uK.1 (qB h);obtain⟨a,j,o,k,_,_⟩:=id c;obtain⟨l,r,E,M,_,_⟩:=id d;simp only at a j o k l r E M;refine⟨⟨g,c⟩, ?_⟩;rintro⟨e,_⟩ _ t;simp only at t⊢;refine⟨⟨i,d⟩, ?_⟩;rintro⟨w,_⟩ _ u;simp only at u⊢;have g:e.length=R.toNat:=by rw[t];exact fX _
 have g:w.length=R'.toNat:=by rw[u];exact fX _
 refine⟨⟨a,qI _,by omega,by omega⟩, ?_⟩
 let g:Nat->Nat->Rat:=fun i j=>C6 C.toNat fun k=>el (R,C,D) i k*el (R',C',D') k j
 have J:∀i k j,qs (A+A) (el (R,C,D) i k*el (R',C',D') k j):=fun i k j=>IJ (A2o c G y s i k) (A2o d H z s k j)
 have I:∀n,n<=f->∀i j,qs K1 (C6 n fun k=>el (R,C,D) i k*el (R',C',D') k j):=fun n hn i j=>L8 (A4f fun k _=>J i k j) (by
  have l:=rL (A+A+1) hn;have l:(A+A+1)*(f+1)=f*(A+A+1)+(A+A+1):=by rw[sX,xU,tC]
  omega)
 refine⟨fun p=>0<=p.1/\p.1<=R/\grown R.toNat C'.toNat p.1.toNat 0 g p.2.1,fun p=>(R-p.1).toNat,⟨qI _,a,C0f⟩, ?_⟩;rintro⟨i,rows,_⟩ _ ⟨l,f,a⟩;change Int at i;change List (List D3)at rows;simp only at l f a⊢;refine⟨fun f=> ?_,fun f=> ?_⟩
 . have f:=qA f;refine⟨fun p=>0<=p.1/\p.1<=C'/\grown R.toNat C'.toNat i.toNat p.1.toNat g p.2.1,fun p=>(C'-p.1).toNat,⟨qI _,E,a⟩, ?_⟩;rintro⟨j,rows,_⟩ _ ⟨B,g,a⟩;change Int at j;change List (List D3)at rows;simp only at B g a⊢;have v:=a.1;have F:=A5m a (by omega);refine⟨fun b=> ?_,fun b=> ?_⟩
   . have b:=qA b;refine⟨trivial, ?_⟩;rintro⟨r,_⟩ _ g;simp only at g⊢;refine⟨fun p=>0<=p.1/\p.1<=C/\((p.2.1,p.2.2.1),p.2.2.2.1)=rc (C6 p.1.toNat fun k=>el (R,C,D) i.toNat k*el (R',C',D') k j.toNat),fun p=>(C-p.1).toNat,⟨qI _,o,by rw[g];rfl⟩, ?_⟩;rintro⟨k,N,P,O,_⟩ _ ⟨o,g,r⟩;change Int at k;simp only at o g r⊢;refine⟨fun g=> ?_,fun g=> ?_⟩
     . have g:=qA g;have N:(gx [] e i).length=C.toNat:=by rw[t];exact A2p l f
       have N:gx dQ (gx [] e i) k=rc (el (R,C,D) i.toNat k.toNat):=by rw[t];exact A2q l f o g
       have t:(gx [] w k).length=C'.toNat:=by rw[u];exact A2p o (by show k<R';omega)
       have t:gx dQ (gx [] w k) j=rc (el (R',C',D') k.toNat j.toNat):=by rw[u];exact A2q o (by show k<R';omega) B b
       rw[N,t];refine⟨⟨l,by omega⟩,⟨o,by omega⟩,⟨o,by omega⟩,⟨B,by omega⟩,⟨P9 (A2o c G y s _ _) (by omega),P9 (A2o d H z s _ _) (by omega)⟩, ?_⟩;rintro⟨q,_⟩ _ o;simp only at o⊢;rw[E3,E3]at o;refine⟨⟨by rw[r];exact P9 (I _ (by omega) _ _) (by decide),by rw[o];exact P9 (J _ _ _) (by omega)⟩, ?_⟩;rintro⟨t,_⟩ _ s;simp only at s⊢;rw[wv (by omega)];refine⟨⟨by omega,by omega, ?_⟩,by omega⟩;show t= _;rw[s,r,o,E3,E3,show(k+1).toNat=k.toNat+1 from by omega,C6]
     . have g:=qB g;rw[show k.toNat=C.toNat from by omega]at r;rw[wv (by omega)];refine⟨⟨l,by omega⟩,⟨by rw[F,rC];omega,by rw[F,rC];omega⟩,⟨l,by omega⟩,by trivial,⟨by omega,by omega, ?_⟩,by omega⟩;rw[show(j+1).toNat=j.toNat+1 from by omega];exact pX a (by omega) r
   . have b:=qB b;rw[wv (by omega),show(i+1).toNat=i.toNat+1 from by omega];rw[show j.toNat=C'.toNat from by omega]at a;exact⟨⟨by omega,by omega,pW a⟩,by omega⟩
 . have f:=qB f;rw[show i.toNat=R.toNat from by omega]at a;have v:=a.1;refine⟨⟨fun l v=> ?_,E,M,by omega⟩, ?_⟩
   . have:=pV a (fun i j _ _=>I _ (by omega) i j) l v;exact⟨this.1,by omega⟩
   . rintro⟨m,_⟩ _ f;simp only at f⊢;rw[v]at f;exact⟨fun h=>absurd ⟨c,d⟩ h,fun _=>⟨fun b=>absurd h b,fun _=>⟨A5s f fun i j b c=>A5n a b c,by trivial⟩⟩⟩
def jX:An:= {}
def jY:An:= {}
def JP:An:= {plan:= [(1,[3,7],[],true,(pZ9 0 3 (.q 3 (pZ9 4 3 (.q 7 (.p 8 (.p 9 .done))))))),(4,[3,7,10],[],true,(pZ9 0 3 (.q 3 (pZ9 4 3 (.q 7 (.p 8 (.p 9 (.q 10 (.p 11 (.e 12 (.p 13 .done)))))))))))]}
def MY:An:= {}
def Xw:An:= {}
def QM:A2 Mx.args->Prop:=fun(x:Cn)=>let b:=(u64.wrap x.2.1);let a:=(u64.wrap x.1);u64.wrap x.2.1≠0/\(0<x.2.1->(0:Int)<=i64.wrap (a.tmod b)/\i64.wrap (a.tmod b)<x.2.1/\i64.wrap (a.tmod b)=a.tmod x.2.1)
def oF:A2 My.args->Prop:=fun(x:Lr)=>(x.1,(0:Int))=(x.1,(0:Int))
def Pn:A2 Ac.args->Prop:=fun(x:(List Int×Int)×Int×Unit)=>let e:=(1:Int);let d:=(↑x.1.1.length:Int);let c:=(x.1.1.length:Int);let b:=(0:Int);let a:=(i64.wrap (x.1.2+e)-e);(iB (decide (c<=x.1.2)) ((b<=b/\b<x.2.1)/\x.1.1=x.1.1/\b<=x.1.2/\x.1.2<=d) ((b<=i64.wrap a/\i64.wrap a<c)/\b<x.2.1/\Cp fun r=>(b<x.2.1->b<=r.1/\r.1<x.2.1/\r.1=(u64.wrap (gx b x.1.1 (i64.wrap a))).tmod x.2.1)->(b<=r.1/\r.1<x.2.1)/\x.1.1=x.1.1/\b<=i64.wrap (x.1.2+e)/\i64.wrap (x.1.2+e)<=d))
abbrev BJ:=(List Int×Int)×Unit
def Tq:A2 Bl.args->Prop:=fun(x:BJ)=>let b:=(x.1.1.length:Int);let a:=(0:Int);(a<(13:Int)/\a<=x.1.2/\x.1.2<=b)/\∀(r:C7) (o:BJ),let c:=(o.1.1.length:Int);K9 r.1/\True->((Ty.int i64).sl.pair (Ty.int i64)).wf o.1/\True->a<=r.1/\r.1<13->o.1.1=x.1.1/\a<=o.1.2/\o.1.2<=b->(a<(4:Int)/\a<=o.1.2/\o.1.2<=c)/\∀(e:C7) (d:BJ),K9 e.1/\True->((Ty.int i64).sl.pair (Ty.int i64)).wf d.1/\True->a<=e.1/\e.1<4->d.1.1=o.1.1/\a<=d.1.2/\d.1.2<=c->True/\I2 fun f=>f.1=rc (Rat.divInt (i64.wrap (r.1-6)) (i64.wrap (1+e.1)))->AA f.1/\d.1.1=x.1.1/\a<=d.1.2/\d.1.2<=(↑x.1.1.length:Int)
def Hy:A2 O9.args->Prop:=fun(x:BJ)=>let b:=(x.1.1.length:Int);let a:=(0:Int);(a<(9:Int)/\a<=x.1.2/\x.1.2<=b)/\∀(r:C7) (o:BJ),let c:=(o.1.1.length:Int);K9 r.1/\True->((Ty.int i64).sl.pair (Ty.int i64)).wf o.1/\True->a<=r.1/\r.1<9->o.1.1=x.1.1/\a<=o.1.2/\o.1.2<=b->(a<(4:Int)/\a<=o.1.2/\o.1.2<=c)/\∀(e:C7) (d:BJ),K9 e.1/\True->((Ty.int i64).sl.pair (Ty.int i64)).wf d.1/\True->a<=e.1/\e.1<4->d.1.1=o.1.1/\a<=d.1.2/\d.1.2<=c->True/\I2 fun f=>f.1=rc (Rat.divInt (i64.wrap (1+r.1)) (i64.wrap (1+e.1)))->(AA f.1/\(0:Rat)<rv f.1)/\d.1.1=x.1.1/\a<=d.1.2/\d.1.2<=(↑x.1.1.length:Int)
def YO (x:A2 My.args) (_:awf My.args x) (_:My.pre x):oF x:=rfl
def BS (x:A2 Ac.args) (b:awf Ac.args x) (c:Ac.pre x):Pn x:=by
 obtain⟨⟨l,i⟩,n,_⟩:=x;have d:l.length<=9223372036854775807:=b.1.1.1;change Int at i n;change List Int at l;obtain⟨b,d,f⟩:0<n/\0<=i/\i<=(l.length:Int):=c;simp only[Pn,iB,Cp];refine⟨fun h=>⟨⟨by omega,b⟩,by trivial,d,f⟩,fun h=> ?_⟩;have h:=qB h;rw[wv (a:=i+1) (by omega),wv (a:=i+1-1) (by omega)];refine⟨⟨by omega,by omega⟩,b, ?_⟩;rintro⟨r,_⟩ _ c;exact⟨⟨(c b).1,(c b).2.1⟩,by trivial,by omega,by omega⟩
def YN (x:A2 Mx.args) (d:awf Mx.args x) (c:Mx.pre x):QM x:=by
 obtain⟨a,b,_⟩:=x;change Int at a b;have f:0<b:=c;have c:NX .i64 b:=d.2.1;unfold NX at c;rw[show i64.min= -9223372036854775808 from by decide,show i64.max=9223372036854775807 from by decide]at c;simp only[QM];have e:u64.wrap b=b:=by simp[IntKind.wrap,IntKind.bits,IntKind.signed];omega
 have c:0<=u64.wrap a:=by simp[IntKind.wrap,IntKind.bits,IntKind.signed];omega
 rw[e];have d:0<=(u64.wrap a).tmod b:=yZ _ c;have c:(u64.wrap a).tmod b<b:=Int.tmod_lt_of_pos _ f;rw[wv (by omega)];exact⟨by omega,fun _=>⟨d,c,rfl⟩⟩
def Ot {a b:Int} (d:a.natAbs<4294967296) (c:0<b) (f:b.natAbs<4294967296):AA (rc (Rat.divInt a b)):=by
 refine⟨_, ?_,rfl⟩;rw[HN c];exact XR (by omega) (Gm (by simpa using d)) (Gm (by simpa using f))
def FU (x:A2 Bl.args) (b:awf Bl.args x) (a:Bl.pre x):Tq x:=by
 obtain⟨⟨l,i⟩,_⟩:=x;change Int at i;change List Int at l;obtain⟨b,c⟩:0<=i/\i<=(l.length:Int):=a;simp only[Tq,I2];refine⟨⟨by omega,b,c⟩, ?_⟩;rintro⟨b,_⟩ ⟨⟨f,d⟩,_⟩ _ _ c a;change Int at d b;change List Int at f;simp only at c a⊢;obtain⟨rfl,b,c⟩:=a;refine⟨⟨by omega,b,c⟩, ?_⟩;rintro⟨d,_⟩ ⟨⟨h,g⟩,_⟩ _ _ f a;change Int at g d;change List Int at h;simp only at f a⊢;obtain⟨rfl,b,c⟩:=a;refine⟨trivial, ?_⟩;rintro⟨q,_⟩ _ a;simp only at a⊢;rw[wv (by omega),wv (by omega)]at a;exact⟨by rw[a];exact Ot (by omega) (by omega) (by omega),by trivial,b,c⟩
def Ds:An:= {}
def Jf:An:= {join:= [(16,⟨[0,1,2,6],[],[],[],[(0, .row tE 106)]⟩)],loop:= [(2,⟨[0,1,2,6],[],[(7,false,vI),(8,false,vI)],[],[(0, .row tE 106)]⟩),(9,⟨[0,1,2,6],[],[(7,false,vI),(8,false,vI)],[],[(0, .row tE 106)]⟩),(7,⟨[0,1,2],[],[(6,false,vI)],[],[(0, .row tE 106)]⟩)]}
def Eh:An:= {loop:= [(4,⟨[0,1,2,3,8],[],[(9,false,vI)],[],[(0, .row tE 106)]⟩),(1,⟨[0,1,2,3],[],[(8,false,vI)],[],[(0, .row tE 106)]⟩)],plan:= [(4,[8,13],[],false,(pZ9 0 8 (.q 8 (pZ9 9 4 (.q 13 (.e 14 (.p 15 (.p 16 .done)))))))),(6,[9,13],[15,17],true,(pZ9 0 9 (.q 9 (pZ9 10 3 (.q 13 (.p 14 (.e 15 (.p 16 (.e 17 .done)))))))))]}
def KC:An:= {}
def KB:An:= {join:= [(14,⟨[3,18,19,20],[],[(4,false,vI)],[],[(0, .row tE 106)]⟩)],loop:= [(8,⟨[3,18,19],[],[(4,false,vI),(20,false,vI)],[],[(0, .row tE 106)]⟩)],plan:= [(10,[8,10],[],true,(pZ9 0 8 (.q 8 (.p 9 (.q 10 (.p 11 (.p 12 .done))))))),(11,[8,10],[14],true,(pZ9 0 8 (.q 8 (.p 9 (.q 10 (.e 11 (.p 12 (.p 13 (.e 14 .done)))))))))]}
def Q7:A2 E8.args->Prop:=fun(x:List EE×((EE×EE×Unit->Prop)×(EE×EE×Unit->Int))×Unit)=>let a:=(x.1.length:Int);Go.Proofs.Tryz.prog=Go.Proofs.Tryz.prog/\false=false/\((AK x.2.1.1 fun(z:SP)=>x.2.1.2 z)/\a=a/\List.length x.1<=20)/\∀(r:Unit) (o:Yr),True->tE.sl.wf o.1/\True->True->o.1.Perm x.1/\Yp (fun(z:SP)=>x.2.1.2 z) o.1->True/\o.1.Perm x.1/\Yp x.2.1.2 o.1
abbrev A7k:=Int×Int×List EE×Unit
abbrev aS:=Int×List EE×Unit
def Aw:A2 H4.args->Prop:=fun(x:List EE×Int×((EE×EE×Unit->Prop)×(EE×EE×Unit->Int))×Unit)=>let g:=(0:Int);∃(I:A7k->Prop),∃(a: _->Nat),I (g,(20:Int),x.1,())/\∀(p:A7k),let f:=(p.2.2.1.length:Int);let b:=p.1.toNat;(Ty.int i64).wf p.1/\(Ty.int i64).wf p.2.1/\MV p.2.2.1/\True->I p->(iB (decide (p.2.1<=x.2.1)) (Go.Proofs.Tryz.prog=Go.Proofs.Tryz.prog/\false=false/\((AK x.2.2.1.1 fun(z:SP)=>x.2.2.1.2 z)/\g<=p.1/\p.1<=p.2.1/\p.2.1<=f/\List.length p.2.2.1<=100000)/\∀(r:Unit) (o:Yr),let c:=(p.2.1,i64.wrap (p.2.1+20),o);True->tE.sl.wf o.1/\True->True->o.1.Perm p.2.2.1/\List.take b o.1=List.take b p.2.2.1/\List.drop p.2.1.toNat o.1=List.drop p.2.1.toNat p.2.2.1/\Yp (fun(z:SP)=>x.2.2.1.2 z) (List.take (Int.toNat p.2.1-Int.toNat p.1) (List.drop b o.1))->I c/\a c<a p) (Go.Proofs.Tryz.prog=Go.Proofs.Tryz.prog/\false=false/\((AK x.2.2.1.1 fun(z:SP)=>x.2.2.1.2 z)/\g<=p.1/\p.1<=x.2.1/\x.2.1<=f/\List.length p.2.2.1<=100000)/\∀(r:Unit) (o:Yr),True->tE.sl.wf o.1/\True->True->o.1.Perm p.2.2.1/\List.take b o.1=List.take b p.2.2.1/\List.drop x.2.1.toNat o.1=List.drop x.2.1.toNat p.2.2.1/\Yp (fun(z:SP)=>x.2.2.1.2 z) (List.take (Int.toNat x.2.1-Int.toNat p.1) (List.drop b o.1))->∃(I:aS->Prop),∃(a: _->Nat),I ((20:Int),o)/\∀(p:aS),(Ty.int i64).wf p.1/\MV p.2.1/\True->I p->(iB (decide (p.1<x.2.1)) (∃(I_1:A7k->Prop),∃(c: _->Nat),I_1 (g,i64.wrap (2*p.1),p.2.1,())/\∀(h:A7k),let e:Prop:=(i64.wrap (h.1+p.1)<x.2.1);(Ty.int i64).wf h.1/\(Ty.int i64).wf h.2.1/\MV h.2.2.1/\True->I_1 h->(iB (decide (h.2.1<=x.2.1)) (Go.Proofs.Tryz.prog=Go.Proofs.Tryz.prog/\false=false/\False/\∀(r:Unit) (o:Yr),let b:=(h.2.1,i64.wrap (h.2.1+i64.wrap (2*p.1)),o);True->tE.sl.wf o.1/\True->True->True->I_1 b/\c b<c h) (∃(J:Yr->Prop),((iB (decide e) (Go.Proofs.Tryz.prog=Go.Proofs.Tryz.prog/\false=false/\False/\∀(r:Unit) (o:Yr),True->tE.sl.wf o.1/\True->True->True->J o) (J (h.2.2.1,()))))/\iV fun i=>let d:=(i64.wrap (p.1*2),i);J i->I d/\a d<a p))) (True/\List.Perm p.2.1 x.1/\Yp x.2.2.1.2 p.2.1))))
def R4:A2 F2.args->Prop:=fun(x:List EE×Int×Int×((EE×EE×Unit->Prop)×(EE×EE×Unit->Int))×Unit)=>let h:=(0:Int);let f:=(1:Int);∃(I:aS->Prop),∃(j: _->Nat),I (i64.wrap (x.2.1+f),x.1,())/\∀(p:aS),(Ty.int i64).wf p.1/\MV p.2.1/\True->I p->(iB (decide (p.1<x.2.2.1)) (∃(I_1:aS->Prop),∃(n: _->Nat),I_1 (p.1,p.2.1,())/\∀(m:aS),let k:=m.1.toNat;let i:=(i64.wrap (p.1+f),m.2.1,());let e:Prop:=(x.2.1<m.1);let d:=(i64.wrap (m.1-f));let g:=(List.set m.2.1 k (List.getD m.2.1 d.toNat E4));let c:=(m.2.1.length:Int);let l:Prop:=(h<=m.1/\m.1<c);let b:=(i64.wrap (m.1-f),g.set d.toNat (List.getD m.2.1 k E4),());let a:=(List.getD m.2.1 k E4,List.getD m.2.1 d.toNat E4,());let d:=(decide (x.2.2.2.1.2 a<h));(Ty.int i64).wf m.1/\MV m.2.1/\True->I_1 m->(decide e=true->h<=m.1/\m.1<c)/\(decide e=true->h<=i64.wrap (m.1-f)/\i64.wrap (m.1-f)<c)/\Go.Proofs.Tryz.prog=Go.Proofs.Tryz.prog/\(decide e=true->x.2.2.2.1.1 a)/\((decide e=true->(Ty.int i64).wf (x.2.2.2.1.2 a))->(iB (I6 (decide e) d false) ((h<=i64.wrap (m.1-f)/\i64.wrap (m.1-f)<c)/\l/\l/\(h<=i64.wrap (m.1-f)/\i64.wrap (m.1-f)<(↑g.length:Int))/\I_1 b/\n b<n m) (I i/\j i<j p)))) (True/\List.Perm p.2.1 x.1/\List.take x.2.1.toNat p.2.1=List.take x.2.1.toNat x.1/\List.drop x.2.2.1.toNat p.2.1=List.drop x.2.2.1.toNat x.1/\Yp x.2.2.2.1.2 (List.take (x.2.2.1.toNat-x.2.1.toNat) (List.drop x.2.1.toNat p.2.1))))
def Pz:A2 Ap.args->Prop:=fun(x:SP)=>True/\Cp fun r=>r.1=K6 x.1.1 x.2.1.1->r.1=K6 x.1.1 x.2.1.1
def Py:A2 Ao.args->Prop:=fun(x:Yr)=>let i:=(1:Int);let e:=(0:Int);let k:=e.toNat;let d:=(x.1.length:Int);True/\Ql fun r=>r.1=decide (Fj x.1)->(iB r.1 ((Fj x.1->x.1=x.1)/\(¬Fj x.1->Fj x.1/\(∀(j:Int),A4 x.1 j=A4 x.1 j)/\List.length x.1<=20/\MR (16777216:Nat) x.1)) ((e<=d/\d<=d/\(↑(64:Nat):Int)*d<=(281474976710656:Int)/\d<=(9223372036854775807:Int))/\∃(b:SP->Prop),∃(a:SP->Int),(∀(y:SP),tE.wf y.1/\tE.wf y.2.1/\True->b y->True/\Cp fun z=>z.1=K6 y.1.1 y.2.1.1->false=false/\z.1=a y)/\(AK b a/\(Me (List.replicate d.toNat E4) x.1).length<=(20:Nat))/\∀(s:Unit) (o:Yr),True->tE.sl.wf o.1/\True->True->o.1.Perm (Me (List.replicate d.toNat E4) x.1)/\Yp a o.1->∃(I:A7k->Prop),∃(n: _->Nat),I (e,e,o)/\∀(p:A7k),let m:Prop:=(p.2.1<(↑o.1.length:Int));let l:=(i64.wrap (p.1-i));let g:=p.1.toNat;let c:=(p.2.2.1.length:Int);let f:Prop:=(e<=i64.wrap (p.1-i)/\i64.wrap (p.1-i)<c);let b:=(List.getD p.2.2.1 p.2.1.toNat E4);let a:=(List.getD p.2.2.1 l.toNat E4);let d:=(decide (a.1=b.1));(Ty.int i64).wf p.1/\(Ty.int i64).wf p.2.1/\MV p.2.2.1/\True->I p->(iB (decide m) (∃(J:aS->Prop),((e<=p.2.1/\p.2.1<c)/\(decide (e<p.1)=true->e<=i64.wrap (p.1-i)/\i64.wrap (p.1-i)<c)/\(iB (I6 (decide (e<p.1)) d false) (f/\(E6 a.2/\E6 b.2)/\I2 fun r=>r.1=rc (rv a.2+rv b.2)->f/\J (p.1,List.set p.2.2.1 l.toNat (a.1,r.1),())) ((e<=p.1/\p.1<c)/\J (i64.wrap (p.1+i),List.set p.2.2.1 g b,()))))/\∀(q:aS),let h:=(q.1,i64.wrap (p.2.1+i),q.2.1,());(Ty.int i64).wf q.1/\MV q.2.1/\True->J q->I h/\n h<n p) ((e<=e/\e<=p.1/\p.1<=c)/\(Fj x.1->List.drop k (List.take g p.2.2.1)=x.1)/\(¬Fj x.1->Fj (List.drop k (List.take g p.2.2.1))/\(∀(j:Int),A4 (List.drop k (List.take g p.2.2.1)) j=A4 x.1 j)/\(List.drop k (List.take g p.2.2.1)).length<=(20:Nat)/\MR (16777216:Nat) (List.drop k (List.take g p.2.2.1)))))))
def UY {a b:List D1} (h:a.Perm b) (j:Int):A4 a j=A4 b j:=by
 induction h with
 |nil=>rfl
 |cons e _ c=>rw[A4,A4,c]
 |swap e f l=>simp only[A4];rw[<-yF, <-yF,g3z (if f.1=j then rv f.2 else 0)]
 |trans _ _ c d=>rw[c,d]
def UX (e:D1) (j:Int):A4 [e] j=if e.1=j then rv e.2 else 0:=by
 simp only[A4,rN]
structure MS (o:List D1) (n i:Int) (c:List D1):Prop where
 n0:0<=n
 ni:n<=i
 il:i<=(o.length:Int)
 cl:c.length=o.length
 rest:∀j:Nat,i.toNat<=j->c.getD j E4=o.getD j E4
 ord:Fj (c.take n.toNat)
 cm:∀j,A4 (c.take n.toNat) j=A4 (o.take i.toNat) j
 le:∀e∈c.take n.toNat,∃y∈o.take i.toNat,y.1=e.1
 szs:∀e∈c.take n.toNat,sz (65537*i.toNat) e.2/\Jh e.2
def MS.init (o:List D1):MS o 0 0 o:=⟨qI _,qI _,qD _,rfl,fun _ _=>rfl,List.Pairwise.nil,fun _=>rfl,fun e a=>(by cases a),fun e a=>(by cases a)⟩
def GP {a:Type} {l:List a} {k:Nat} {x:a} (h:k<l.length):(l.set k x).take (k+1)=l.take k++ [x]:=by
 rw[rQ,yU (qZ k),tA h];rfl
def Wk {a:Type} {l:List a} {k:Nat} (d:a) (h:k<l.length):l.take (k+1)=l.take k++ [l.getD k d]:=by
 rw[rQ,qT h,H6 _ _ h];rfl
variable {o c:List D1} {n i:Int}
def MS.bound (h:MS o n i c) (g:o.Pairwise fun a b=>a.1<=b.1) (d:i<(o.length:Int)):∀e∈c.take n.toNat,e.1<=(o.getD i.toNat E4).1:=fun e f=>by
 obtain⟨y,j,d⟩:=h.le e f;obtain⟨k,f,rfl⟩:=uU.1 j;rw[qW]at f;rw[g1d]at d;have f:=h.n0;have f:=h.ni;have:=tY.1 g k i.toNat (by omega) (by omega) (by omega);rw[H6 _ _ (show i.toNat<o.length by omega), <-d];exact this
def MS.push (h:MS o n i c) (f:o.Pairwise fun a b=>a.1<=b.1) (w:MR 65536 o) (t:AF o) (d:i<(o.length:Int)) (k:0<n->(c.getD (n-1).toNat E4).1≠(o.getD i.toNat E4).1):MS o (n+1) (i+1) (c.set n.toNat (o.getD i.toNat E4)):=by
 have r:=h.n0;have g:=h.ni;have s:=h.cl;have j:=h.bound f d;have f:(c.set n.toNat (o.getD i.toNat E4)).take (n+1).toNat=c.take n.toNat++ [o.getD i.toNat E4]:=by
  rw[show(n+1).toNat=n.toNat+1 from by omega];exact GP (by omega)
 have l:o.take (i+1).toNat=o.take i.toNat++ [o.getD i.toNat E4]:=by
  rw[show(i+1).toNat=i.toNat+1 from by omega];exact Wk E4 (by omega)
 have u:∀e∈c.take n.toNat,e.1<(o.getD i.toNat E4).1:=fun e d=>by
  have g:=j e d;have v:0<n:=by
   rcases Int.lt_or_eq_of_le r with g|g
   . exact g
   . rw[<-g]at d;cases d
  have g:(n-1).toNat<c.length:=by omega
  have r:c.take n.toNat=c.take (n-1).toNat++ [c.getD (n-1).toNat E4]:=by
   rw[show n.toNat=(n-1).toNat+1 from by omega];exact Wk E4 g
  have g:=j (c.getD (n-1).toNat E4) (by rw[r];simp);have k:=k v;have g:=h.ord;rw[r]at d g;rcases qY.1 d with d|d
  . have:=(tL.1 g).2.2 e d _ (qP.2 rfl);omega
  . rw[qP]at d;subst d;omega
 have g:o.getD i.toNat E4∈o:=C8 (by omega);refine⟨by omega,by omega,by omega,by rw[qN];exact s,fun j k=> ?_, ?_,fun j=> ?_,fun e d=> ?_,fun e d=> ?_⟩
 . rw[qF,tD (by omega), <-qF];exact h.rest j (by omega)
 . rw[f];exact kL h.ord u
 . rw[f,l,N0,N0,h.cm]
 . rw[f]at d;rw[l];rcases qY.1 d with d|d
   . obtain⟨y,j,k⟩:=h.le e d;exact⟨y,sJ _ j,k⟩
   . rw[qP]at d;subst d;exact⟨_,tH _ (qP.2 rfl),rfl⟩
 . rw[f]at d;rcases qY.1 d with d|d
   . exact⟨F9 (h.szs e d).1 (by omega),(h.szs e d).2⟩
   . rw[qP]at d;subst d;exact⟨F9 (w _ g) (by omega),t _ g⟩
def MS.add (h:MS o n i c) (O:MR 65536 o) (G:AF o) (W:i<(o.length:Int)) (Z:0<n) (r:(c.getD (n-1).toNat E4).1=(o.getD i.toNat E4).1):sz (65537*i.toNat) (c.getD (n-1).toNat E4).2/\sz 65536 (o.getD i.toNat E4).2/\MS o n (i+1) (c.set (n-1).toNat ((c.getD (n-1).toNat E4).1,rc (rv (c.getD (n-1).toNat E4).2+rv (o.getD i.toNat E4).2))):=by
 have a0:=h.ni;have F:=h.cl;have s:(n-1).toNat<c.length:=by omega
 have w:c.take n.toNat=c.take (n-1).toNat++ [c.getD (n-1).toNat E4]:=by
  rw[show n.toNat=(n-1).toNat+1 from by omega];exact Wk E4 s
 have v:o.take (i+1).toNat=o.take i.toNat++ [o.getD i.toNat E4]:=by
  rw[show(i+1).toNat=i.toNat+1 from by omega];exact Wk E4 (by omega)
 have H:c.getD (n-1).toNat E4∈c.take n.toNat:=by rw[w];simp
 have u:o.getD i.toNat E4∈o:=C8 (by omega);obtain⟨A,T⟩:=h.szs _ H;have B:=O _ u;have U:=G _ u;refine⟨A,B, ?_⟩;have j:=h.ord;have l:=h.cm;have t:=h.le;have f:=h.szs;rw[w]at j l t f;have J:=h.rest;generalize Y:c.getD (n-1).toNat E4=z at*;generalize o.getD i.toNat E4=g at*;have d:∀x:D1,(c.set (n-1).toNat x).take n.toNat=c.take (n-1).toNat++ [x]:=fun x=>by
  rw[show n.toNat=(n-1).toNat+1 from by omega];exact GP s
 obtain⟨P,a1,Q⟩:=tL.1 j;have I:qs (65537*(i+1).toNat) (rv z.2+rv g.2):=by
  have a:1<=i.toNat:=by omega
  exact L8 (XQ (Jm T A (by omega)) (Jm U B (by decide))) (by omega)
 refine⟨h.n0,by omega,by omega,by rw[qN];exact F,fun y X=> ?_, ?_,fun y=> ?_,fun e b=> ?_,fun e b=> ?_⟩
 . rw[qF,tD (by omega), <-qF];exact J y (by omega)
 . rw[d];exact tL.2 ⟨P,zH _ _,fun D E V k=>by rw[qP]at k;subst k;exact Q D E z (qP.2 rfl)⟩
 . rw[d,v,N0,N0, <-l,N0,UX,UX,UX];simp only;rw[E3,r,yF];congr 1;split
   . rfl
   . rw[rN]
 . rw[d]at b;rw[v];rcases qY.1 b with a|a
   . obtain⟨R,M,N⟩:=t e (sJ _ a);exact⟨R,sJ _ M,N⟩
   . rw[qP]at a;subst a;exact⟨g,tH _ (qP.2 rfl),r.symm⟩
 . rw[d]at b;rcases qY.1 b with a|a
   . exact⟨F9 (f e (sJ _ a)).1 (by omega),(f e (sJ _ a)).2⟩
   . rw[qP]at a;subst a;exact⟨GO I,TF _⟩
def CV (x:A2 Ap.args) (a:awf Ap.args x) (_:Ap.pre x):Pz x:=by
 simp only[Pz,Cp];exact⟨trivial,fun r _ h=>h⟩
def Co (x:A2 F2.args) (a1:awf F2.args x) (P:F2.pre x):R4 x:=by
 obtain⟨l,a,b,⟨T,g⟩,_⟩:=x;change List (Int×(Bool×List Int)×List Int)at l;change Int at a b;obtain⟨⟨O,R,N⟩,V,W,X,Z⟩:AK T g/\0<=a/\a<=b/\b<=(l.length:Int)/\l.length<=100000:=P;simp only[R4,iB];have Q:∀x y z:D1,¬g (y,x,())<0->¬g (z,y,())<0->¬g (z,x,())<0:=fun x y z v f=>R z y x f v
 refine⟨fun p=>a+1<=p.1/\(p.1<=b\/p.1=a+1)/\p.2.1.Perm l/\p.2.1.take a.toNat=l.take a.toNat/\p.2.1.drop b.toNat=l.drop b.toNat/\(∀s t,a.toNat<=s->s<t->t<p.1.toNat->t<b.toNat->¬g (p.2.1.getD t E4,p.2.1.getD s E4,())<0),fun p=>(b-p.1).toNat, ?_, ?_⟩
 . rw[wv (by omega)];refine⟨qI _, .inr rfl,wP _,rfl,rfl,fun s t v f k w=> ?_⟩;change t<(a+1).toNat at k;omega
 rintro⟨i,m,_⟩ _ ⟨M,v,f,k,w,E⟩;change Int at i;change List (Int×(Bool×List Int)×List Int)at m;simp only at M v f k w E⊢;have a0:=f.length_eq;refine⟨fun h=> ?_,fun h=> ?_⟩
 . have h:=qA h;refine⟨fun p=>a<=p.1/\p.1<=i/\p.2.1.Perm l/\p.2.1.take a.toNat=l.take a.toNat/\p.2.1.drop b.toNat=l.drop b.toNat/\B1b (fun x y=>¬g (y,x,())<0) E4 p.2.1 a.toNat i.toNat p.1.toNat,fun p=>(p.1-a).toNat,⟨by show a<=i;omega,qI _,f,k,w,A0c fun s t n o r=>E s t n o r (by omega)⟩, ?_⟩;rintro⟨j,y,_⟩ _ ⟨I,J,u,A,B,D⟩;change Int at j;change List (Int×(Bool×List Int)×List Int)at y;simp only at I J u A B D⊢;have a2:=u.length_eq;have H:i64.wrap (j-1)=j-1:=wv (by omega);rw[H];have G:(j-1).toNat=j.toNat-1:=by omega
   rw[G];refine⟨fun F=>⟨by omega,by omega⟩,fun F=> ?_,trivial,fun _=>O _ _,fun _=>⟨fun c=> ?_,fun c=> ?_⟩⟩
   . have F:=qA F;exact⟨by omega,by omega⟩
   . rw[J1]at c;simp only[qC,rV]at c;obtain⟨a4,U⟩:=c;refine⟨⟨by omega,by omega⟩,⟨by omega,by omega⟩,⟨by omega,by omega⟩,⟨by omega,by rw[qN];omega⟩,⟨by omega,by omega, ?_, ?_, ?_, ?_⟩,by omega⟩
     . exact(A1o (d:=E4) (l:=y) (j:=j.toNat) (by omega)).trans u
     . exact(A1p (d:=E4) (l:=y) (by omega)).trans A
     . exact(A1n (d:=E4) (l:=y) (by omega)).trans B
     . exact A5q D (by omega) (by omega) (by omega) (N _ _ U)
   . rw[J1]at c;simp only[xC,rK]at c;rw[wv (by omega)];refine⟨⟨by omega, .inl (by omega),u,A,B,fun s t n o r a3=> ?_⟩,by omega⟩;refine B1c D Q (by omega) (fun Y=> ?_) s t n o (by change t<(i+1).toNat at r;omega);rcases c with c|c
     . omega
     . exact c
 . have h:=qB h;refine⟨trivial,f,k,w, ?_⟩;unfold Yp;have:=XM (q:=fun x y=>¬g (y,x,())<0) (d:=E4) (l:=m) (a:=a.toNat) (b:=b.toNat) (by omega) fun s t n o r=>E s t n o (by omega) r
   exact this
def Hm (x:A2 H4.args) (O:awf H4.args x) (j:H4.pre x):Aw x:=by
 obtain⟨l,n,⟨G,c⟩,_⟩:=x;change List (Int×(Bool×List Int)×List Int)at l;change Int at n;obtain⟨u,N,J⟩:AK G c/\n=(l.length:Int)/\l.length<=20:=j;simp only[Aw,iB,iV];refine⟨fun p=>(p.1=0/\p.2.1=20/\p.2.2.1=l)\/(p.1=20/\p.2.1=40/\n=20/\p.2.2.1.Perm l/\Yp c p.2.2.1),fun p=>(40-p.2.1).toNat, .inl ⟨rfl,rfl,rfl⟩, ?_⟩;rintro⟨b,r,m,_⟩ _ i;change Int at b r;change List (Int×(Bool×List Int)×List Int)at m;simp only at i⊢;refine⟨fun h=> ?_,fun h=> ?_⟩
 . have h:=qA h;obtain⟨rfl,rfl,rfl⟩:b=0/\r=20/\m=l:=by
    rcases i with s| ⟨_,s,_⟩
    . exact s
    . omega
   refine⟨trivial,trivial,⟨u,qI _,by omega,by omega,by omega⟩, ?_⟩;rintro H ⟨o,_⟩ _ _ _ ⟨d,f,k,a⟩;simp only at d f k a⊢;rw[wv (by omega)];refine⟨.inr ⟨by trivial,by trivial,by omega,d, ?_⟩,by simp⟩;have B:=d.length_eq;change Yp c ((o.drop 0).take (20-0))at a;rw[tW,qV (by omega)]at a;exact a
 . have h:=qB h;have A:0<=b/\b<=n/\m.Perm l/\(b=0\/b=n/\Yp c m):=by
    rcases i with⟨rfl,rfl,rfl⟩ | ⟨rfl,rfl,I,j,s⟩
    . exact⟨qI _,by omega,wP _, .inl rfl⟩
    . exact⟨by decide,by omega,j, .inr ⟨by omega,s⟩⟩
   obtain⟨E,F,z,g⟩:=A;have M:=z.length_eq;refine⟨trivial,trivial,⟨u,E,F,by omega,by omega⟩, ?_⟩;rintro H ⟨o,_⟩ _ _ _ ⟨d,f,k,a⟩;simp only at d f k a⊢;have B:=d.length_eq;have D:Yp c o:=by
    rcases g with g| ⟨g,s⟩
    . change Yp c ((o.drop b.toNat).take (n.toNat-b.toNat))at a;rw[g]at a;change Yp c ((o.drop 0).take (n.toNat-0))at a;rw[tW,qV (by omega)]at a;exact a
    . rw[qV (by omega),qV (by omega)]at f;rw[f];exact s
   refine⟨fun p=>p.1=20/\p.2.1.Perm l/\Yp c p.2.1,fun _=>0,⟨rfl,d.trans z,D⟩, ?_⟩;rintro⟨P,Q,_⟩ _ ⟨v,w,y⟩;simp only at v w y⊢;subst v;refine⟨fun t=> ?_,fun _=>⟨trivial,w,y⟩⟩;have t:=qA t;omega
def Cd (x:A2 E8.args) (a:awf E8.args x) (c:E8.pre x):Q7 x:=by
 obtain⟨l,⟨d,f⟩,_⟩:=x;obtain⟨b,a⟩:AK d f/\l.length<=20:=c;simp only[Q7];refine⟨trivial,trivial,⟨b,trivial,a⟩, ?_⟩;rintro r ⟨o,_⟩ _ _ _ h;exact⟨trivial,h⟩
def mW:AK (fun _=>True) (fun z=>K6 z.1.1 z.2.1.1):=by
 refine⟨fun _ _=>trivial,fun a b c=> ?_,fun a b=> ?_⟩
 . simp only[K6];split<;>split<;>split<;>(try split)<;>(try split)<;>(try split)<;>omega
 . simp only[K6];split<;>split<;>(try split)<;>(try split)<;>omega
def A9g {a b:Int} :¬K6 a b<0↔b<=a:=by
 unfold K6;split
 . omega
 . split<;>omega
def CU (x:A2 Ao.args) (b:awf Ao.args x) (a:Ao.pre x):Py x:=by
 obtain⟨l,_⟩:=x;have s:AF l:=DZ b.1.2;change List D1 at l;have a:bP l:=a;simp only[Py,iB,Cp,I2,Ql];refine⟨trivial, ?_⟩;rintro⟨l,_⟩ _ b;simp only at b⊢;subst b;refine⟨fun h=>⟨fun _=>by trivial,fun k=>absurd (qA h) k⟩,fun h=> ?_⟩;have r:=qB h;obtain⟨b,g⟩:=a.resolve_left r;refine⟨⟨by omega,by omega,by omega,by omega⟩,fun _=>True,fun z=>K6 z.1.1 z.2.1.1, ?_,⟨mW, ?_⟩, ?_⟩
 . rintro⟨a,d,_⟩ _ _;refine⟨trivial, ?_⟩;rintro⟨z,_⟩ _ g;exact⟨(by trivial),g⟩
 . rw[NM];exact b
 rintro l ⟨o,_⟩ _ _ _ ⟨j,f⟩;change List D1 at o;simp only[NM]at j f⊢;have b:=j.length_eq;have w:o.Pairwise fun a d=>a.1<=d.1:=f.imp fun {a d} b=>A9g.1 b
 have t:MR 65536 o:=fun e f=>g e (j.mem_iff.1 f)
 have l:AF o:=fun e f=>s e (j.mem_iff.1 f)
 refine⟨fun p=>MS o p.1 p.2.1 p.2.2.1,fun p=>((o.length:Int)-p.2.1).toNat,MS.init o, ?_⟩;rintro⟨n,i,c,_⟩ _ a;change Int at n i;change List D1 at c;simp only at a⊢;have v:=a.n0;have d:=a.ni;have k:=a.il;have d:=a.cl;have g:(c.length:Int)=(o.length:Int):=by rw[d]
 refine⟨fun d=> ?_,fun d=> ?_⟩
 . have d:=qA d;have k:c.getD i.toNat E4=o.getD i.toNat E4:=a.rest _ (qZ _);have s:0<=i/\i<(c.length:Int):=⟨by omega,by rw[g];exact d⟩;have u:i64.wrap (n-1)=n-1:=wv (by omega);rw[u,k];refine⟨fun p=>MS o p.1 (i+1) p.2.1,⟨s,fun b=> ?_,fun b=> ?_,fun b=> ?_⟩, ?_⟩
   . have b:=qA b;exact⟨by omega,by rw[g];omega⟩
   . rw[J1]at b;simp only[qC,rV]at b;obtain⟨s,u⟩:=b;have k:0<=n-1/\n-1<(c.length:Int):=⟨by omega,by rw[g];omega⟩;obtain⟨y,z,A⟩:=a.add t l d s u;refine⟨k,⟨X8 (F9 y (show 65537*i.toNat<=2199023255552 by omega)) (qZ _),X8 z (by decide)⟩, ?_⟩;rintro⟨q,_⟩ _ s;change D3 at q;simp only at s⊢;rw[s];exact⟨k,A⟩
   . have k:0<n->(c.getD (n-1).toNat E4).1≠(o.getD i.toNat E4).1:=fun hn f=>by
      rw[J1,rG hn,rG f]at b;cases b
     rw[wv (by omega)];exact⟨⟨by omega,by rw[g];omega⟩,a.push w t l d k⟩
   . rintro⟨l,k,_⟩ _ b;simp only;rw[wv (by omega)];exact⟨b,by omega⟩
 . have d:=qB d;have b:i=(o.length:Int):=by omega
   refine⟨⟨qI _,v,by rw[g];omega⟩,fun h=>absurd h r,fun _=> ?_⟩;have b:List.drop (Int.toNat 0) (List.take n.toNat c)=c.take n.toNat:=rfl;rw[b];refine⟨a.ord,fun b=> ?_, ?_,fun e f=>F9 (a.szs e f).1 (by omega)⟩
   . rw[a.cm,D7 (by omega)];exact UY j b
   . rw[qW];omega
def KA:An:= {loop:= [(5,⟨[1,6,14,15],[],[(16,false,vI)],[],[(0, .row tE 106)]⟩)]}
def Px:A2 S9.args->Prop:=fun(x:List EE×List Int×Unit)=>let h:=(0:Int);let g:=(x.2.1.length:Int);let d:=(↑x.2.1.length:Int);let e:Prop:=(∀(j:Int),A4 x.1 j≠(0:Rat)->h<=j/\j<d);List.length x.2.1<=100000/\Ql fun r=>r.1=decide (L9 x.2.1 g)->(iB ((!r.1)) (L9 x.2.1 d->e->PW (fun(i:Int)=>if h<=i/\i<d then A4 x.1 (↑(List.idxOf i x.2.1):Int)else(0:Rat)) []/\false=true) (Ku x.1/\iV fun n=>PW (A4 x.1) n.1->∃(I:aS->Prop),∃(μ: _->Nat),I (h,n)/\∀(p:aS),let l:Prop:=(p.1<(n.1.length:Int));let k:Prop:=(h<=p.1/\p.1<(p.2.1.length:Int));let c:=(List.getD p.2.1 p.1.toNat E4);let m:=(decide (g<=c.1));let f:=(i64.wrap (p.1+1),List.set p.2.1 p.1.toNat (gx h x.2.1 c.1,c.2),());(Ty.int i64).wf p.1/\MV p.2.1/\True->I p->(iB (decide l) (k/\(iB (I6 (decide (c.1<h)) true m) (L9 x.2.1 d->e->PW (fun(i:Int)=>if h<=i/\i<d then A4 x.1 (↑(List.idxOf i x.2.1):Int)else(0:Rat)) []/\false=true) ((h<=c.1/\c.1<g)/\k/\I f/\μ f<μ p))) (List.length p.2.1<=100000/\∀(l':List EE),tE.sl.wf l'->l'.Perm p.2.1->List.Pairwise (fun(a b:Int×(Bool×List Int)×List Int)=>¬K6 b.1 a.1<h) l'->L9 x.2.1 d->e->PW (fun(i:Int)=>if h<=i/\i<d then A4 x.1 (↑(List.idxOf i x.2.1):Int)else(0:Rat)) l'/\true=true))))
abbrev R5:=List (Int×Bool)
def Q8 (es:R5):List Int:=es.map fun e=>e.1
def cW (k:Int) (v:Bool) (es:R5):(Q8 es).Nodup->(Q8 (Fl (.int .i64) k v es)).Nodup/\∀i,i∈Q8 (Fl (.int .i64) k v es)↔i=k\/i∈Q8 es:=by
 intro h;unfold Q8 at*;rw[OD];by_cases a:k∈es.map fun e=>e.1
 . rw[qR a];exact⟨h,fun i=>⟨.inr,fun b=>b.elim (fun e=>e▸a) id⟩⟩
 . rw[qK a];refine⟨sW.2 ⟨h,by simp,fun f c g b d=> ?_⟩,fun i=> ?_⟩
   . rw[qP]at b;exact a (b▸d▸c)
   . rw[qY,qP];exact Or.comm
def cV (k:Int):∀(es:R5),(Q8 es).Nodup->(Q8 (Qf (.int .i64) k es)).Nodup/\∀i,i∈Q8 (Qf (.int .i64) k es)↔i≠k/\i∈Q8 es
 | [],h=>⟨h,fun i=>⟨fun a=>(by cases a),fun a=>(by cases a.2)⟩⟩
 |x::r,h=>by
  have d:=sF.1 (show(x.1::Q8 r).Nodup from h);have e:Qf (.int .i64) k (x::r)=if k=x.1 then r else x::Qf (.int .i64) k r:=by
   rw[Qf,Lj];by_cases b:k=x.1
   . rw[qR b,rG b];rfl
   . rw[qK b,rE b];rfl
  rw[e];by_cases b:k=x.1
  . rw[qR b];refine⟨d.2,fun i=>⟨fun a=>⟨fun e=>d.1 (by rw[<-b, <-e];exact a),qJ _ a⟩,fun a=> ?_⟩⟩;exact(qG.1 (show i∈x.1::Q8 r from a.2)).resolve_left fun e=>a.1 (by rw[e,b])
  . rw[qK b];obtain⟨f,c⟩:=cV k r d.2;refine⟨sF.2 ⟨fun g=>d.1 ((c _).1 g).2,f⟩,fun i=> ?_⟩;constructor
    . intro a;rcases qG.1 (show i∈x.1::Q8 (Qf (.int .i64) k r)from a)with rfl|a
      . exact⟨fun e=>b e.symm,rA⟩
      . exact⟨((c i).1 a).1,qJ _ ((c i).1 a).2⟩
    . rintro⟨b,a⟩;rcases qG.1 (show i∈x.1::Q8 r from a)with rfl|a
      . exact rA
      . exact qJ _ ((c i).2 ⟨b,a⟩)
def Y6 (rows:List (List D1)) (i j:Nat):Rat:=A4 (rows.getD i []) (j:Int)
def B8n (n k:Nat) (p:Nat->Nat) (R:Nat->Nat->Rat) (j:Nat) (es:R5):Prop:=(Q8 es).Nodup/\∀i:Int,i∈Q8 es↔0<=i/\i<(n:Int)/\(∀a,a<k->i.toNat≠p a)/\R i.toNat j≠0
structure EI (n k:Nat) (S:Nat->Nat) (A:Nat->Nat->Rat) (rest P Q place:List Int) (rows lower:List (List D1)) (cols:List R5):Prop where
 elim:JK n k A (ix P) (ix Q) (Y6 rows) (Y6 lower)
 lP:P.length=n
 lQ:Q.length=n
 lpl:place.length=n
 lrows:rows.length=n
 llow:lower.length=n
 lcols:cols.length=n
 P0:∀a,a<k->P.getD a 0=(ix P a:Int)
 Q0:∀a,a<k->Q.getD a 0=(ix Q a:Int)
 pl:∀a,a<k->place.getD (ix Q a) 0=(a:Int)
 rnd:rest.Nodup
 rmem:∀c:Int,c∈rest↔0<=c/\c<(n:Int)/\∀a,a<k->c.toNat≠ix Q a
 can:∀i,i<n->Z4 (rows.getD i [])/\(∀e∈rows.getD i [],0<=e.1/\e.1<(n:Int))/\∀j,qs (S k) (A4 (rows.getD i []) j)
 lcan:∀i,i<n->Z4 (lower.getD i [])/\(∀e∈lower.getD i [],0<=e.1/\e.1<(k:Int))
 lq:∀i,i<n->∀j,qs (S k) (A4 (lower.getD i []) j)
 fin:∀a,a<k->∀j,qs (S a) (A4 (rows.getD (ix P a) []) j)
 col:∀j:Int,j∈rest->B8n n k (ix P) (Y6 rows) j.toNat (cols.getD j.toNat [])
def Bv {P:List Int} {k m:Nat} {v:Int} (h:m≠k):ix (P.set k v) m=ix P m:=by
 unfold ix;rw[qF,tD (Ne.symm h), <-qF]
def D8 {a:Type} {l:List a} {d v:a} {k m:Nat} (h:m≠k):(l.set k v).getD m d=l.getD m d:=by
 rw[qF,tD (Ne.symm h), <-qF]
def B6 {a:Type} {l:List a} {d v:a} {k:Nat} (h:k<l.length):(l.set k v).getD k d=v:=by
 rw[qF,tA h];rfl
def Qe {P:List Int} {k:Nat} {v:Int} (h:k<P.length):ix (P.set k v) k=v.toNat:=by
 unfold ix;rw[B6 h]
variable {n k:Nat} {S:Nat->Nat} {A:Nat->Nat->Rat} {rest P Q place:List Int} {rows lower:List (List D1)} {cols:List R5}
def Ye (k:Nat) (p:Nat->Nat) (R:Nat->Nat->Rat) (r c i:Nat):Rat:=if i=r\/∃a,a<k/\i=p a then 0 else R i c/R r c
def B0d {p:Nat->Nat} {R:Nat->Nat->Rat} {r c:Nat} :Ye k p R r c r=0:=qR (.inl rfl)
def B0c {p:Nat->Nat} {R:Nat->Nat->Rat} {r c a:Nat} (h:a<k):Ye k p R r c (p a)=0:=qR (.inr ⟨a,h,rfl⟩)
def VK {p:Nat->Nat} {R:Nat->Nat->Rat} {r c i:Nat} (b:i≠r) (d:∀a,a<k->i≠p a):Ye k p R r c i=R i c/R r c:=qK fun f=>f.elim b fun⟨a,ha,e⟩=>d a ha e
def EI.step (h:EI n k S A rest P Q place rows lower cols) {r c:Int} (g:c∈rest) (l:r∈Q8 (cols.getD c.toNat [])) {a:List Int} {s f:List (List D1)} {d:List R5}
 (M:a.Nodup) (N:∀x,x∈a↔x∈rest/\x≠c) (G:s.length=n) (H:f.length=n) (I:d.length=n)
 (u:∀i,i<n->Z4 (s.getD i [])/\(∀e∈s.getD i [],0<=e.1/\e.1<(n:Int))/\(∀j,qs (S (k+1)) (A4 (s.getD i []) j))/\∀j,A4 (s.getD i []) j=A4 (rows.getD i []) j-Ye k (ix P) (Y6 rows) r.toNat c.toNat i*A4 (rows.getD r.toNat []) j)
 (y:∀i,i<n->f.getD i []=if Ye k (ix P) (Y6 rows) r.toNat c.toNat i=0 then lower.getD i []else lower.getD i []++ [((k:Int),rc (Ye k (ix P) (Y6 rows) r.toNat c.toNat i))])
 (F:S k<=S (k+1)) (R:∀i,i<n->qs (S (k+1)) (Ye k (ix P) (Y6 rows) r.toNat c.toNat i))
 (O:∀j:Int,j∈a->B8n n (k+1) (ix (P.set k r)) (Y6 s) j.toNat (d.getD j.toNat [])):
 EI n (k+1) S A a (P.set k r) (Q.set k c) (place.set c.toNat k) s f d:=by
 obtain⟨a,c1,w⟩:=(h.rmem c).1 g;obtain⟨d,a⟩:=h.col c g;obtain⟨d,g,B,D⟩:=(a r).1 l;have o:k<n:=by
  rcases sD k n with a|a
  . exact a
  . obtain⟨a,l,e⟩:=Gk (n:=n) (q:=ix Q) (fun a l=>h.elim.qlt a (by omega)) (fun a b l hb=>h.elim.qinj a b (by omega) (by omega)) (show c.toNat<n by omega);exact absurd e.symm (w a (by omega))
 have v:∀m,m<k->m≠k:=fun m g=>tT g
 have z:∀i,i<n->∀m:Nat,Y6 f i m=Y6 lower i m+if m=k then Ye k (ix P) (Y6 rows) r.toNat c.toNat i else 0:=fun i d m=>by
  show A4 (f.getD i []) (m:Int)=A4 (lower.getD i []) (m:Int)+ _;rw[y i d];by_cases t:Ye k (ix P) (Y6 rows) r.toNat c.toNat i=0
  . rw[qR t,t];split<;>rw[rN]
  . rw[qK t,Ft];congr 1;by_cases g:m=k
    . subst g;rw[qR rfl,qR rfl]
    . rw[qK g,qK (by omega)]
 have J:∀i,i<n->Y6 lower i k=0:=fun i d=>D5 fun e f E=>by
  have:=(h.lcan i d).2 e f;omega
 refine⟨h.elim.step (r:=r.toNat) (c:=c.toNat) (fac:=Ye k (ix P) (Y6 rows) r.toNat c.toNat) o (by omega) (by omega) B w D (fun m g=>Bv (v m g)) (Qe (by rw[h.lP];exact o)) (fun m g=>Bv (v m g)) (Qe (by rw[h.lQ];exact o)) (fun i _ B D=>VK B D) B0d (fun a l=>B0c l) (fun i j d _=>(u i d).2.2.2 j) (fun i m d g=> ?_) (fun i d=> ?_), ?_, ?_, ?_,G,H,I,fun a l=> ?_,fun a l=> ?_,fun a l=> ?_,M,fun x=> ?_,fun i d=>⟨(u i d).1,(u i d).2.1,(u i d).2.2.1⟩,fun i d=> ?_,fun i d j=> ?_,fun a l j=> ?_,O⟩
 . rw[z i d,qK (v m g),rN]
 . rw[z i d,qR rfl,J i d,tF]
 . rw[qN];exact h.lP
 . rw[qN];exact h.lQ
 . rw[qN];exact h.lpl
 . by_cases g:a=k
   . subst g;rw[B6 (by rw[h.lP];exact o),Qe (by rw[h.lP];exact o)];omega
   . rw[D8 g,Bv g];exact h.P0 a (by omega)
 . by_cases g:a=k
   . subst g;rw[B6 (by rw[h.lQ];exact o),Qe (by rw[h.lQ];exact o)];omega
   . rw[D8 g,Bv g];exact h.Q0 a (by omega)
 . by_cases g:a=k
   . subst g;rw[Qe (by rw[h.lQ];exact o),B6 (by rw[h.lpl];omega)]
   . rw[Bv g,D8 (fun e=>w a (by omega) e.symm)];exact h.pl a (by omega)
 . rw[N,h.rmem];constructor
   . rintro⟨⟨z,B,w⟩,D⟩;refine⟨z,B,fun a l=> ?_⟩;by_cases g:a=k
     . subst g;rw[Qe (by rw[h.lQ];exact o)];omega
     . rw[Bv g];exact w a (by omega)
   . rintro⟨z,B,w⟩;refine⟨⟨z,B,fun a l=>by have:=w a (by omega);rwa[Bv (v a l)]at this⟩,fun e=> ?_⟩;have:=w k (rU _);rw[Qe (by rw[h.lQ];exact o),e]at this;exact this rfl
 . rw[y i d];obtain⟨v,l⟩:=h.lcan i d;split
   . exact⟨v,fun e f=>by have:=l e f;omega⟩
   . rename_i t;refine⟨Lw v t fun e f=>(l e f).2,fun e f=> ?_⟩;rcases qY.1 f with f|f
     . have:=l e f;omega
     . rw[qP]at f;subst f;simp only;omega
 . rw[y i d];have t:=L8 (h.lq i d j) F;split
   . exact t
   . rw[Ft];by_cases l:(k:Int)=j
     . rw[qR l,D5 fun e f E=>by have:=(h.lcan i d).2 e f;omega,tF];exact R i d
     . rw[qK l,rN];exact t
 . have f:∀i,i<n->Ye k (ix P) (Y6 rows) r.toNat c.toNat i=0->A4 (s.getD i []) j=A4 (rows.getD i []) j:=fun i d h0=>by
    rw[(u i d).2.2.2 j,h0,tK,tJ,wO,rN]
   by_cases g:a=k
   . subst g;rw[Qe (by rw[h.lP];exact o),f _ (by omega) B0d];exact(h.can r.toNat (by omega)).2.2 j
   . rw[Bv g,f _ (h.elim.plt a (by omega)) (B0c (by omega))];exact h.fin a (by omega) j
def EI.stuck (h:EI n k S A rest P Q place rows lower cols) {c:Int} (a:c∈rest) (d:cols.getD c.toNat []= []):¬nonsing n A:=by
 obtain⟨f,c1,b⟩:=(h.rmem c).1 a;obtain⟨_,f⟩:=h.col c a;refine h.elim.stuck (c:=c.toNat) (by omega) b fun i g a=>qU fun b=> ?_
 have:=(f (i:Int)).2 ⟨qD _,by omega,a,b⟩;rw[d]at this;cases this
variable {n:Nat} {S:Nat->Nat} {A:Nat->Nat->Rat} {rest P Q place:List Int} {rows lower:List (List D1)} {cols:List R5}
def A1a {P:List Int} (h:P.length=n) (f:∀a,a<n->P.getD a 0=(ix P a:Int)) (k:∀a,a<n->ix P a<n) (g:∀a b,a<n->b<n->ix P a=ix P b->a=b):L9 P (n:Int):=by
 have d:∀a (c:a<P.length),P[a]=(ix P a:Int):=fun a c=>by
  rw[<-f a (by omega),qF,qT c];rfl
 refine⟨by rw[h],fun i l=> ?_,tY.2 fun i j f h o e=> ?_⟩
 . obtain⟨a,c,rfl⟩:=uU.1 l;have:=k a (by omega);rw[d a c];omega
 . rw[d i f,d j h]at e;have:=g i j (by omega) (by omega) (by omega);omega
def EI.places (h:EI n n S A rest P Q place rows lower cols):L9 place (n:Int)/\∀b,b<n->List.idxOf (b:Int) place=ix Q b:=by
 have d:∀j,j<n->∃b,b<n/\ix Q b=j/\place.getD j 0=(b:Int):=fun j a=>by
  obtain⟨b,c,e⟩:=Gk h.elim.qlt h.elim.qinj a;exact⟨b,c,e,by rw[<-e];exact h.pl b c⟩
 have l:∀j (a:j<place.length),place[j]=place.getD j 0:=fun j a=>by
  rw[qF,qT a];rfl
 refine⟨A1a h.lpl (fun j a=> ?_) (fun j a=> ?_) (fun i j f a e=> ?_),fun b c=> ?_⟩
 . obtain⟨b,c,_,e⟩:=d j a;unfold ix;rw[e];omega
 . obtain⟨b,c,_,e⟩:=d j a;unfold ix;rw[e];omega
 . obtain⟨b,c,g,k⟩:=d i f;obtain⟨f,s,o,r⟩:=d j a;unfold ix at e;rw[k,r]at e;have:b=f:=by omega
   rw[<-g, <-o,this]
 . have o:(b:Int)∈place:=by
    have a:=h.pl b c;have j:ix Q b<place.length:=by rw[h.lpl];exact h.elim.qlt b c
    rw[<-a, <-l _ j];exact wY j
   have a:=yK o;have c:place[List.idxOf (b:Int) place]=(b:Int):=g0r a;obtain⟨f,s,g,k⟩:=d (List.idxOf (b:Int) place) (by rw[<-h.lpl];exact a);rw[l _ a,k]at c;have:f=b:=by omega
   rw[<-g,this]
def EI.done (h:EI n n S A rest P Q place rows lower cols) (b:n<=16384) {L U:List (List D1)} (u:L.length=n) (v:U.length=n)
 (d:∀a,a<n->L.getD a []=lower.getD (ix P a) []++ [((a:Int),rc 1)])
 (o:∀a,a<n->PW (fun i=>if 0<=i/\i<(n:Int)then A4 (rows.getD (ix P a) []) ((List.idxOf i place:Nat):Int)else 0) (U.getD a [])):
 Cu (P,Q,((n:Int),(n:Int),L),((n:Int),(n:Int),U)) (n:Int)/\∀i j,i<n->j<n->luM (P,Q,((n:Int),(n:Int),L),((n:Int),(n:Int),U)) n i j=A (ix P i) (ix Q j):=by
 obtain⟨_,l⟩:=h.places;have g:∀a m,a<n->el ((n:Int),(n:Int),L) a m=Y6 lower (ix P a) m+if m=a then 1 else 0:=fun a m c=>by
  show A4 (L.getD a []) (m:Int)=A4 (lower.getD (ix P a) []) (m:Int)+ _;rw[d a c,Ft];congr 1;by_cases f:m=a
  . rw[qR f,qR (by omega)]
  . rw[qK f,qK (by omega)]
 have k:∀a b,a<n->b<n->el ((n:Int),(n:Int),U) a b=Y6 rows (ix P a) (ix Q b):=fun a b c hb=>by
  show A4 (U.getD a []) (b:Int)=A4 (rows.getD (ix P a) []) _;rw[(o a c).2, <-l b hb];exact qR ⟨qD _,by omega⟩
 have s:=h.elim.plt;have w:∀a,a<n->F7 (L.getD a []) (n:Int):=fun a c=>by
  rw[d a c];obtain⟨d,l⟩:=h.lcan _ (s a c);have t:∀e∈lower.getD (ix P a) [],e.1<(a:Int):=fun e b=>by
   refine qU fun r=>(d.2 e b).1 ?_
   have r:=l e b;have:=h.elim.low a e.1.toNat c (by omega) (by omega);unfold Y6 at this;rw[show((e.1.toNat:Nat):Int)=e.1 from by omega,O6 d.1 b]at this;exact this
  have r:=Lw (q:=1) d (by decide) t;refine⟨r.1,fun e b=>⟨?_, ?_,(r.2 e b).1⟩⟩
  . rcases qY.1 b with b|b
    . exact(l e b).1
    . rw[qP]at b;subst b;exact qD _
  . rcases qY.1 b with b|b
    . exact(l e b).2
    . rw[qP]at b;subst b;simp only;omega
 have vU:∀a,a<n->F7 (U.getD a []) (n:Int):=fun a c=>by
  obtain⟨d,r⟩:=o a c;have l:∀e∈U.getD a [],0<=e.1/\e.1<(n:Int):=fun e b=>qU fun hh=>(d.2 e b).1 (by rw[<-O6 d.1 b,r];exact qK hh)
  exact⟨d.1,fun e b=>⟨(l e b).1,(l e b).2,(d.2 e b).1⟩⟩
 refine⟨⟨A1a h.lP h.P0 h.elim.plt h.elim.pinj,A1a h.lQ h.Q0 h.elim.qlt h.elim.qinj,⟨rfl,rfl,qD _,by show(n:Int)<=16384;omega,qD _,by show(n:Int)<=16384;omega,by show(L.length:Int)=(n:Int);omega,fun b l=> ?_⟩,⟨rfl,rfl,qD _,by show(n:Int)<=16384;omega,qD _,by show(n:Int)<=16384;omega,by show(U.length:Int)=(n:Int);omega,fun b l=> ?_⟩,fun i j b d=> ?_⟩,fun i j b d=> ?_⟩
 . obtain⟨a,c,rfl⟩:=Z7 [] l;exact w a (by rw[<-u];exact c)
 . obtain⟨a,c,rfl⟩:=Z7 [] l;exact vU a (by rw[<-v];exact c)
 . have b:i<n:=by omega
   have d:j<n:=by omega
   refine⟨fun l=> ?_, ?_,fun l=> ?_, ?_⟩
   . show el ((n:Int),(n:Int),L) i j=0;rw[g i j b,h.elim.low i j b d (by omega),qK (by omega),rN]
   . show el ((n:Int),(n:Int),L) i i=1;rw[g i i b,h.elim.low i i b b (qZ _),qR rfl,tF]
   . show el ((n:Int),(n:Int),U) i j=0;rw[k i j b d];exact h.elim.zero j (ix P i) d (s i b) fun a c e=>by have:=h.elim.pinj i a b (by omega) e;omega
   . show el ((n:Int),(n:Int),U) i i≠0;rw[k i i b b];exact h.elim.piv i b
 . rw[h.elim.prod b d];unfold luM;refine B7 fun m f=> ?_
   show el ((n:Int),(n:Int),L) i m*el ((n:Int),(n:Int),U) m j= _;rw[g i m b,k m j f d]
def EI.sizes (h:EI n n S A rest P Q place rows lower cols) (b:∀a,1<=S a) {L U:List (List D1)}
 (c:∀a,a<n->L.getD a []=lower.getD (ix P a) []++ [((a:Int),rc 1)])
 (d:∀a,a<n->PW (fun i=>if 0<=i/\i<(n:Int)then A4 (rows.getD (ix P a) []) ((List.idxOf i place:Nat):Int)else 0) (U.getD a [])) {R C:Int} {i:Nat} (hi:i<n) (j:Nat):qs (S n) (el (R,C,L) i j)/\qs (S i) (el (R,C,U) i j):=by
 constructor
 . show qs (S n) (A4 (L.getD i []) (j:Int));rw[c i hi,Ft];by_cases c:i=j
   . subst c;have c:A4 (lower.getD (ix P i) []) (i:Int)=0:=h.elim.low i i hi hi (qZ _);rw[qR rfl,c,tF];exact iU (b n)
   . rw[qK (by omega),rN];exact h.lq _ (h.elim.plt i hi) _
 . show qs (S i) (A4 (U.getD i []) (j:Int));rw[(d i hi).2];dsimp only;split
   . exact h.fin i hi _
   . exact Q4 (b i)
def EI.cans (h:EI n n S A rest P Q place rows lower cols) {L U:List (List D1)} (d:L.length=n) (k:U.length=n)
 (c:∀a,a<n->L.getD a []=lower.getD (ix P a) []++ [((a:Int),rc 1)])
 (j:∀a,a<n->PW (fun i=>if 0<=i/\i<(n:Int)then A4 (rows.getD (ix P a) []) ((List.idxOf i place:Nat):Int)else 0) (U.getD a [])):(∀v∈L,Z4 v)/\∀v∈U,Z4 v:=by
 constructor
 . intro v f;obtain⟨a,b,rfl⟩:=Z7 [] f;have b:a<n:=by rw[<-d];exact b
   rw[c a b];obtain⟨c,g⟩:=h.lcan _ (h.elim.plt a b);refine Lw c (by decide) fun e d=>qU fun l=>(c.2 e d).1 ?_
   have l:=g e d;have:=h.elim.low a e.1.toNat b (by omega) (by omega);unfold Y6 at this;rw[show((e.1.toNat:Nat):Int)=e.1 from by omega,O6 c.1 d]at this;exact this
 . intro v f;obtain⟨a,b,rfl⟩:=Z7 [] f;exact(j a (by rw[<-k];exact b)).1
variable {n:Nat} {S:Nat->Nat} {rest P Q place:List Int} {rows lower:List (List D1)} {cols:List R5}
def fT (t:Int) (F:Nat->Int->Rat) (v:List D1) (j:Int) (es:R5):Prop:=(Q8 es).Nodup/\∀i:Int,i∈Q8 es↔(0<=i/\i<t/\F i.toNat j≠0)\/(i=t/\∃e∈v,e.1=j)
def A9m {t j:Int} {F:Nat->Int->Rat} {v:List D1} {es:R5} {b:Bool} {e:D1} (h:fT t F v j es) (d:e.1=j):fT t F (v++ [e]) j (Fl (.int .i64) t b es):=by
 obtain⟨a,c⟩:=cW t b es h.1;refine⟨a,fun i=> ?_⟩;rw[c,h.2];constructor
 . rintro(hh|hh| ⟨hh,x,a,c⟩)
   . exact .inr ⟨hh,e,by simp,d⟩
   . exact .inl hh
   . exact .inr ⟨hh,x,sJ _ a,c⟩
 . rintro(hh| ⟨hh,x,a,c⟩)
   . exact .inr (.inl hh)
   . exact .inl hh
def A5d {t j:Int} {F:Nat->Int->Rat} {v:List D1} {es:R5} {e:D1} (h:fT t F v j es) (b:e.1≠j):fT t F (v++ [e]) j es:=by
 refine⟨h.1,fun i=> ?_⟩;rw[h.2];refine g3c yI (g4p yI ⟨fun⟨x,a,hxj⟩=>⟨x,sJ _ a,hxj⟩,fun⟨x,a,hxj⟩=> ?_⟩);rcases qY.1 a with a|a
 . exact⟨x,a,hxj⟩
 . rw[qP]at a;subst a;exact absurd hxj b
def A5c {t j:Int} {F:Nat->Int->Rat} {v:List D1} {es:R5} {m:Int} (h:fT t F v j es) (k:0<=t) (f:F7 v m) (d:F t.toNat=A4 v):fT (t+1) F [] j es:=by
 refine⟨h.1,fun i=> ?_⟩;rw[h.2];constructor
 . rintro(⟨c,g,a⟩ | ⟨rfl,e,b,rfl⟩)
   . exact .inl ⟨c,by omega,a⟩
   . refine .inl ⟨k,by omega, ?_⟩;rw[d,O6 f.1 b];exact(f.2 e b).2.2
 . rintro(⟨c,g,a⟩ | ⟨_,e,b,_⟩)
   . by_cases f:i=t
     . subst f;rw[d]at a;exact .inr ⟨rfl,Uo a⟩
     . exact .inl ⟨c,by omega,a⟩
   . cases b
def EI.start {F:Nat->Int->Rat} {A:Nat->Nat->Rat} (f:∀i j,i<n->j<n->A i j=F i (j:Int)) (a:rest.length=n) (g:∀i,i<n->rest.getD i 0=(i:Int))
 (w:P.length=n) (x:Q.length=n) (y:place.length=n) (k:rows.length=n) (l:lower.length=n) (s:cols.length=n)
 (t:∀i,i<n->PW (F i) (rows.getD i [])) (z:∀i (j:Int),i<n->F i j≠0->0<=j/\j<(n:Int)) (v:∀i j,i<n->qs (S 0) (F i j)) (u:∀i,i<n->lower.getD i []= [])
 (B:∀j:Int,0<=j->j<(n:Int)->fT (n:Int) F [] j (cols.getD j.toNat [])):EI n 0 S A rest P Q place rows lower cols:=by
 have d:∀a,¬a<0:=fun a=>uZ a
 have o:∀i (b:i<rest.length),rest[i]=(i:Int):=fun i b=>by
  rw[<-g i (by omega),qF,qT b];rfl
 refine⟨⟨rM _,fun a h=>absurd h (d a),fun a h=>absurd h (d a),fun a _ h=>absurd h (d a),fun a _ h=>absurd h (d a),fun i j b r=> ?_,fun a _ h=>absurd h (d a),fun a h=>absurd h (d a),fun a _ h=>absurd h (d a)⟩,w,x,y,k,l,s,fun a h=>absurd h (d a),fun a h=>absurd h (d a),fun a h=>absurd h (d a),tY.2 fun i j b r g e=> ?_,fun c=>⟨fun h=> ?_,fun h=> ?_⟩,fun i b=> ?_,fun i b=> ?_,fun i b j=> ?_,fun a l=>absurd l (d a),fun j r=> ?_⟩
 . rw[C6,tF,f i j b r];exact((t i b).2 _).symm
 . rw[o i b,o j r]at e;omega
 . obtain⟨i,b,rfl⟩:=uU.1 h;rw[o i b];exact⟨qD _,by omega,fun a l=>absurd l (d a)⟩
 . obtain⟨f,g,_⟩:=h;have h:c.toNat<rest.length:=by omega
   have:=o _ h;rw[show((c.toNat:Nat):Int)=c from by omega]at this;rw[<-this];exact wY h
 . obtain⟨k,s⟩:=t i b;exact⟨k,fun e h=>z i e.1 b (by rw[<-s,O6 k.1 h];exact(k.2 e h).1),fun j=>by rw[s];exact v i j b⟩
 . rw[u i b];exact⟨Zp,fun e h=>by cases h⟩
 . rw[u i b,Rq];exact Q4 (A1d (v i j b))
 . have u:0<=j/\j<(n:Int):=by
    obtain⟨i,b,rfl⟩:=uU.1 r;rw[o i b];omega
   obtain⟨k,s⟩:=B j u.1 u.2;refine⟨k,fun i=> ?_⟩;rw[s];have k:∀i:Int,0<=i->i<(n:Int)->Y6 rows i.toNat j.toNat=F i.toNat j:=fun i f g=>by
    show A4 (rows.getD i.toNat []) ((j.toNat:Nat):Int)= _;rw[(t i.toNat (by omega)).2,show((j.toNat:Nat):Int)=j from by omega]
   constructor
   . rintro(⟨f,g,b⟩ | ⟨_,e,h,_⟩)
     . exact⟨f,g,fun a l=>absurd l (d a),by rw[k i f g];exact b⟩
     . cases h
   . rintro⟨f,g,_,b⟩;exact .inl ⟨f,g,by rw[k i f g]at b;exact b⟩
def kU (Bs:Int->Int->Prop) (i:Int) (vs:List D1) (j:Int) (es:R5):Prop:=(Q8 es).Nodup/\∀x:Int,x∈Q8 es↔Bs j x/\¬(x=i/\∃e∈vs,e.1=j)
def kT (Bs:Int->Int->Prop) (i:Int) (vs:List D1) (j:Int) (es:R5):Prop:=(Q8 es).Nodup/\∀x:Int,x∈Q8 es↔Bs j x\/(x=i/\∃e∈vs,e.1=j)
variable {Bs:Int->Int->Prop} {i j:Int} {vs:List D1} {es:R5} {e:D1}
def kV (h:(Q8 es).Nodup/\∀x,x∈Q8 es↔Bs j x):kU Bs i [] j es:=⟨h.1,fun x=>by rw[h.2];exact⟨fun a=>⟨a,fun⟨_,e,he,_⟩=>by cases he⟩,fun a=>a.1⟩⟩
def A9j (h:(Q8 es).Nodup/\∀x,x∈Q8 es↔Bs j x):kT Bs i [] j es:=⟨h.1,fun x=>by rw[h.2];exact⟨.inl,fun a=>a.elim id fun⟨_,e,he,_⟩=>by cases he⟩⟩
def Uu (a:e.1=j):∃y∈vs++ [e],y.1=j:=⟨e,by simp,a⟩
def VJ (b:e.1≠j):(∃y∈vs++ [e],y.1=j)↔∃y∈vs,y.1=j:=
 ⟨fun⟨y,a,hyj⟩=>by
  rcases qY.1 a with a|a
  . exact⟨y,a,hyj⟩
  . rw[qP]at a;subst a;exact absurd hyj b,fun⟨y,a,hyj⟩=>⟨y,sJ _ a,hyj⟩⟩
def A9l (h:kU Bs i vs j es) (c:e.1=j):kU Bs i (vs++ [e]) j (Qf (.int .i64) i es):=by
 obtain⟨a,b⟩:=cV i es h.1;refine⟨a,fun x=> ?_⟩;rw[b,h.2];exact⟨fun a=>⟨a.2.1,fun b=>a.1 b.1⟩,fun a=>⟨fun d=>a.2 ⟨d,Uu c⟩,a.1,fun b=>a.2 ⟨b.1,Uu c⟩⟩⟩
def A5b (h:kU Bs i vs j es) (a:e.1≠j):kU Bs i (vs++ [e]) j es:=⟨h.1,fun x=>by rw[h.2,VJ a]⟩
def A9k {b:Bool} (h:kT Bs i vs j es) (d:e.1=j):kT Bs i (vs++ [e]) j (Fl (.int .i64) i b es):=by
 obtain⟨a,c⟩:=cW i b es h.1;refine⟨a,fun x=> ?_⟩;rw[c,h.2];exact⟨fun a=>a.elim (fun c=> .inr ⟨c,Uu d⟩) fun a=>a.elim .inl fun c=> .inr ⟨c.1,Uu d⟩,fun a=>a.elim (fun a=> .inr (.inl a)) fun c=> .inl c.1⟩
def A5a (h:kT Bs i vs j es) (a:e.1≠j):kT Bs i (vs++ [e]) j es:=⟨h.1,fun x=>by rw[h.2,VJ a]⟩
def A9n {O N:Int->Prop} {pv nw:List D1} {a:R5} (b:kT (fun _ x=>Bs j x/\¬(x=i/\∃e∈pv,e.1=j)) i nw j a)
 (f:Bs j i↔O j) (g:(∃e∈pv,e.1=j)\/(O j↔N j)) (c:(∃e∈nw,e.1=j)↔N j):(Q8 a).Nodup/\∀x,x∈Q8 a↔(x≠i/\Bs j x)\/(x=i/\N j):=by
 refine⟨b.1,fun x=> ?_⟩;rw[b.2,c];by_cases c:x=i
 . subst c;rcases g with d|d
   . exact⟨fun b=>b.elim (fun a=>absurd ⟨rfl,d⟩ a.2) .inr,fun b=>b.elim (fun a=>absurd rfl a.1) .inr⟩
   . exact⟨fun b=>b.elim (fun a=> .inr ⟨rfl,d.1 (f.1 a.1)⟩) .inr,fun b=>b.elim (fun a=>absurd rfl a.1) .inr⟩
 . exact⟨fun b=>b.elim (fun a=> .inl ⟨c,a.1⟩) fun a=>absurd a.1 c,fun b=>b.elim (fun a=> .inl ⟨a.2,fun b=>c b.1⟩) fun a=>absurd a.1 c⟩
def EJ {s:Nat} :∀ {a b:Nat},a<=b->sK s a<=sK s b
 |a,0,h=>by have:a=0:=by omega
            subst this;exact qZ _
 |a,b+1,h=>by
  by_cases c:a=b+1
  . subst c;exact qZ _
  . have:=EJ (s:=s) (a:=a) (b:=b) (by omega);simp only[sK];omega
def C6w {s:Nat} (k:Nat):s<=sK s k:=EJ (rM k)
def B6u {s:Nat} {x f r c:Rat} (h:qs s x) (d:qs s f) (g:qs s r) (b:qs s c):qs (4*s+1) (x-f/r*c):=by
 have a:=OR h (IJ (iT d g) b);rwa[show s+(s+s+s)+1=4*s+1 from by omega]at a
def inC (cols:List R5) (j x:Int):Prop:=x∈Q8 (cols.getD j.toNat [])
structure CI (n k s:Nat) (rest P:List Int) (rows0 lower0:List (List D1)) (r c:Int) (D:List Int) (rows lower:List (List D1)) (cols:List R5):Prop where
 lrows:rows.length=n
 llow:lower.length=n
 lcols:cols.length=n
 rd:∀i:Nat,i<n->(i:Int)∈D->Z4 (rows.getD i [])/\(∀e∈rows.getD i [],0<=e.1/\e.1<(n:Int))/\(∀j,qs (4*s+1) (A4 (rows.getD i []) j))/\∀j,A4 (rows.getD i []) j=A4 (rows0.getD i []) j-Ye k (ix P) (Y6 rows0) r.toNat c.toNat i*A4 (rows0.getD r.toNat []) j
 ru:∀i:Nat,i<n->(i:Int)∉D->rows.getD i []=rows0.getD i []
 lo:∀i:Nat,i<n->lower.getD i []=if(i:Int)∈D then lower0.getD i []++ [((k:Int),rc (Ye k (ix P) (Y6 rows0) r.toNat c.toNat i))]else lower0.getD i []
 col:∀j:Int,j∈rest->(Q8 (cols.getD j.toNat [])).Nodup/\∀x:Int,x∈Q8 (cols.getD j.toNat [])↔x≠r/\0<=x/\x<(n:Int)/\(∀a,a<k->x.toNat≠ix P a)/\Y6 rows x.toNat j.toNat≠0
variable {n k s:Nat} {S:Nat->Nat} {A:Nat->Nat->Rat} {rest P Q place:List Int} {rows lower rows1 lower1:List (List D1)} {cols cols1 cols2:List R5} {r c:Int}
def A2s {v:List D1} (h:Z4 v) (j:Int):(∃e∈v,e.1=j)↔A4 v j≠0:=
 ⟨fun⟨e,he,hj⟩=>by rw[<-hj,O6 h.1 he];exact(h.2 e he).1,Uo⟩
def EI.row (h:EI n k S A rest P Q place rows lower cols) (b:c∈rest) (d:r∈Q8 (cols.getD c.toNat [])):0<=r/\r<(n:Int)/\(∀a,a<k->r.toNat≠ix P a)/\Y6 rows r.toNat c.toNat≠0:=((h.col c b).2 r).1 d
def EI.crange (h:EI n k S A rest P Q place rows lower cols) (a:c∈rest):0<=c/\c<(n:Int):=⟨((h.rmem c).1 a).1,((h.rmem c).1 a).2.1⟩
def CI.init (h:EI n k S A rest P Q place rows lower cols) (a:c∈rest) (b:r∈Q8 (cols.getD c.toNat [])) (f:cols1.length=n)
 (d:∀j:Int,j∈rest->kU (inC cols) r (rows.getD r.toNat []) j (cols1.getD j.toNat [])):CI n k s rest P rows lower r c [] rows lower cols1:=by
 obtain⟨g,l,o,_⟩:=h.row a b;refine⟨h.lrows,h.llow,f,fun i _ a=>(by cases a),fun i _ _=>rfl,fun i _=>(qK (by simp)).symm,fun j hj=> ?_⟩;obtain⟨a,b⟩:=h.crange hj;obtain⟨a,b⟩:=d j hj;refine⟨a,fun x=> ?_⟩;rw[b];have a:=(h.col j hj).2 x;unfold inC;rw[a,A2s (h.can r.toNat (by omega)).1];constructor
 . rintro⟨⟨d,f,g,a⟩,b⟩;refine⟨fun e=>b ⟨e, ?_⟩,d,f,g,a⟩;subst e;unfold Y6 at a;rwa[show((j.toNat:Nat):Int)=j from by omega]at a
 . rintro⟨l,d,f,g,a⟩;exact⟨⟨d,f,g,a⟩,fun b=>l b.1⟩
def CI.next (h:EI n k S A rest P Q place rows lower cols) (hc:c∈rest) (hr:r∈Q8 (cols.getD c.toNat [])) {D:List Int} (g:CI n k (S k) rest P rows lower r c D rows1 lower1 cols1) {i:Int}
 (H:0<=i) (I:i<(n:Int)) (F:i≠r) (w:∀a,a<k->i.toNat≠ix P a) (z:i∉D) {nw:List D1} {q:Rat}
 (G:q=Y6 rows i.toNat c.toNat/Y6 rows r.toNat c.toNat)
 (t:PW (fun j=>A4 (rows.getD i.toNat []) j-q*A4 (rows.getD r.toNat []) j) nw) (l:cols2.length=n)
 (J:∀j:Int,j∈rest->kT (fun j x=>inC cols1 j x/\¬(x=i/\∃e∈rows.getD r.toNat [],e.1=j)) i nw j (cols2.getD j.toNat [])):
 CI n k (S k) rest P rows lower r c (D++ [i]) (rows1.set i.toNat nw) (lower1.set i.toNat (lower1.getD i.toNat []++ [((k:Int),rc q)])) cols2:=by
 obtain⟨b,d,f,o⟩:=h.row hc hr;obtain⟨b,c1⟩:=h.crange hc;have o:i.toNat<n:=by omega
 have E:((i.toNat:Nat):Int)=i:=by omega
 have B:Ye k (ix P) (Y6 rows) r.toNat c.toNat i.toNat=q:=by rw[VK (by omega) w,G]
 have s:∀x:Nat,(x:Int)∈D++ [i]↔(x:Int)∈D\/x=i.toNat:=fun x=>by
  rw[qY,qP];exact g3c yI (by omega)
 have u:∀j,A4 nw j=A4 (rows.getD i.toNat []) j-q*A4 (rows.getD r.toNat []) j:=t.2;have M:∀e∈nw,0<=e.1/\e.1<(n:Int):=fun e he=>qU fun b=>by
  refine(t.1.2 e he).1 ?_;rw[<-O6 t.1.1 he,u,D5 (v:=rows.getD i.toNat []) fun y d f=>b (by rw[<-f];exact(h.can _ o).2.1 y d),D5 (v:=rows.getD r.toNat []) fun y d f=>b (by rw[<-f];exact(h.can r.toNat (by omega)).2.1 y d),uY,tJ,wO,rN]
 refine⟨by rw[qN];exact g.lrows,by rw[qN];exact g.llow,l,fun x d f=> ?_,fun x d f=> ?_,fun x d=> ?_,fun j y=> ?_⟩
 . by_cases l:x=i.toNat
   . subst l;rw[B6 (by rw[g.lrows];exact o),B];refine⟨t.1,M,fun j=> ?_,u⟩;rw[u,G];have:=B6u ((h.can _ o).2.2 j) ((h.can _ o).2.2 (c.toNat:Int)) ((h.can r.toNat (by omega)).2.2 (c.toNat:Int)) ((h.can r.toNat (by omega)).2.2 j);exact this
   . rw[D8 l];exact g.rd x d (((s x).1 f).resolve_right l)
 . have l:x≠i.toNat:=fun e=>f ((s x).2 (.inr e))
   rw[D8 l];exact g.ru x d fun b=>f ((s x).2 (.inl b))
 . by_cases l:x=i.toNat
   . subst l;rw[B6 (by rw[g.llow];exact o),qR ((s _).2 (.inr rfl)),g.lo _ o,qK (by rw[E];exact z),B]
   . rw[D8 l,g.lo x d];by_cases f:(x:Int)∈D
     . rw[qR f,qR ((s x).2 (.inl f))]
     . rw[qK f,qK fun b=>f (((s x).1 b).resolve_right l)]
 . obtain⟨f,l⟩:=h.crange y;obtain⟨l,f⟩:=g.col j y;have l:((j.toNat:Nat):Int)=j:=by omega
   have B:inC cols1 j i↔A4 (rows.getD i.toNat []) j≠0:=by
    unfold inC;rw[f];have s:Y6 rows1 i.toNat j.toNat=A4 (rows.getD i.toNat []) j:=by
     unfold Y6;rw[g.ru _ o (by rw[E];exact z),l]
    rw[s];exact⟨fun b=>b.2.2.2.2,fun b=>⟨F,H,I,w,b⟩⟩
   have s:=A9n (Bs:=inC cols1) (O:=fun j=>A4 (rows.getD i.toNat []) j≠0) (N:=fun j=>A4 nw j≠0) (pv:=rows.getD r.toNat []) (nw:=nw) (J j y) B ?_ (A2s t.1 j)
   . refine⟨s.1,fun x=> ?_⟩;rw[s.2];unfold inC;rw[f];by_cases d:x=i
     . subst d;have:Y6 (rows1.set x.toNat nw) x.toNat j.toNat=A4 nw j:=by
        unfold Y6;rw[B6 (by rw[g.lrows];exact o),l]
       rw[this];exact⟨fun b=>b.elim (fun f=>absurd rfl f.1) fun f=>⟨F,H,I,w,f.2⟩,fun b=> .inr ⟨rfl,b.2.2.2.2⟩⟩
     . constructor
       . rintro(⟨_,f,o,s,t,l⟩ | ⟨f,_⟩)
         . refine⟨f,o,s,t, ?_⟩;unfold Y6 at l⊢;rwa[D8 (by omega)]
         . exact absurd f d
       . rintro⟨f,o,s,t,l⟩;refine .inl ⟨d,f,o,s,t, ?_⟩;unfold Y6 at l⊢;rwa[D8 (by omega)]at l
   . by_cases d:∃e∈rows.getD r.toNat [],e.1=j
     . exact .inl d
     . refine .inr ?_;have f:A4 (rows.getD r.toNat []) j=0:=qU fun b=>d (Uo b)
       show A4 _ j≠0↔A4 nw j≠0;rw[u,f,uY,tJ,wO,rN]
def CI.done (h:EI n k S A rest P Q place rows lower cols) (f:c∈rest) (E:r∈Q8 (cols.getD c.toNat [])) {D:List Int} (g:CI n k (S k) rest P rows lower r c D rows1 lower1 cols1)
 (z:S (k+1)=4*S k+1) (o:∀x:Int,x∈D↔x≠r/\0<=x/\x<(n:Int)/\(∀a,a<k->x.toNat≠ix P a)/\Y6 rows x.toNat c.toNat≠0) {d:List Int} (G:d.Nodup) (F:∀x,x∈d↔x∈rest/\x≠c):
 EI n (k+1) S A d (P.set k r) (Q.set k c) (place.set c.toNat k) rows1 lower1 cols1:=by
 obtain⟨d,l,t,s⟩:=h.row f E;have y:k<P.length:=by
  rw[h.lP];refine Nat.lt_of_le_of_ne h.elim.kn fun y=> ?_
  obtain⟨l,c1,d⟩:=(h.rmem c).1 f;obtain⟨a,l,e⟩:=Gk (n:=n) (q:=ix Q) (fun a l=>h.elim.qlt a (by omega)) (fun a b l hb=>h.elim.qinj a b (by omega) (by omega)) (show c.toNat<n by omega);exact absurd e.symm (d a (by omega))
 have w:∀i:Nat,i<n->((i:Int)∈D↔Ye k (ix P) (Y6 rows) r.toNat c.toNat i≠0):=fun i d=>by
  rw[o,qM];constructor
  . rintro⟨H,_,_,t,u⟩;rw[VK (by omega) t,wX];exact fun o=>(g0e.1 o).elim u fun o=>by
     have:=g0x _ s;rw[o,uY]at this;exact absurd this (by decide)
  . intro B;have v:¬(i=r.toNat\/∃a,a<k/\i=ix P a):=fun s=>B (qR s)
    refine⟨fun e=>v (.inl (by omega)),by omega,by omega,fun a l e=>v (.inr ⟨a,l,e⟩),fun o=>B ?_⟩;unfold Ye;rw[qK v,o,wX,tK]
 refine h.step f E G F g.lrows g.llow g.lcols (fun i d=> ?_) (fun i d=> ?_) (by omega) (fun i d=> ?_) fun j E=> ?_
 . rw[z];by_cases f:(i:Int)∈D
   . exact g.rd i d f
   . have o:Ye k (ix P) (Y6 rows) r.toNat c.toNat i=0:=qU fun s=>f ((w i d).2 s)
     rw[g.ru i d f,o];obtain⟨o,v,B⟩:=h.can i d;exact⟨o,v,fun j=>L8 (B j) (by omega),fun j=>by rw[tK,tJ,wO,rN]⟩
 . rw[g.lo i d];by_cases f:(i:Int)∈D
   . rw[qR f,qK ((w i d).1 f)]
   . rw[qK f,qR (qU fun s=>f ((w i d).2 s))]
 . have f:=(h.can i d).2.2 (c.toNat:Int);rw[z];unfold Ye;split
   . exact Q4 (by have:=A1d f;omega)
   . exact L8 (iT f ((h.can r.toNat (by omega)).2.2 (c.toNat:Int))) (by omega)
 . obtain⟨o,v⟩:=g.col j ((F j).1 E).1;refine⟨o,fun x=> ?_⟩;rw[v];constructor
   . rintro⟨H,t,u,d,f⟩;refine⟨t,u,fun a l=> ?_,f⟩;by_cases o:a=k
     . subst o;rw[Qe y];omega
     . rw[Bv o];exact d a (by omega)
   . rintro⟨t,u,d,f⟩;refine⟨fun e=> ?_,t,u,fun a l=> ?_,f⟩
     . have:=d k (rU _);rw[Qe y,e]at this;exact this rfl
     . have:=d a (by omega);rwa[Bv (tT l)]at this
def EI.two (h:EI n k S A rest P Q place rows lower cols) {i j:Nat} (b:i<n) (c:j<n) (o:i≠j) (g:∀a,a<k->i≠ix P a) (l:∀a,a<k->j≠ix P a):k+2<=n:=by
 refine qU fun b=> ?_
 have b:=h.elim.kn;obtain⟨a,f,c,d,b⟩:=XN n (fun a=>if a<k then ix P a else if a=k then i else j) fun a _=>by
  split
  . rename_i c;exact h.elim.plt a c
  . split<;>assumption
 by_cases c:a<k
 . rw[qR c]at b;by_cases d:f<k
   . rw[qR d]at b;have:=h.elim.pinj a f c d b;omega
   . rw[qK d]at b;split at b
     . exact g a c b.symm
     . exact l a c b.symm
 . have d:¬f<k:=by omega
   rw[qK c,qK d]at b;have:a=k:=by omega
   rw[qR this,qK (by omega)]at b;exact o b
def LE {a:Type} (l:List a) (i:Nat) (d:a):l.set i (l.getD i d)=l:=by
 refine g1i (by rw[qN]) fun j b a=> ?_
 rw[g4d];split
 . rename_i e;subst e;rw[H6 _ _ a]
 . rfl
def Iy {a:Type} {d:a} {l:List a} {t:Int} (b:0<=t) (c:t<(l.length:Int)):l.take (t+1).toNat=l.take t.toNat++ [gx d l t]:=by
 rw[show(t+1).toNat=t.toNat+1 from by omega,rQ,G8 (d:=d) b c];rfl
def EF {l:List Int} {n:Nat} (h:l.Nodup) (f:∀x∈l,0<=x/\x<(n:Int)):l.length<=n:=by
 refine qU fun a=> ?_
 have b:∀a,a<n+1->a<l.length:=fun a ha=>by omega
 obtain⟨a,c,i,g,j⟩:=XN n (fun a=>(l.getD a 0).toNat) fun a ha=>by
  have:=f _ (C8 (d:=0) (b a ha));omega
 have i:=f _ (C8 (d:=0) (b a (by omega)));have i:=f _ (C8 (d:=0) (b c g));have f:l.getD a 0=l.getD c 0:=by omega
 rw[H6 _ _ (b a (by omega)),H6 _ _ (b c g)]at f;have:=(wK h).1 f;omega
def B1k (es:R5):(Q8 es).length=es.length:=tG ..
def mJ {es:R5} {y:Int×Bool} (h:y∈es):y.1∈Q8 es:=vC (f:=fun e:Int×Bool=>e.1) h
def jO (n:Nat) (dd:List Nat):Prop:=∀i,i<n->i∉dd
abbrev NB:=List R5×List Nat
abbrev NR:=List (List D1)×List Nat
variable {n k:Nat} {S:Nat->Nat} {A:Nat->Nat->Rat} {rest P Q place:List Int} {rows lower:List (List D1)} {cols:List R5}
def A1w {v:List D1} {m j:Int} (h:F7 v m) (b:A4 v j≠0):0<=j/\j<m:=qU fun a=>b (A7p h a)
def EI.more (h:EI n k S A rest P Q place rows lower cols) (a:k<n):0<rest.length:=by
 refine qU fun a=> ?_
 have d:rest= []:=qO (by omega);have g:∀c,c<n->∃a,a<k/\c=ix Q a:=fun c b=>qU fun hh=>by
  have:=(h.rmem (c:Int)).2 ⟨by omega,by omega,fun a ha e=>hh ⟨a,ha,by omega⟩⟩;rw[d]at this;cases this
 obtain⟨f,d⟩:∃f:Nat->Nat,∀c,c<n->f c<k/\c=ix Q (f c):=by
  refine⟨fun c=>if b:c<n then(g c b).choose else 0,fun c b=> ?_⟩;simp only[dif_pos b];exact(g c b).choose_spec
 obtain⟨a,b,i,j,g⟩:=XN k f fun a ha=>(d a (by omega)).1
 have f:=(d a (by omega)).2;have a:=(d b (by omega)).2;rw[g]at f;omega
def EI.okRow (h:EI n k S A rest P Q place rows lower cols) (d:S k<=K1) (a:n<=16384) {i:Nat} (f:i<n):Yf K1 (rows.getD i []):=by
 obtain⟨a,b,c⟩:=h.can i f;have:=Gg (n:=(n:Int)) (v:=rows.getD i []) ⟨a.1,fun e he=>⟨(b e he).1,(b e he).2,(a.2 e he).1⟩⟩;exact⟨a.1,DJ a fun j=>L8 (c j) d,by omega⟩
def EI.lowLen (h:EI n k S A rest P Q place rows lower cols) {i:Nat} (c:i<n):(lower.getD i []).length<=k:=by
 obtain⟨a,b⟩:=h.lcan i c;have:=Gg (n:=(k:Int)) (v:=lower.getD i []) ⟨a.1,fun e he=>⟨(b e he).1,(b e he).2,(a.2 e he).1⟩⟩;omega
def EI.colLen (h:EI n k S A rest P Q place rows lower cols) {c:Int} (b:c∈rest):(cols.getD c.toNat []).length<=n:=by
 obtain⟨d,a⟩:=h.col c b;rw[<-B1k];exact EF d fun x b=>⟨((a x).1 b).1,((a x).1 b).2.1⟩
def EI.pick (h:EI n k S A rest P Q place rows lower cols) {b:Nat} (a:b<rest.length):(rest.take b++rest.drop (b+1)).Nodup/\∀x,x∈rest.take b++rest.drop (b+1)↔x∈rest/\x≠rest.getD b 0:=by
 have f:rest=rest.take b++rest.getD b 0::rest.drop (b+1):=by
  rw[H6 _ _ a, <-xF a,uD]
 have d:=h.rnd;generalize rest.getD b 0=c at*;generalize rest.take b=g at*;generalize rest.drop (b+1)=g at*;subst f;rw[sW]at d;obtain⟨l,g,f⟩:=d;obtain⟨i,j⟩:=sF.1 g;refine⟨sW.2 ⟨l,j,fun d g b a=>f d g b (qJ _ a)⟩,fun x=> ?_⟩;rw[qY,qY,qG];constructor
 . rintro(hx|hx)
   . exact⟨.inl hx,fun e=>f x hx c rA e⟩
   . exact⟨.inr (.inr hx),fun e=>i (e▸hx)⟩
 . rintro⟨hx|hx|hx,a⟩
   . exact .inl hx
   . exact absurd hx a
   . exact .inr hx
def HV (n:Nat) (rest:List Int) (Bs:Int->Int->Prop) (i:Int) (v:List D1) (p:Int×NB×Unit):Prop:=0<=p.1/\p.1<=(v.length:Int)/\p.2.1.1.length=n/\jO n p.2.1.2/\∀j:Int,j∈rest->(0<=j/\j<(n:Int))/\kU Bs i (v.take p.1.toNat) j (p.2.1.1.getD j.toNat [])
def cT (n:Nat) (rest:List Int) (Bs:Int->Int->Prop) (i:Int) (v:List D1) (p:Int×NB×Unit):Prop:=0<=p.1/\p.1<=(v.length:Int)/\p.2.1.1.length=n/\jO n p.2.1.2/\∀j:Int,j∈rest->(0<=j/\j<(n:Int))/\kT Bs i (v.take p.1.toNat) j (p.2.1.1.getD j.toNat [])
def PT (n:Nat) (F:Nat->Int->Rat) (i:Int) (v:List D1) (p:Int×NB×Unit):Prop:=0<=p.1/\p.1<=(v.length:Int)/\p.2.1.1.length=n/\jO n p.2.1.2/\∀j:Int,0<=j->j<(n:Int)->fT i F (v.take p.1.toNat) j (p.2.1.1.getD j.toNat [])
variable {Bs:Int->Int->Prop} {i t:Int} {v:List D1} {dd:List Nat} {F:Nat->Int->Rat}
def HV.rng (h:HV n rest Bs i v (t,(cols,dd),())) (c:∀e∈v,0<=e.1/\e.1<(n:Int)) (b:t<(v.length:Int)):(0<=t/\t<(v.length:Int))/\(0<=(gx E4 v t).1/\(gx E4 v t).1<((cols.length:Nat):Int))/\(gx E4 v t).1.toNat∉dd:=by
 have a:=c (gx E4 v t) (H8 (d:=E4) (i:=t) h.1 b);have c:cols.length=n:=h.2.2.1;exact⟨⟨h.1,b⟩,⟨a.1,by rw[c];exact a.2⟩,h.2.2.2.1 _ (by omega)⟩
def HV.next (h:HV n rest Bs i v (t,(cols,dd),())) (hv:∀e∈v,0<=e.1/\e.1<(n:Int)) (ht:t<(v.length:Int)):HV n rest Bs i v (t+1,(cols.set (gx E4 v t).1.toNat (Qf (.int .i64) i (cols.getD (gx E4 v t).1.toNat [])),dd),()):=by
 obtain⟨b,_,c,f,g⟩:=h;simp only at b c f g;refine⟨by simp only;omega,by simp only;omega,by simp only;rw[qN];exact c,f,fun j a=> ?_⟩;obtain⟨⟨f,k⟩,c⟩:=g j a;refine⟨⟨f,k⟩, ?_⟩;have f:=hv _ (H8 (d:=E4) b ht);simp only;rw[Iy (d:=E4) b ht];generalize gx E4 v t=e at*;by_cases a:e.1=j
 . subst a;rw[B6 (by omega)];exact A9l c rfl
 . rw[D8 (by omega)];exact A5b c a
def cT.rng (h:cT n rest Bs i v (t,(cols,dd),())) (c:∀e∈v,0<=e.1/\e.1<(n:Int)) (b:t<(v.length:Int)):(0<=t/\t<(v.length:Int))/\(0<=(gx E4 v t).1/\(gx E4 v t).1<((cols.length:Nat):Int))/\(gx E4 v t).1.toNat∉dd:=by
 have a:=c (gx E4 v t) (H8 (d:=E4) (i:=t) h.1 b);have c:cols.length=n:=h.2.2.1;exact⟨⟨h.1,b⟩,⟨a.1,by rw[c];exact a.2⟩,h.2.2.2.1 _ (by omega)⟩
def cT.next {b:Bool} (h:cT n rest Bs i v (t,(cols,dd),())) (hv:∀e∈v,0<=e.1/\e.1<(n:Int)) (ht:t<(v.length:Int)):cT n rest Bs i v (t+1,(cols.set (gx E4 v t).1.toNat (Fl (.int .i64) i b (cols.getD (gx E4 v t).1.toNat [])),dd),()):=by
 obtain⟨c,_,f,g,k⟩:=h;simp only at c f g k;refine⟨by simp only;omega,by simp only;omega,by simp only;rw[qN];exact f,g,fun j a=> ?_⟩;obtain⟨⟨g,l⟩,f⟩:=k j a;refine⟨⟨g,l⟩, ?_⟩;have g:=hv _ (H8 (d:=E4) c ht);simp only;rw[Iy (d:=E4) c ht];generalize gx E4 v t=e at*;by_cases a:e.1=j
 . subst a;rw[B6 (by omega)];exact A9k f rfl
 . rw[D8 (by omega)];exact A5a f a
def PT.rng (h:PT n F i v (t,(cols,dd),())) (c:∀e∈v,0<=e.1/\e.1<(n:Int)) (b:t<(v.length:Int)):(0<=t/\t<(v.length:Int))/\(0<=(gx E4 v t).1/\(gx E4 v t).1<((cols.length:Nat):Int))/\(gx E4 v t).1.toNat∉dd:=by
 have a:=c (gx E4 v t) (H8 (d:=E4) (i:=t) h.1 b);have c:cols.length=n:=h.2.2.1;exact⟨⟨h.1,b⟩,⟨a.1,by rw[c];exact a.2⟩,h.2.2.2.1 _ (by omega)⟩
def PT.next {b:Bool} (h:PT n F i v (t,(cols,dd),())) (hv:∀e∈v,0<=e.1/\e.1<(n:Int)) (ht:t<(v.length:Int)):PT n F i v (t+1,(cols.set (gx E4 v t).1.toNat (Fl (.int .i64) i b (cols.getD (gx E4 v t).1.toNat [])),dd),()):=by
 obtain⟨a,_,c,f,g⟩:=h;simp only at a c f g;refine⟨by simp only;omega,by simp only;omega,by simp only;rw[qN];exact c,f,fun j k l=> ?_⟩;have c:=hv _ (H8 (d:=E4) a ht);simp only;rw[Iy (d:=E4) a ht];have a:=g j k l;generalize gx E4 v t=e at*;by_cases c:e.1=j
 . subst c;rw[B6 (by omega)];exact A9m a rfl
 . rw[D8 (by omega)];exact A5d a c
def KL (n:Nat) (p:Int×NB×List Int×Unit):Prop:=0<=p.1/\p.1<=(n:Int)/\p.2.1.1.length=n/\(∀j,p.2.1.1.getD j []= [])/\(∀i∈p.2.1.2,p.1<=(i:Int))/\p.2.2.1.length=n/\∀i:Nat,(i:Int)<p.1->p.2.2.1.getD i 0=(i:Int)
def KL.init:KL n (0,(List.replicate n [],Qh (Ty.mp false (Ty.int i64) false Ty.bool) n),List.replicate n 0,()):=by
 refine⟨by simp only;omega,by simp only;omega,by simp only;rw[rF],fun j=> ?_,fun i _=>qD i,by simp only;rw[rF],fun i a=> ?_⟩
 . simp only;rw[qF,uG];split<;>rfl
 . simp only at a;omega
def KL.next {left:List Int} (h:KL n (t,(cols,dd),left,())) (ht:t<(n:Int)):KL n (t+1,(cols.set t.toNat [],PF t.toNat dd),left.set t.toNat t,()):=by
 obtain⟨b,_,a,c,d,f,g⟩:=h;simp only at b a c d f g;refine⟨by simp only;omega,by simp only;omega,by simp only;rw[qN];exact a,fun j=> ?_,fun i b=> ?_,by simp only;rw[qN];exact f,fun i b=> ?_⟩
 . simp only;by_cases a:j=t.toNat
   . subst a;rw[B6 (by omega)]
   . rw[D8 a];exact c j
 . simp only at b⊢;obtain⟨c,f⟩:=YL.1 b;have:=d i c;omega
 . simp only at b⊢;by_cases a:i=t.toNat
   . subst a;rw[B6 (by omega)];omega
   . rw[D8 a];exact g i (by omega)
def GL (n:Nat) (D:List (List D1)) (p:Int×List (List D1)×NB×Unit):Prop:=0<=p.1/\p.1<=(n:Int)/\p.2.1.length=n/\(∀i:Nat,(i:Int)<p.1->PW (A4 (D.getD i [])) (p.2.1.getD i []))/\p.2.2.1.1.length=n/\jO n p.2.2.1.2/\∀j:Int,0<=j->j<(n:Int)->fT p.1 (fun i=>A4 (D.getD i [])) [] j (p.2.2.1.1.getD j.toNat [])
def GL.init {left:List Int} {D:List (List D1)} (h:KL n (t,(cols,dd),left,())) (a:(n:Int)<=t):GL n D (0,List.replicate n [],(cols,dd),()):=by
 obtain⟨d,_,a,b,c,f,g⟩:=h;simp only at d a b c f g;refine⟨by simp only;omega,by simp only;omega,by simp only;rw[rF],fun i d=>by simp only at d;omega,a,fun i d f=>by have:=c i f;omega,fun j a c=> ?_⟩;simp only;rw[b];refine⟨xS,fun x=>⟨fun a=>(by cases a),fun a=> ?_⟩⟩;rcases a with⟨c,d,_⟩ | ⟨_,e,b,_⟩
 . omega
 . cases b
def GL.row {D:List (List D1)} {rs:List (List D1)} (h:GL n D (t,rs,(cols,dd),())):PT n (fun i=>A4 (D.getD i [])) t (D.getD t.toNat []) (0,(cols,dd),()):=by
 obtain⟨d,_,f,g,a,b,c⟩:=h;exact⟨qI _,qD _,a,b,fun j d f=>c j d f⟩
def GL.next {D:List (List D1)} {rs:List (List D1)} {cols2:List R5} {dd2:List Nat} {u:Int} {w:List D1} (h:GL n D (t,rs,(cols,dd),())) (ht:t<(n:Int)) {m:Int} (hv:F7 (D.getD t.toNat []) m) (hw:PW (A4 (D.getD t.toNat [])) w) (hf:PT n (fun i=>A4 (D.getD i [])) t (D.getD t.toNat []) (u,(cols2,dd2),())) (hu:((D.getD t.toNat []).length:Int)<=u):GL n D (t+1,rs.set t.toNat w,(cols2,dd2),()):=by
 obtain⟨d,_,f,g,l,o,r⟩:=h;obtain⟨k,_,a,b,c⟩:=hf;simp only at d f g l o r k a b c;refine⟨by simp only;omega,by simp only;omega,by simp only;rw[qN];exact f,fun i k=> ?_,a,b,fun j f l=> ?_⟩
 . simp only at k⊢;by_cases a:i=t.toNat
   . subst a;rw[B6 (by omega)];exact hw
   . rw[D8 a];exact g i (by omega)
 . simp only;have a:=c j f l;rw[D7 hu]at a;exact A5c a d hv rfl
def B6q (n:Nat) (M:U9) (p:Int×List Int×List Int×List Int×List Int×List (List D1)×NR×NB×Unit):Prop:=0<=p.1/\p.1<=(n:Int)/\(∀s,1<=s->X5 s M->EI n p.1.toNat (sK s) (el M) p.2.1 p.2.2.1 p.2.2.2.1 p.2.2.2.2.1 p.2.2.2.2.2.1 p.2.2.2.2.2.2.1.1 p.2.2.2.2.2.2.2.1.1)/\jO n p.2.2.2.2.2.2.1.2/\jO n p.2.2.2.2.2.2.2.1.2
def B6q.init {M:U9} {left:List Int} {cols2:List R5} {b:List Nat} {rs:List (List D1)} {u:Int} (f:C2 M) (H:aJ M) (G:M.1=(n:Int)) (E:M.2.1=(n:Int)) (h:KL n (t,(cols2,b),left,())) (c:(n:Int)<=t) (g:GL n M.2.2 (u,rs,(cols,dd),())) (a:(n:Int)<=u):B6q n M (0,left,List.replicate n 0,List.replicate n 0,List.replicate n 0,rs,(List.replicate n [],Qh (Ty.sl (.pair (.int .i64) (.pair (.pair .bool (.sl (.int .u32))) (.sl (.int .u32))))) n),(cols,dd),()):=by
 obtain⟨y,z,A,B,D,v,w⟩:=h;obtain⟨b,x,k,l,o,c,r⟩:=g;simp only at y z A B D v w b x k l o c r;have a:u=(n:Int):=by omega
 subst a;refine⟨qI _,qD _,fun s x u=> ?_,fun i a b=>(by cases b),c⟩;have c:(M.2.2.length:Int)=(n:Int):=by rw[f.2.2.2.2.1,G]
 have c:∀i,i<n->F7 (M.2.2.getD i []) (n:Int)/\Yf s (M.2.2.getD i [])/\AF (M.2.2.getD i []):=fun i a=>by
  have b:=C8 (d:=([]:List D1)) (show i<M.2.2.length by omega);exact⟨E▸f.2.2.2.2.2 _ b,XW f u b,H _ b⟩
 exact EI.start (F:=fun i=>A4 (M.2.2.getD i [])) (fun i j _ _=>rfl) v (fun i a=>w i (by omega)) rF rF rF k rF o (fun i a=>l i (by omega)) (fun i j a b=>A1w (c i a).1 b) (fun i j a=>Uq (c i a).1.1 (c i a).2.2 (c i a).2.1.2.1 x j) (fun i a=>by rw[qF,uG,qR a];rfl) r
def Rl:An:= {loop:= [(5,⟨[1,5,14,15],[],[(16,false,vI)],[],[(0, .row .bool 4)]⟩)]}
def TX:An:= {plan:= [(3,[0,1,2],[5],true,(.q 0 (.q 1 (.q 2 (.e 3 (.e 4 (.e 5 .done)))))))]}
def Uj:An:= {}
def Ga:A2 M5.args->Prop:=fun(x:YJ)=>let b:=(x.1.length:Int);let a:=(0:Int);(iB (decide (b≠x.2.1)) (false=decide (L9 x.1 x.2.1)) ((a<=x.2.1/\x.2.1<=x.2.1/\(↑(1:Nat):Int)*x.2.1<=281474976710656/\x.2.1<=9223372036854775807)/\∃(I:B7t->Prop),∃(d: _->Nat),I (a,List.replicate x.2.1.toNat false,())/\∀(p:B7t),let h:=(decide (gx a x.1 p.1<a));let g:=(p.2.1.length:Int);let f:=(decide (x.2.1<=gx a x.1 p.1));let e:=(List.getD p.2.1 (gx a x.1 p.1).toNat false);let i:=(I6 h true f);let c:=(i64.wrap (p.1+1),List.set p.2.1 (gx a x.1 p.1).toNat true,());(Ty.int i64).wf p.1/\(List.length p.2.1<=9223372036854775807/\∀(x:Bool),x∈p.2.1->True)/\True->I p->(iB (decide (p.1<b)) ((a<=p.1/\p.1<b)/\(I6 h true f=false->a<=gx a x.1 p.1/\gx a x.1 p.1<g)/\(iB (I6 i true e) (false=decide (L9 x.1 x.2.1)) ((a<=gx a x.1 p.1/\gx a x.1 p.1<g)/\I c/\d c<d p))) (true=decide (L9 x.1 x.2.1)))))
def BM:A2 Er.args->Prop:=fun(x:A7n)=>let a:=(rv x.1-rv x.2.1*rv x.2.2.1);True/\Cp fun r=>r.1=(rv x.2.2.1).num.sign->(iB (decide (r.1=0)) ((rv x.2.2.1=(0:Rat)->x.1=x.1)/\(rv x.2.2.1≠(0:Rat)->x.1=rc a)) ((E6 x.2.1/\E6 x.2.2.1)/\I2 fun r=>r.1=rc (rv x.2.1*rv x.2.2.1)->(E6 x.1/\E6 r.1)/\I2 fun b=>b.1=rc (rv x.1-rv r.1)->(rv x.2.2.1=(0:Rat)->b.1=x.1)/\(rv x.2.2.1≠(0:Rat)->b.1=rc a)))
def Hj:A2 N6.args->Prop:=fun(x:jH)=>let b:=(decide (x.1.1=x.2.1));let a:=(decide (x.1.2.1=x.2.1));(I6 b a false=true->True)/\∀(r:V2),(I6 b a false=true->(True/\True)/\r.1=decide (C2 x.1))->I6 (I6 b a false) r.1 false=decide (sqr x.1 x.2.1)
def PI (l:List Int) (n t:Int) (s:List Bool):Prop:=0<=t/\t<=(l.length:Int)/\(s.length:Int)=n/\(∀i∈l.take t.toNat,0<=i/\i<n)/\(l.take t.toNat).Nodup/\∀k:Nat,(k:Int)<n->(s.getD k false=true↔(k:Int)∈l.take t.toNat)
def PI0 {l:List Int} {n:Int} (a:0<=n):PI l n 0 (List.replicate n.toNat false):=by
 refine⟨qI _,qD _,by rw[rF];omega,fun i a=>(by cases a),xS,fun k _=> ?_⟩;rw[qF,uG];constructor
 . intro h;split at h<;>cases h
 . intro h;cases h
def TQ {l:List Int} {t:Int} (a:0<=t) (b:t<(l.length:Int)):l.take (t+1).toNat=l.take t.toNat++ [gx 0 l t]:=by
 rw[show(t+1).toNat=t.toNat+1 from by omega,rQ,G8 (d:=(0:Int)) a b];rfl
def A8h {l:List Int} {n t:Int} {s:List Bool} (h:PI l n t s) (b:t<(l.length:Int)) (hb:gx 0 l t<0\/n<=gx 0 l t\/s.getD (gx 0 l t).toNat false=true):¬L9 l n:=by
 rintro⟨_,a,f⟩;obtain⟨c,_,_,_,_,i⟩:=h;have g:=H8 (d:=(0:Int)) c b;obtain⟨j,k⟩:=a _ g;rcases hb with hb|hb|hb
 . omega
 . omega
 . have:=(i (gx 0 l t).toNat (by omega)).1 hb;rw[show(((gx 0 l t).toNat:Nat):Int)=gx 0 l t from by omega]at this;have a:(l.take (t+1).toNat).Nodup:=f.take;rw[TQ c b,sW]at a;exact a.2.2 _ this _ (qP.2 rfl) rfl
def A2b {l:List Int} {n t:Int} {s:List Bool} (h:PI l n t s) (b:t<(l.length:Int)) (f:0<=gx 0 l t) (g:gx 0 l t<n) (a:s.getD (gx 0 l t).toNat false=false):PI l n (t+1) (s.set (gx 0 l t).toNat true):=by
 obtain⟨c,r,j,u,o,d⟩:=h;have r:gx 0 l t∉l.take t.toNat:=fun hm=>by
  have:=(d (gx 0 l t).toNat (by omega)).2 (by rw[show(((gx 0 l t).toNat:Nat):Int)=gx 0 l t from by omega];exact hm);rw[a]at this;cases this
 refine⟨by omega,by omega,by rw[qN];exact j,fun i a=> ?_, ?_,fun k j=> ?_⟩
 . rw[TQ c b,qY,qP]at a;rcases a with a|rfl
   . exact u i a
   . exact⟨f,g⟩
 . rw[TQ c b,sW];refine⟨o,by simp,fun u f v a g=> ?_⟩;rw[qP]at a;subst a g;exact r f
 . rw[TQ c b,qY,qP, <-d k j];by_cases a:(gx 0 l t).toNat=k
   . rw[a,qF,tA (by omega)];exact⟨fun _=> .inr (by omega),fun _=>rfl⟩
   . rw[qF,tD a, <-qF];exact⟨.inl,fun h=>h.resolve_right (by omega)⟩
def Nq (x:A2 M5.args) (b:awf M5.args x) (a:M5.pre x):Ga x:=by
 obtain⟨l,n,_⟩:=x;change List Int at l;change Int at n;obtain⟨b,c⟩:0<=n/\n<=16384:=a;simp only[Ga,iB];refine⟨fun h=> ?_,fun h=>⟨⟨b,qI _,by omega,by omega⟩, ?_⟩⟩
 . have h:=qA h;exact(rE fun a=>h a.1).symm
 . have h:=uK.1 (qB h);refine⟨fun p=>PI l n p.1 p.2.1,fun p=>((l.length:Int)-p.1).toNat,PI0 b, ?_⟩;rintro⟨t,s,_⟩ _ c;change Int at t;change List Bool at s;simp only at c⊢;obtain⟨d,f,b,_⟩:=id c;refine⟨fun b=> ?_,fun b=> ?_⟩
   . have b:=qA b;rw[G6,G6];refine⟨⟨d,b⟩,fun a=> ?_,fun a=> ?_,fun a=> ?_⟩
     . simp only[rI,rK]at a;omega
     . simp only[uA,rV]at a;exact(rE (A8h c b (by rcases a with(a|a) |a;exact .inl a;exact .inr (.inl a);exact .inr (.inr a)))).symm
     . simp only[rI,rK]at a;rw[wv (by omega)];exact⟨by omega,A2b c b (by omega) (by omega) a.2,by omega⟩
   . have b:=qB b;obtain⟨_,_,_,a,b,_⟩:=c;rw[D7 (by omega)]at a b;exact(rG ⟨h,a,b⟩).symm
def Oa (x:A2 M7.args) (b:awf M7.args x) (a:M7.pre x):Gc x:=by
 obtain⟨l,_⟩:=x;change List Int at l;have b:l.length<=100000:=a;simp only[Gc,iB];refine⟨⟨qD _,qI _,by omega,by omega⟩,fun p=>PI l (l.length:Int) p.1 p.2.1,fun p=>((l.length:Int)-p.1).toNat,PI0 (qD _), ?_⟩;rintro⟨t,s,_⟩ _ c;change Int at t;change List Bool at s;simp only at c⊢;obtain⟨d,b,a,_⟩:=id c;refine⟨fun b=> ?_,fun b=> ?_⟩
 . have b:=qA b;rw[G6,G6];refine⟨⟨d,b⟩,fun a=> ?_,fun a=> ?_,fun a=> ?_⟩
   . simp only[rI,rK]at a;omega
   . simp only[uA,rV]at a;exact(rE (A8h c b (by rcases a with(a|a) |a;exact .inl a;exact .inr (.inl a);exact .inr (.inr a)))).symm
   . simp only[rI,rK]at a;rw[wv (by omega)];exact⟨by omega,A2b c b (by omega) (by omega) a.2,by omega⟩
 . have b:=qB b;obtain⟨_,_,_,a,b,_⟩:=c;rw[D7 (by omega)]at a b;exact(rG ⟨rfl,a,b⟩).symm
def LN (x:A2 Er.args) (a:awf Er.args x) (h:Er.pre x):BM x:=by
 obtain⟨b,c,d,_⟩:=x;obtain⟨i,g,f⟩:sz K1 b/\sz K1 c/\sz K1 d:=h;have k:=Jb a.2.1;have j:=Jb a.2.2.1;simp only[BM,iB,Cp,I2];refine⟨trivial, ?_⟩;rintro⟨r,_⟩ _ b;change Int at r;simp only at b⊢;refine⟨fun h=> ?_,fun h=>⟨⟨X8 g (by decide),X8 f (by decide)⟩, ?_⟩⟩
 . have h:=qA h;rw[b,B8u]at h;exact⟨fun _=>by trivial,fun a=>absurd h a⟩
 . have c:rv d≠0:=fun c=>qB h (by rw[b,B8u];exact c)
   rintro⟨p,_⟩ _ b;simp only at b⊢;subst b;refine⟨⟨X8 i (by decide),P9 (IJ (Jm k g (by decide)) (Jm j f (by decide))) (by decide)⟩, ?_⟩;rintro⟨q,_⟩ _ a;simp only at a⊢;refine⟨fun b=>absurd b c,fun _=> ?_⟩;rw[a,E3]
def mvE (p:List Int) (e:D1):D1:=(p.getD e.1.toNat 0,e.2)
def A3s {p:List Int} (h:L9 p (p.length:Int)) {a i:Int} (b:0<=a) (f:a<(p.length:Int)) (g:0<=i) (j:i<(p.length:Int)):p.getD a.toNat 0=i↔a=((List.idxOf i p:Nat):Int):=by
 have b:a.toNat<p.length:=by omega
 constructor
 . intro g;have l:i∈p:=g▸C8 b;have j:=yK l;have k:p[List.idxOf i p]=i:=g0r j;rw[H6 _ _ b, <-k]at g;have:=(wK h.2.2).1 g;omega
 . intro g;have l:i∈p:=by
    obtain⟨b,f,r⟩:=Gk (n:=p.length) (q:=fun b=>(p.getD b 0).toNat) (fun b f=>by have:=h.2.1 _ (C8 (d:=0) f);omega) (fun b c f s o=>by
     have t:=h.2.1 _ (C8 (d:=0) f);have u:=h.2.1 _ (C8 (d:=0) s);have o:(p.getD b 0).toNat=(p.getD c 0).toNat:=o;have e:p.getD b 0=p.getD c 0:=by omega
     rw[H6 _ _ f,H6 _ _ s]at e;exact(wK h.2.2).1 e) (show i.toNat<p.length by omega)
    have t:=h.2.1 _ (C8 (d:=0) f);have r:(p.getD b 0).toNat=i.toNat:=r;rw[show i=p.getD b 0 from by omega];exact C8 f
   have j:=yK l;have k:p[List.idxOf i p]=i:=g0r j;rw[g,qM,H6 _ _ j,k]
def A2n {p:List Int} (h:L9 p (p.length:Int)):∀ {c:List D1},(∀e∈c,0<=e.1/\e.1<(p.length:Int))->∀i,A4 (c.map (mvE p)) i=if 0<=i/\i<(p.length:Int)then A4 c ((List.idxOf i p:Nat):Int)else 0
 | [],_,i=>by split<;>rfl
 |e::c,a,i=>by
  obtain⟨f,g⟩:=a e (rA ..);have b:=A2n h (fun x hx=>a x (qJ _ hx)) i;rw[rZ,A4,A4,b];have k:=h.2.1 _ (C8 (d:=0) (show e.1.toNat<p.length by omega));by_cases a:0<=i/\i<(p.length:Int)
  . rw[qR a,qR a];congr 1;show(if p.getD e.1.toNat 0=i then rv e.2 else 0)= _;by_cases b:p.getD e.1.toNat 0=i
    . rw[qR b,qR ((A3s h f g a.1 a.2).1 b)]
    . rw[qK b,qK fun j=>b ((A3s h f g a.1 a.2).2 j)]
  . rw[qK a,qK a,rN];exact qK fun b=>a (by rw[<-b];exact k)
def CS (x:A2 S9.args) (a:awf S9.args x) (b:S9.pre x):Px x:=by
 obtain⟨v,p,_⟩:=x;change List D1 at v;change List Int at p;have a:Yf K1 v/\p.length<=100000:=b;obtain⟨a,b⟩:=a;simp only[Px,iB,Ql,iV];refine⟨b, ?_⟩;rintro⟨r,_⟩ _ b;change Bool at r;simp only at b⊢;refine⟨fun h n=> ?_,fun h=>⟨.inl a, ?_⟩⟩
 . rw[b,rG n]at h;cases h
 have n:L9 p (p.length:Int):=by
  refine qU fun a=> ?_
  rw[b,rE a]at h;cases h
 rintro⟨c,_⟩ ⟨⟨a,_⟩,_⟩ b;change List D1 at c;simp only at b a⊢;have a:c.length<=9223372036854775807:=a;refine⟨fun q=>0<=q.1/\q.1<=(c.length:Int)/\q.2.1=(c.take q.1.toNat).map (mvE p)++c.drop q.1.toNat/\∀e∈c.take q.1.toNat,0<=e.1/\e.1<(p.length:Int),fun q=>((c.length:Int)-q.1).toNat,⟨qI _,qD _,rfl,fun e a=>(by cases a)⟩, ?_⟩;rintro⟨i,g,_⟩ _ ⟨k,h,f,d⟩;change Int at i;change List D1 at g;simp only at k h f d⊢;refine⟨fun h=> ?_,fun h=> ?_⟩
 . have h:=qA h;have l:i.toNat<c.length:=by omega
   have y:g.length=c.length:=by rw[f,rO,tG,qW,sL];omega
   have u:((c.take i.toNat).map (mvE p)).length=i.toNat:=by rw[tG,qW];omega
   have t:c.drop i.toNat=c.getD i.toNat E4::c.drop (i.toNat+1):=by rw[H6 _ _ l];exact xF l
   have w:g.getD i.toNat E4=c.getD i.toNat E4:=by
    rw[f,t,qF,uC (by omega),u,xM];rfl
   have o:c.getD i.toNat E4∈c:=C8 l;have s:0<=i/\i<(g.length:Int):=⟨k,by rw[y];exact h⟩;rw[w];refine⟨s,fun g _ k=> ?_,fun g=> ?_⟩
   . exfalso;rw[G6]at g;simp only[uA,rV]at g;have:=k (c.getD i.toNat E4).1 (by rw[<-b.2,O6 b.1.1 o];exact(b.1.2 _ o).1);omega
   . rw[G6]at g;simp only[rI,rK]at g;have k:0<=(c.getD i.toNat E4).1/\(c.getD i.toNat E4).1<(p.length:Int):=⟨by omega,by omega⟩;rw[wv (by omega),G7 k.1 k.2];have o:c.take (i+1).toNat=c.take i.toNat++ [c.getD i.toNat E4]:=by
      rw[show(i+1).toNat=i.toNat+1 from by omega];rw[rQ,qT l,H6 _ _ l];rfl
     refine⟨k,s,⟨by omega,by omega, ?_,fun e a=> ?_⟩,by omega⟩
     . rw[o,f,t,uJ,uB,g2i _ _ (by omega),u,xM,show(i+1).toNat=i.toNat+1 from by omega];rfl
     . rw[o]at a;rcases qY.1 a with a|a
       . exact d e a
       . rw[qP]at a;subst a;exact k
 . have h:=qB h;rw[D7 (by omega)]at f d;rw[sC (by omega),vT]at f;subst f;have f:F7 c (p.length:Int):=⟨b.1.1,fun e a=>⟨(d e a).1,(d e a).2,(b.1.2 e a).1⟩⟩;refine⟨?_,fun h _ l u _ _=>⟨⟨⟨?_,fun e a=> ?_⟩,fun j=> ?_⟩,by trivial⟩⟩
   . have:=Gg f;have f:∀z:Nat,z=c.length->z<=100000:=fun z f=>by omega
     exact f _ (tG ..)
   . have k:(h.map fun e:D1=>e.1).Nodup:=by
      rw[(l.map fun e:D1=>e.1).nodup_iff,List.map_map];have f:(c.map fun e:D1=>e.1).Nodup:=by
       unfold List.Nodup;rw[vM];exact b.1.1.imp fun g=>by omega
      unfold List.Nodup at f⊢;rw[vM]at f⊢;refine List.Pairwise.imp_of_mem (fun {g h} o t s a=>s ?_) f;obtain⟨s,w⟩:=d g o;obtain⟨o,s⟩:=d h t;have a:p.getD g.1.toNat 0=p.getD h.1.toNat 0:=a;rw[H6 _ _ (by omega),H6 _ _ (by omega)]at a;have:=(wK n.2.2).1 a;omega
     unfold List.Nodup at k;rw[vM]at k;refine g3k ?_ u k;intro g h f k;have:g.1<=h.1:=by
      unfold K6 at f;split at f
      . omega
      . split at f<;>omega
     omega
   . obtain⟨y,f,rfl⟩:=sP.1 (l.mem_iff.1 a);exact b.1.2 y f
   . rw[UY l,A2n n d];simp only[b.2]
def Zg:An:= {loop:= [(8,⟨[2,6,36],[0,2],[(37,false,vI)],[],[]⟩)],plan:= [(10,[2,5,8,11],[],true,(.p 0 (.p 1 (.q 2 (.p 3 (.p 4 (.q 5 (.p 6 (.p 7 (.q 8 (.p 9 (.p 10 (.q 11 (.p 12 (.p 13 .done))))))))))))))),(11,[10,21,22],[],true,(pZ9 0 10 (.q 10 (pZ9 11 10 (.q 21 (.q 22 (.e 23 (.p 24 (.p 25 .done)))))))))]}
abbrev C4f:=(List Int×List Int×MM×Int×Int×List (List EE))×Int×Unit
def Jx:A2 R1.args->Prop:=fun(x:C4f)=>let h:=(1:Int);let e:Prop:=(false=true↔Cu x.1 x.2.1);let d:=(0:Int);(d<=x.2.1/\x.2.1<=16384)/\Ql fun r=>r.1=decide (L9 x.1.1 x.2.1)->((!r.1)=false->d<=x.2.1/\x.2.1<=16384)/\∀(q:V2),((!r.1)=false->(True/\True)/\q.1=decide (L9 x.1.2.1 x.2.1))->(iB ((I6 (!r.1) true !q.1)) (e) (True/\Ql fun n=>n.1=decide (sqr x.1.2.2.1 x.2.1)->((!n.1)=false->True)/\∀(s:V2),((!n.1)=false->(True/\True)/\s.1=decide (sqr x.1.2.2.2 x.2.1))->(iB ((I6 (!n.1) true !s.1)) (e) (True/\I2 fun r=>r.1=ri h->∃(I:C7->Prop),∃(t: _->Nat),I (d,())/\∀(p:C7),let l:=(i64.wrap (p.1+h),());let j:=(gx [] x.1.2.2.1.2.2 p.1);let c:=(gx [] x.1.2.2.2.2.2 p.1);let k:=(decide ((gx E4 c d).1≠p.1));let i:=(↑c.length:Int);let a:=(↑j.length:Int);let g:=(decide (a=d));let b:=(gx E4 j (i64.wrap (a-h)));let f:=(decide (b.1≠p.1));(Ty.int i64).wf p.1/\True->I p->(iB (decide (p.1<x.2.1)) ((d<=p.1/\p.1<(x.1.2.2.1.2.2.length:Int))/\(d<=p.1/\p.1<(x.1.2.2.2.2.2.length:Int))/\(decide (a=d)=false->d<=i64.wrap (a-h)/\i64.wrap (a-h)<a)/\(I6 g true f=false->d<=i64.wrap (a-h)/\i64.wrap (a-h)<a)/\(I6 g true f=false->E6 b.2/\E6 r.1)/\∀(o:C7),let m:=(decide (o.1≠d));(I6 g true f=false->(K9 o.1/\True)/\o.1=UU (rv b.2) (rv r.1))->(iB (I6 (I6 g true f) true m) (e) ((decide (i=d)=false->d<=d/\d<i)/\(iB (I6 (decide (i=d)) true k) (e) (I l/\t l<t p))))) ((true=true↔Cu x.1 x.2.1)))))))
def Oj (x:A2 N6.args) (a:awf N6.args x) (_:N6.pre x):Hj x:=by
 obtain⟨m,n,_⟩:=x;change U9 at m;change Int at n;simp only[Hj,J1];refine⟨fun _=>trivial, ?_⟩;rintro⟨r,_⟩ c;change Bool at r;simp only at c⊢;by_cases a:m.1=n
 . by_cases b:m.2.1=n
   . rw[(c (by rw[rG a,rG b];rfl)).2,rG a,rG b,zY,zY];exact wL.2 ⟨fun h=>⟨a,b,h⟩,fun h=>h.2.2⟩
   . rw[rE b,Bool.and_false,g0n];exact(rE fun h=>b h.2.1).symm
 . rw[rE a,g0n,g0n];exact(rE fun h=>a h.1).symm
def mK {v:List D1} (h:Fj v) (a:v≠ []):gx E4 v ((v.length:Int)-1)∈v/\∀x∈v,x.1<=(gx E4 v ((v.length:Int)-1)).1:=by
 have b:0<v.length:=vB.2 a;have a:=G8 (d:=E4) (l:=v) (i:=(v.length:Int)-1) (by omega) (by omega);refine⟨H8 (by omega) (by omega),fun x b=> ?_⟩;obtain⟨k,c,rfl⟩:=uU.1 b;rw[show((v.length:Int)-1).toNat=v.length-1 from by omega]at a;have b:v[v.length-1]'(by omega)=gx E4 v ((v.length:Int)-1):=by
  rw[qT (by omega)]at a;exact xI a
 rw[<-b];by_cases a:k=v.length-1
 . subst a;exact qI _
 . exact xJ (tY.1 h k (v.length-1) c (by omega) (by omega))
def A3i {v:List D1} {n:Int} (h:F7 v n) {i:Nat} (a:(i:Int)<n):(v≠ []/\(gx E4 v ((v.length:Int)-1)).1=(i:Int)/\rv (gx E4 v ((v.length:Int)-1)).2=1)↔(∀j:Nat,(j:Int)<n->i<j->A4 v (j:Int)=0)/\A4 v (i:Int)=1:=by
 constructor
 . rintro⟨c,f,a⟩;obtain⟨b,g⟩:=mK h.1 c;refine⟨fun j _ d=>D5 fun e d k=> ?_, ?_⟩
   . have:=g e d;omega
   . rw[<-f,O6 h.1 b,a]
 . rintro⟨f,a⟩;have c:v≠ []:=fun e=>by subst e;rw[Rq]at a;exact absurd a (by decide)
   obtain⟨b,g⟩:=mK h.1 c;obtain⟨x,k,l⟩:=Uo (show A4 v (i:Int)≠0 from by rw[a];decide);have l:=g x k;obtain⟨k,l,g⟩:=h.2 _ b;have d:(gx E4 v ((v.length:Int)-1)).1=(i:Int):=by
    refine qU fun k=>g ?_
    have:=f (gx E4 v ((v.length:Int)-1)).1.toNat (by omega) (by omega);rw[show(((gx E4 v ((v.length:Int)-1)).1.toNat:Nat):Int)=(gx E4 v ((v.length:Int)-1)).1 from by omega,O6 h.1 b]at this;exact this
   refine⟨c,d, ?_⟩;rw[<-O6 h.1 b,d,a]
def B4e {v:List D1} {n:Int} (h:F7 v n) {i:Nat} :(v≠ []/\(gx E4 v 0).1=(i:Int))↔(∀j:Nat,j<i->A4 v (j:Int)=0)/\A4 v (i:Int)≠0:=by
 cases v with
 |nil=>exact⟨fun a=>absurd rfl a.1,fun a=>absurd (Rq _) a.2⟩
 |cons e r=>
  have a:gx E4 (e::r) 0=e:=rfl;rw[a];have c:=(h.2 e rA);constructor
  . rintro⟨_,a⟩;exact⟨fun j b=>DK h.1 (by omega),by rw[<-a,M8 h.1];exact c.2.2⟩
  . rintro⟨a,d⟩;refine⟨by simp,qU fun f=> ?_⟩;rcases Int.lt_or_gt_of_ne f with b|b
    . refine c.2.2 ?_;rw[<-M8 h.1];have:=a e.1.toNat (by omega);rwa[show((e.1.toNat:Nat):Int)=e.1 from by omega]at this
    . exact d (DK h.1 b)
def nI (L U:U9) (n:Int) (i:Nat):Prop:=(∀j:Nat,(j:Int)<n->i<j->el L i j=0)/\el L i i=1/\(∀j:Nat,j<i->el U i j=0)/\el U i i≠0
def A6c {P Q:List Int} {L U:U9} {n:Int} (d:L9 P n) (f:L9 Q n) (g:sqr L n) (k:sqr U n):Cu (P,Q,L,U) n↔∀i:Nat,(i:Int)<n->nI L U n i:=by
 constructor
 . rintro⟨_,_,_,_,h⟩ i a;exact⟨fun j b c=>(h i j a b).1 c,(h i i a a).2.1,fun j b=>(h i j a (by omega)).2.2.1 b,(h i i a a).2.2.2⟩
 . intro h;exact⟨d,f,g,k,fun i j a b=>⟨fun c=>(h i a).1 j b c,(h i a).2.1,fun b=>(h i a).2.2.1 j b,(h i a).2.2.2⟩⟩
def A2m {p q:Rat} :UU p q=0↔p=q:=by
 unfold UU;by_cases a:p<q
 . rw[qR a];exact⟨fun h=>by omega,fun h=>by subst h;exact absurd a (g3i)⟩
 . rw[qK a];by_cases b:q<p
   . rw[qR b];exact⟨fun h=>by omega,fun h=>by subst h;exact absurd b (g3i)⟩
   . rw[qK b];exact⟨fun _=>Rat.le_antisymm (Rat.not_lt.1 b) (Rat.not_lt.1 a),fun _=>rfl⟩
def OH {p:Prop} (h:¬p):(false=true↔p):=⟨fun a=>(by cases a),fun hp=>absurd hp h⟩
def Tp (x:A2 R1.args) (b:awf R1.args x) (f:R1.pre x):Jx x:=by
 obtain⟨⟨P,Q,L,U⟩,n,_⟩:=x;change U9 at L;change U9 at U;change Int at n;obtain⟨r,b,u,g⟩:0<=n/\n<=16384/\X5 K1 L/\X5 K1 U:=f;simp only[Jx,iB,I2,Ql,G6];refine⟨⟨r,b⟩, ?_⟩;rintro⟨g,_⟩ _ f;change Bool at g;simp only at f⊢;refine⟨fun _=>⟨r,b⟩, ?_⟩;rintro⟨g,_⟩ b;change Bool at g;simp only at b⊢;by_cases g:L9 P n
 case neg=>
  rw[f,rE g];exact⟨fun _=>OH fun h=>g h.1,fun h=>by simp at h⟩
 have b:=(b (by rw[f,rG g];rfl)).2;by_cases o:L9 Q n
 case neg=>
  rw[b,rE o];exact⟨fun _=>OH fun h=>o h.2.1,fun h=>by simp at h⟩
 rw[f,b,rG g,rG o];refine⟨fun h=>by simp at h,fun _=>⟨trivial, ?_⟩⟩;rintro⟨b,_⟩ _ l;change Bool at b;simp only at l⊢;refine⟨fun _=>trivial, ?_⟩;rintro⟨b,_⟩ f;change Bool at b;simp only at f⊢;by_cases b:sqr L n
 case neg=>
  rw[l,rE b];exact⟨fun _=>OH fun h=>b h.2.2.1,fun h=>by simp at h⟩
 have f:=(f (by rw[l,rG b];rfl)).2;by_cases k:sqr U n
 case neg=>
  rw[f,rE k];exact⟨fun _=>OH fun h=>k h.2.2.2.1,fun h=>by simp at h⟩
 rw[l,f,rG b,rG k];refine⟨fun h=>by simp at h,fun _=>⟨trivial, ?_⟩⟩;rintro⟨one,_⟩ _ f;change D3 at one;simp only at f⊢;have B:=A6c g o b k;obtain⟨g,w,l⟩:=b;obtain⟨b,z,s⟩:=k;have k:(L.2.2.length:Int)=n:=l.2.2.2.2.1.trans g;have g:(U.2.2.length:Int)=n:=s.2.2.2.2.1.trans b;have D:rv one=1:=by rw[f];exact C3x 1
 have y:E6 one:=by rw[f, <-iW];exact P9 (B3g (by decide)) (by decide)
 refine⟨fun p=>0<=p.1/\p.1<=n/\∀i:Nat,(i:Int)<p.1->nI L U n i,fun p=>(n-p.1).toNat,⟨qI _,r,fun i A=>by omega⟩, ?_⟩;rintro⟨t,_⟩ _ k;change Int at t;simp only at k⊢;obtain⟨b,f,k⟩:=k;refine⟨fun o=> ?_,fun o=> ?_⟩
 . have o:=qA o;have g:F7 (gx [] L.2.2 t) n:=by have:=l.2.2.2.2.2 _ (H8 (d:= []) b (show t<(L.2.2.length:Int)by omega));rwa[w]at this
   have w:F7 (gx [] U.2.2 t) n:=by have:=s.2.2.2.2.2 _ (H8 (d:= []) b (show t<(U.2.2.length:Int)by omega));rwa[z]at this
   have z:=u _ (H8 (d:= []) b (show t<(L.2.2.length:Int)by omega));have f:((t.toNat:Nat):Int)=t:=by omega
   have l:=A3i g (i:=t.toNat) (by omega);have r:=B4e w (i:=t.toNat);rw[f]at l r;have w:nI L U n t.toNat↔((∀j:Nat,(j:Int)<n->t.toNat<j->A4 (gx [] L.2.2 t) (j:Int)=0)/\A4 (gx [] L.2.2 t) t=1)/\(∀j:Nat,j<t.toNat->A4 (gx [] U.2.2 t) (j:Int)=0)/\A4 (gx [] U.2.2 t) t≠0:=by
    unfold nI el;rw[f];exact(and_assoc (a:=∀j:Nat,(j:Int)<n->t.toNat<j->A4 (L.2.2.getD t.toNat []) (j:Int)=0)).symm
   rw[<-l, <-r]at w;have s:¬nI L U n t.toNat->¬Cu (P,Q,L,U) n:=fun h hh=>h (B.1 hh t.toNat (by omega))
   have f:∀ {v:List D1},((v.length:Int)=0)↔v= []:=fun {v} =>⟨fun h=>qO (by omega),fun h=>by rw[h];rfl⟩
   have l:=Gg g;have r:(gx [] L.2.2 t)≠ []->i64.wrap (((gx [] L.2.2 t).length:Int)-1)=((gx [] L.2.2 t).length:Int)-1:=fun h=>by
    have:=vB.2 h;exact wv (by omega)
   refine⟨⟨b,by omega⟩,⟨b,by omega⟩,fun h=> ?_,fun h=> ?_,fun h=> ?_, ?_⟩
   . have h:=mt f.2 (qB h);have:=vB.2 h;rw[r h];omega
   . simp only[rI]at h;have h:=mt f.2 (qB h.1);have:=vB.2 h;rw[r h];omega
   . simp only[rI]at h;have h:=mt f.2 (qB h.1);have b:=vB.2 h;rw[r h];exact⟨X8 (z _ (H8 (by omega) (by omega))) (by decide),y⟩
   rintro⟨c,_⟩ b;change Int at c;simp only at b⊢;refine⟨fun h=>OH (s fun l=> ?_),fun h=>⟨fun g=>⟨qI _, ?_⟩,fun g=>OH (s fun l=> ?_),fun g=> ?_⟩⟩
   . obtain⟨⟨u,z,E⟩,_⟩:=w.1 l;rw[r u]at b h;have s:decide (((gx [] L.2.2 t).length:Int)=0)=false:=rE (mt f.1 u);have y:decide ((gx E4 (gx [] L.2.2 t) (((gx [] L.2.2 t).length:Int)-1)).1≠t)=false:=rE (by rw[uK];exact z);rw[s,y]at b h;have b:=(b rfl).2;rw[D,E]at b;rw[b,A2m.2 rfl]at h;simp at h
   . have:=mt f.2 (qB g);have:=vB.2 this;omega
   . obtain⟨_,u,z⟩:=w.1 l;rw[rE (mt f.1 u),rE (by rw[uK];exact z)]at g;simp at g
   . simp only[rI]at h g;have s:=mt f.2 (qB h.1.1);rw[r s]at b h;have y:=uK.1 (qB h.1.2);have r:=uK.1 (qB h.2);have b:=(b (by rw[h.1.1,h.1.2];rfl)).2;rw[r,D]at b;have h:=mt f.2 (qB g.1);have f:=uK.1 (qB g.2);have l:=w.2 ⟨⟨s,y,A2m.1 b.symm⟩,h,f⟩;rw[wv (by omega)];refine⟨⟨by omega,by omega,fun i A=> ?_⟩,by omega⟩;by_cases b:i=t.toNat
     . subst b;exact l
     . exact k i (by omega)
 . have o:=qB o;exact⟨fun _=>B.2 fun i A=>k i (by omega),fun _=>trivial⟩
noncomputable def FM:H1:= [(72,Cb)]
def ES:An:= {loop:= [(3,⟨[1,3,24],[0,1,2,3,4,5,6,7,8,9,10,13],[(25,false,vI)],[],[(11, .nest (.mp false (.int .i64) false .bool) 174 4),(12, .row (.int .i64) 3)]⟩),(13,⟨[3,5,44,45,46,59,60],[0,1,2,3,4,5,6,7,9,10,12,13],[(61,false,vI)],[],[(11, .nest (.mp false (.int .i64) false .bool) 174 4)]⟩),(9,⟨[3,44,45],[0,1,2,3,4,5,6,7,10,12,13],[(46,false,vI)],[],[(9, .row (.sl tE) 79),(11, .nest (.mp false (.int .i64) false .bool) 174 4)]⟩)],plan:= [(1,[1,4,7,10],[],true,(.p 0 (.q 1 (.p 3 (.q 4 (.p 6 (.q 7 (.p 9 (.q 10 (.al [2,5,8,11] [12] (.e 13 (.p 14 .done)))))))))))),(11,[3],[8],true,(pZ9 0 3 (.q 3 (.p 4 (.p 5 (.e 6 (.p 7 (.e 8 .done)))))))),(15,[3,5],[9],false,(pZ9 0 3 (.q 3 (.p 4 (.q 5 (.p 6 (.p 8 (.e 7 (.e 9 .done)))))))))]}
noncomputable def Wc:H1:= []
def Ue:An:= {plan:= [(1,[0,3,4,7,10],[],false,(.q 0 (.p 1 (.p 2 (.q 3 (.q 4 (.p 5 (.p 6 (.q 7 (.p 8 (.p 9 (.q 10 (.p 11 (.e 12 (.e 13 (.p 14 .done))))))))))))))))]}
noncomputable def Wd:H1:= []
def Uf:An:= {plan:= [(1,[0,3,4,7,10],[],false,(.q 0 (.p 1 (.p 2 (.q 3 (.q 4 (.p 5 (.p 6 (.q 7 (.p 8 (.p 9 (.q 10 (.p 11 (.e 12 (.e 13 (.p 14 .done))))))))))))))))]}
noncomputable def We:H1:= []
def Ug:An:= {plan:= [(1,[0,3,4,7,10],[],false,(.q 0 (.p 1 (.p 2 (.q 3 (.q 4 (.p 5 (.p 6 (.q 7 (.p 8 (.p 9 (.q 10 (.p 11 (.e 12 (.e 13 (.p 14 .done))))))))))))))))]}
noncomputable def Wg:H1:= []
def Uh:An:= {plan:= [(1,[0,3,4,7,10],[],false,(.q 0 (.p 1 (.p 2 (.q 3 (.q 4 (.p 5 (.p 6 (.q 7 (.p 8 (.p 9 (.q 10 (.p 11 (.e 12 (.e 13 (.p 14 .done))))))))))))))))]}
noncomputable def FN:H1:= [(158,Gl (QA ⟨prog,SQ⟩ [(20,Wc,Ue),(23,Wd,Uf),(28,We,Ug),(33,Wg,Uh)] f158.results.toList (f158.body.getD .skip) f158.ntmps))]
def ET:An:= {join:= [(8,⟨[1,6,14,15],[1,2,3,4,5,6,7,9,10,13,14,15],[(5,false,vI)],[],[(11, .nest (.mp false (.int .i64) false .bool) 174 4)]⟩),(10,⟨[1,6],[1,2,3,4,5,6,7,9,10,13,14,15],[(5,false,vI)],[],[(11, .nest (.mp false (.int .i64) false .bool) 174 4)]⟩),(14,⟨[1,3],[1,2,3,4,5,6,7,15],[],[(13,155,[.fix 9, .fix 10, .fix 11, .own (.int .i64) 3])],[(9, .row (.sl tE) 79),(10, .nest (.sl tE) 79 106),(11, .nest (.mp false (.int .i64) false .bool) 174 4)]⟩),(20,⟨[3],[1,2,3,4,5,6,7,9,10,13,17],[(2,false,vI)],[],[(11, .nest (.mp false (.int .i64) false .bool) 174 4)]⟩)],loop:= [(4,⟨[1,6,14],[1,2,3,4,5,6,7,9,10,13,14,15],[(5,false,vI),(15,false,vI)],[],[(11, .nest (.mp false (.int .i64) false .bool) 174 4)]⟩),(16,⟨[1,3,66],[1,2,3,4,5,6,7,9,10,11,13,15,17],[(2,false,vI)],[],[(19, .itM false (.int .i64) false .bool 18)]⟩)],plan:= [(13,[1,4,7,10],[14,17],false,(.q 1 (.p 2 (.p 3 (.q 4 (.p 5 (.p 6 (.q 7 (.p 8 (.p 9 (.q 10 (pZ9 11 3 (.or 0 (.e 14 (.p 15 (.p 16 (.e 17 .done)))) (.e 14 (.e 0 (.p 15 (.p 16 (.e 17 .done)))))))))))))))))),(18,[3,6,9,11,14,17,22,25,28,30,33,36],[],true,(pZ9 0 3 (.q 3 (.p 4 (.p 5 (.q 6 (.p 7 (.p 8 (.q 9 (.p 10 (.q 11 (.p 12 (.p 13 (.q 14 (.p 15 (.p 16 (.q 17 (pZ9 18 4 (.q 22 (.p 23 (.p 24 (.q 25 (.p 26 (.p 27 (.q 28 (.p 29 (.q 30 (.p 31 (.p 32 (.q 33 (.p 34 (.p 35 (.q 36 (pZ9 37 8 .done))))))))))))))))))))))))))))))))))]}
noncomputable def Wh:H1:= []
def Ui:An:= {loop:= [(1,⟨[0,2,6,7],[1,2,3,4,5,6,7,9,10,13,15,16,17],[(8,false,vI)],[],[(11, .nest (.mp false (.int .i64) false .bool) 174 4)]⟩)],plan:= [(3,[0,3,5],[9],false,(.q 0 (.p 1 (.p 2 (.q 3 (.p 4 (.q 5 (.p 6 (.p 8 (.e 7 (.e 9 .done)))))))))))]}
noncomputable def Tk:H1:= []
def Rj:An:= {loop:= [(1,⟨[0,2,6,7],[1,2,3,4,5,6,7,9,10,13,15,16,17,18,19],[(8,false,vI)],[],[(11, .nest (.mp false (.int .i64) false .bool) 174 4)]⟩)],plan:= [(3,[0,3,5],[9],false,(.q 0 (.p 1 (.p 2 (.q 3 (.p 4 (.q 5 (.p 6 (.p 8 (.e 7 (.e 9 .done)))))))))))]}
noncomputable def FO:H1:= [(45,Ee),(67,U5),(71,Ai),(160,Ah),(161,O2),(159,Gl (QA ⟨prog,SQ⟩ [(29,Wh,Ui),(107,Tk,Rj)] f159.results.toList (f159.body.getD .skip) f159.ntmps))]
def EU:An:= {join:= [(10,⟨[1,3,4,8,9,10],[1,2,3,4,5,6,7,9,10,13,15,16,17,18],[(12,false,[.own (.int .i64) 3])],[],[(11, .nest (.mp false (.int .i64) false .bool) 174 4)]⟩),(14,⟨[1,3,4,8,9,10,15,53,54,55],[1,2,3,4,5,6,7,9,10,11,13,15,16,17,18,19],[(16,false,[.fixB 20])],[(20,43,[.val .bool, .val (.sl (.int .u32)), .val (.sl (.int .u32))])],[]⟩),(15,⟨[1,3,4,8,9,10,15,16,53,54,55],[1,2,3,4,5,6,7,9,11,13,15,16,17,18,19,20],[],[],[(10, .nest (.sl tE) 79 106)]⟩)],loop:= [(7,⟨[1,3,4,8,9,10,44],[1,2,3,4,5,6,7,9,10,11,13,15,16,17,18],[(12,false,[.own (.int .i64) 3])],[],[(20, .itM false (.int .i64) false .bool 19)]⟩),(18,⟨[1,3,4,8,9,10,15,53,54,55,114,115],[1,2,3,4,5,6,7,9,10,13,15,16,17,18,19],[(116,false,vI)],[],[(11, .nest (.mp false (.int .i64) false .bool) 174 4)]⟩),(11,⟨[1,3,4,8,9,10,53,54],[1,2,3,4,5,6,7,13,15,16,17,18,19],[(55,false,vI)],[],[(9, .row (.sl tE) 79),(10, .nest (.sl tE) 79 106),(11, .nest (.mp false (.int .i64) false .bool) 174 4)]⟩)],plan:= [(13,[0,3,6,9],[12],true,(.q 0 (.p 1 (.p 2 (.q 3 (.p 4 (.p 5 (.q 6 (.p 7 (.q 9 (.or 8 (.or 10 (.e 11 (.e 12 .done)) (.e 11 (.e 10 (.e 12 .done)))) (.e 11 (.e 8 (.e 10 (.e 12 .done))))))))))))))),(14,[5,8,13],[16,18],false,(.p 4 (.q 5 (.p 6 (.p 7 (.q 8 (.p 9 (.p 10 (.p 12 (.q 13 (.p 14 (.or 0 (.p 1 (.p 2 (.or 3 (.or 11 (.e 15 (.e 16 (.p 17 (.e 18 .done)))) (.e 15 (.e 11 (.e 16 (.p 17 (.e 18 .done)))))) (.or 11 (.or 3 (.e 15 (.e 16 (.p 17 (.e 18 .done)))) (.e 15 (.or 3 (.e 16 (.p 17 (.e 18 .done))) (.e 16 (.e 3 (.p 17 (.e 18 .done))))))) (.e 15 (.or 3 (.e 11 (.e 16 (.p 17 (.e 18 .done)))) (.e 11 (.or 3 (.e 16 (.p 17 (.e 18 .done))) (.e 16 (.e 3 (.p 17 (.e 18 .done)))))))))))) (.or 11 (.or 0 (.p 1 (.p 2 (.or 3 (.e 15 (.e 16 (.p 17 (.e 18 .done)))) (.e 15 (.or 3 (.e 16 (.p 17 (.e 18 .done))) (.e 16 (.e 3 (.p 17 (.e 18 .done))))))))) (.e 15 (.or 0 (.p 1 (.p 2 (.or 3 (.e 16 (.p 17 (.e 18 .done))) (.e 16 (.e 3 (.p 17 (.e 18 .done))))))) (.e 16 (.e 0 (.p 1 (.p 2 (.e 3 (.p 17 (.e 18 .done)))))))))) (.e 15 (.or 0 (.p 1 (.p 2 (.or 3 (.e 11 (.e 16 (.p 17 (.e 18 .done)))) (.e 11 (.or 3 (.e 16 (.p 17 (.e 18 .done))) (.e 16 (.e 3 (.p 17 (.e 18 .done))))))))) (.e 11 (.or 0 (.p 1 (.p 2 (.or 3 (.e 16 (.p 17 (.e 18 .done))) (.e 16 (.e 3 (.p 17 (.e 18 .done))))))) (.e 16 (.e 0 (.p 1 (.p 2 (.e 3 (.p 17 (.e 18 .done)))))))))))))))))))))))),(15,[0,3,5,8,11,12,14],[17],true,(.q 0 (.p 1 (.p 2 (.q 3 (.p 4 (.q 5 (.p 6 (.p 7 (.q 8 (.p 9 (.p 10 (.q 11 (.q 12 (.q 14 (.e 13 (.e 15 (.p 16 (.e 17 .done))))))))))))))))))),(20,[0,3,5],[9],false,(.q 0 (.p 1 (.p 2 (.q 3 (.p 4 (.q 5 (.p 6 (.p 8 (.e 7 (.e 9 .done)))))))))))]}
def Ri:An:= {join:= [(13,⟨[2,5,6,7,8,45,46],[1,2,3,4,5,6,7],[(9,false,vI),(10,false,vI),(11,false,[.val .bool])],[(13,155,[.fix 9, .fix 10, .fix 11, .own (.int .i64) 3])],[(9, .row (.sl tE) 79),(10, .nest (.sl tE) 79 106),(11, .nest (.mp false (.int .i64) false .bool) 174 4)]⟩),(16,⟨[2,5,6,7,8,9,10,45,46],[1,4,5,6,9,10,11,13,15],[],[],[(2, .row (.int .i64) 3),(3, .row (.int .i64) 3),(7, .row (.int .i64) 3)]⟩),(22,⟨[2,5,6,7,12,13,79,80,81],[1,2,3,5,6,9,11,13,14],[],[],[(4, .row (.sl tE) 79),(10, .nest (.sl tE) 79 106)]⟩)],loop:= [(10,⟨[2,5,6,7,45],[1,4,5,6],[(46,false,vI)],[(13,155,[.fix 9, .fix 10, .fix 11, .own (.int .i64) 3])],[(2, .row (.int .i64) 3),(3, .row (.int .i64) 3),(7, .row (.int .i64) 3),(9, .row (.sl tE) 79),(10, .nest (.sl tE) 79 106),(11, .nest (.mp false (.int .i64) false .bool) 174 4)]⟩),(19,⟨[2,5,7,79,80],[1,2,3,6,9,11,13,14],[(6,false,[.val (.sl (.int .i64))]),(81,false,vI)],[],[(4, .row (.sl tE) 79),(5, .row (.sl tE) 79),(10, .nest (.sl tE) 79 106)]⟩)],plan:= [(6,[],[16],true,(.p 0 (.p 2 (pZ9 4 3 (pZ9 9 3 (.al [1,3,7,12,15] [8,13,14] (.e 16 .done))))))),(15,[1],[12,14,16],false,(.p 0 (.q 1 (.p 2 (.p 3 (pZ9 5 7 (.or 4 (.e 12 (.p 13 (.e 14 (.p 15 (.e 16 .done))))) (.e 12 (.e 4 (.p 13 (.e 14 (.p 15 (.e 16 .done))))))))))))),(21,[7],[15,17],false,(.p 0 (.p 1 (pZ9 3 4 (.q 7 (.p 8 (.p 9 (.p 11 (.or 2 (.or 10 (.e 12 (.p 13 (.e 14 (.e 15 (.p 16 (.e 17 .done)))))) (.e 12 (.p 13 (.or 10 (.e 14 (.e 15 (.p 16 (.e 17 .done)))) (.e 14 (.e 10 (.e 15 (.p 16 (.e 17 .done))))))))) (.or 10 (.or 2 (.e 12 (.p 13 (.e 14 (.e 15 (.p 16 (.e 17 .done)))))) (.e 12 (.p 13 (.or 2 (.e 14 (.e 15 (.p 16 (.e 17 .done)))) (.e 14 (.or 2 (.e 15 (.p 16 (.e 17 .done))) (.e 15 (.e 2 (.p 16 (.e 17 .done)))))))))) (.e 12 (.p 13 (.or 2 (.or 10 (.e 14 (.e 15 (.p 16 (.e 17 .done)))) (.e 14 (.e 10 (.e 15 (.p 16 (.e 17 .done)))))) (.or 10 (.or 2 (.e 14 (.e 15 (.p 16 (.e 17 .done)))) (.e 14 (.or 2 (.e 15 (.p 16 (.e 17 .done))) (.e 15 (.e 2 (.p 16 (.e 17 .done))))))) (.e 14 (.or 2 (.e 10 (.e 15 (.p 16 (.e 17 .done)))) (.e 10 (.or 2 (.e 15 (.p 16 (.e 17 .done))) (.e 15 (.e 2 (.p 16 (.e 17 .done)))))))))))))))))))))),(22,[2,7,10],[17],true,(.p 0 (.p 1 (.q 2 (pZ9 3 4 (.q 7 (.p 8 (.p 9 (.q 10 (.p 11 (.e 12 (pZ9 13 4 (.e 17 .done)))))))))))))]}
noncomputable def Tj:H1:= [(79,L3),(85,U2),(125,S9),(122,Gl (QA ⟨prog,SQ⟩ [(44,FM,ES)] f122.results.toList (f122.body.getD .skip) f122.ntmps)),(123,Gl (QA ⟨prog,SQ⟩ [(51,FN,ET)] f123.results.toList (f123.body.getD .skip) f123.ntmps)),(124,Gl (QA ⟨prog,SQ⟩ [(76,FO,EU)] f124.results.toList (f124.body.getD .skip) f124.ntmps))]
abbrev C4a:=(List (List EE)×List Nat)×Unit
abbrev C4l:=Int×(List (Int×Bool)×List (Int×Bool))×Unit
abbrev C4m:=Int×(List (List (Int×Bool))×List Nat)×List Int×Unit
abbrev LJ:=Int×(List (List (Int×Bool))×List Nat)×Unit
abbrev C4n:=Int×Int×(List (List (Int×Bool))×List Nat)×Unit
abbrev C4o:=Int×Int×Bool×List Int×List (List EE)×(List (List EE)×List Nat)×(List (List (Int×Bool))×List Nat)×Unit
abbrev C4t:=Int×List (List EE)×(List (List (Int×Bool))×List Nat)×Unit
abbrev C4u:=Int×List (List EE)×(List (List EE)×List Nat)×(List (List (Int×Bool))×List Nat)×Unit
abbrev C4x:=Int×List Int×List Int×List Int×List Int×List (List EE)×(List (List EE)×List Nat)×(List (List (Int×Bool))×List Nat)×Unit
abbrev C5b:=List (List EE)×(List (List EE)×List Nat)×Unit
abbrev C5e:=List Int×(List (Int×Bool)×List (Int×Bool))×Unit
abbrev C5f:=List Int×(List (List (Int×Bool))×List Nat)×Unit
abbrev C5h:=List Int×Int×List (List EE)×List (List EE)×(List (List EE)×List Nat)×Unit
abbrev C5i:=List Int×List (List EE)×(List (List EE)×List Nat)×(List (List (Int×Bool))×List Nat)×Unit
abbrev C5j:=List Int×List Int×List Int×Unit
def Iz:A2 N2.args->Prop:=fun(x:IP)=>let a7:=(64:Nat);let b:=(281474976710656:Int);let f:=x.1.2.1.toNat;let a3:=(6:Int);let a2:=(4:Int);let a:=(9223372036854775807:Int);let h:=(x.1.2.2.length:Int);let a4:=x.1.1.toNat;let X:=(140737488355328:Nat);let R:Prop:=(∀(v:List EE),v∈ []->Z4 v);let E:=(1:Int);let d:=(0:Int);let V:Prop:=(d<=x.1.2.1/\x.1.2.1<=x.1.2.1/\(↑(8:Nat):Int)*x.1.2.1<=b/\x.1.2.1<=a);let G:Prop:=(d<=x.1.1/\x.1.1<=x.1.1/\(↑(8:Nat):Int)*x.1.1<=b/\x.1.1<=a);let D:Prop:=(∀(s:Nat),(1:Nat)<=s->X5 s x.1->∀(i j:Nat),i<x.1.1.toNat->qs (sK s x.1.1.toNat) (el (d,d,[]) i j)/\qs (sK s i) (el (d,d,[]) i j));let u:Prop:=(d<=x.1.1/\x.1.1<=x.1.1/\(↑(24:Nat):Int)*x.1.1<=b/\x.1.1<=a);True/\∀(r:V2),True/\True->r.1=decide (C2 x.1)->((!r.1)=true->(¬C2 x.1->([],[],(d,d,[]),d,d,[])=jP/\E=E)/\(C2 x.1->(x.1.1≠x.1.2.1->([],[],(d,d,[]),d,d,[])=jP/\E=a2)/\(x.1.1=x.1.2.1->(¬nonsing x.1.1.toNat (el x.1)->([],[],(d,d,[]),d,d,[])=jP/\E=a3)/\(nonsing x.1.1.toNat (el x.1)->Cu ([],[],(d,d,[]),d,d,[]) x.1.1/\E=d/\R/\R/\D/\∀(i j:Nat),i<x.1.1.toNat->j<x.1.1.toNat->luM ([],[],(d,d,[]),d,d,[]) x.1.1.toNat i j=el x.1 (ix [] i) (ix [] j)))))/\((!r.1)=false->(decide (x.1.1≠x.1.2.1)=true->(¬C2 x.1->([],[],(d,d,[]),d,d,[])=jP/\a2=E)/\(C2 x.1->(x.1.1≠x.1.2.1->([],[],(d,d,[]),d,d,[])=jP/\a2=a2)/\(x.1.1=x.1.2.1->(¬nonsing x.1.1.toNat (el x.1)->([],[],(d,d,[]),d,d,[])=jP/\a2=a3)/\(nonsing x.1.1.toNat (el x.1)->Cu ([],[],(d,d,[]),d,d,[]) x.1.1/\a2=d/\R/\R/\D/\∀(i j:Nat),i<x.1.1.toNat->j<x.1.1.toNat->luM ([],[],(d,d,[]),d,d,[]) x.1.1.toNat i j=el x.1 (ix [] i) (ix [] j)))))/\(decide (x.1.1≠x.1.2.1)=false->G/\G/\u/\u/\G/\u/\u/\V/\V/\∃(I:C4m->Prop),∃(l: _->Nat),I (d,(List.replicate f [],Qh (Ty.mp false (Ty.int i64) false Ty.bool) f),List.replicate f d,())/\∀(p:C4m),let b:=p.1.toNat;(Ty.int i64).wf p.1/\p.2.1.1.length.le 9223372036854775807/\TW p.2.2.1/\True->I p->(decide (p.1<x.1.2.1)=true->(d<=p.1/\p.1<(↑p.2.1.1.length:Int))/\(d<=p.1/\p.1<(p.2.2.1.length:Int))/\I (i64.wrap (p.1+E),(p.2.1.1.set b [],PF b p.2.1.2),List.set p.2.2.1 b p.1,())/\l (i64.wrap (p.1+E),(p.2.1.1.set b [],PF b p.2.1.2),List.set p.2.2.1 b p.1,())<l p)/\(decide (p.1<x.1.2.1)=false->∃(I:C4t->Prop),∃(l: _->Nat),I (d,List.replicate a4 [],p.2.1,())/\∀(a:C4t),let F:=(gx [] x.1.2.2 a.1);let u:=(↑F.length:Int);(Ty.int i64).wf a.1/\Rh a.2.1/\a.2.2.1.1.length.le 9223372036854775807/\True->I a->(decide (a.1<h)=true->(d<=a.1/\a.1<h)/\Ku F/\∀(r:Yr),MV r.1/\True->PW (A4 F) r.1->(d<=a.1/\a.1<(a.2.1.length:Int))/\∃(I_1:LJ->Prop),∃(f: _->Nat),I_1 (d,a.2.2.1,())/\∀(p:LJ),let g:=(gx E4 F p.1);let al:=g.1.toNat;let w:=(i64.wrap (a.1+E),List.set a.2.1 a.1.toNat r.1,p.2.1,());(Ty.int i64).wf p.1/\p.2.1.1.length.le 9223372036854775807/\True->I_1 p->(decide (p.1<u)=true->(d<=p.1/\p.1<u)/\(d<=g.1/\g.1<(↑p.2.1.1.length:Int))/\¬Int.toNat g.1∈p.2.1.2/\I_1 (i64.wrap (p.1+E),(p.2.1.1.set al (Fl (Ty.int i64) a.1 true (p.2.1.1.getD al [])),p.2.1.2),())/\f (i64.wrap (p.1+E),(p.2.1.1.set al (Fl (Ty.int i64) a.1 true (p.2.1.1.getD al [])),p.2.1.2),())<f p)/\(decide (p.1<u)=false->I w/\l w<l a))/\(decide (a.1<h)=false->∃(I:C4x->Prop),∃(l: _->Nat),I (d,p.2.2.1,List.replicate a4 d,List.replicate a4 d,List.replicate a4 d,a.2.1,(List.replicate a4 [],Qh tE.sl a4),a.2.2.1,())/\∀(b:C4x),let a9:Prop:=(d<=b.1/\b.1<(b.2.2.2.1.length:Int));let a8:=(b.2.2.1.length:Int);let w:=(↑b.2.1.length:Int);(Ty.int i64).wf b.1/\(Ty.int i64).sl.wf b.2.1/\TW b.2.2.1/\TW b.2.2.2.1/\TW b.2.2.2.2.1/\Rh b.2.2.2.2.2.1/\b.2.2.2.2.2.2.1.1.length.le 9223372036854775807/\b.2.2.2.2.2.2.2.1.1.length.le 9223372036854775807/\True->I b->(decide (b.1<x.1.1)=true->∃(J:C4o->Prop),(∃(J_1:LJ->Prop),(∃(I:C4n->Prop),∃(l: _->Nat),I (d,d,b.2.2.2.2.2.2.2.1,())/\∀(a:C4n),let g:=(↑a.2.2.1.1.length:Int);let Z:=a.1.toNat;let z:=a.2.1.toNat;let K:Prop:=((↑(a.2.2.1.1.getD (b.2.1.getD z d).toNat []).length:Int)<(↑((a.2.2.1.1.set (b.2.1.getD z d).toNat (a.2.2.1.1.getD (b.2.1.getD z d).toNat [])).getD (b.2.1.getD Z d).toNat []).length:Int));(Ty.int i64).wf a.1/\(Ty.int i64).wf a.2.1/\a.2.2.1.1.length.le 9223372036854775807/\True->I a->(decide (a.2.1<w)=true->∃(J:LJ->Prop),((d<=a.2.1/\a.2.1<w)/\(d<=b.2.1.getD z d/\b.2.1.getD z d<g)/\¬(b.2.1.getD z d).toNat∈a.2.2.1.2/\(a.2.2.1.1.getD (b.2.1.getD z d).toNat []).length<=9223372036854775807/\(d<=a.1/\a.1<w)/\(d<=b.2.1.getD Z d/\b.2.1.getD Z d<g)/\¬(b.2.1.getD Z d).toNat∈a.2.2.1.2/\((a.2.2.1.1.set (b.2.1.getD z d).toNat (a.2.2.1.1.getD (b.2.1.getD z d).toNat [])).getD (b.2.1.getD Z d).toNat []).length<=9223372036854775807/\(decide K=true->J (a.2.1,((a.2.2.1.1.set (b.2.1.getD z d).toNat (a.2.2.1.1.getD (b.2.1.getD z d).toNat [])).set (b.2.1.getD Z d).toNat ((a.2.2.1.1.set (b.2.1.getD z d).toNat (a.2.2.1.1.getD (b.2.1.getD z d).toNat [])).getD (b.2.1.getD Z d).toNat []),a.2.2.1.2),()))/\(decide K=false->J (a.1,((a.2.2.1.1.set (b.2.1.getD z d).toNat (a.2.2.1.1.getD (b.2.1.getD z d).toNat [])).set (b.2.1.getD Z d).toNat ((a.2.2.1.1.set (b.2.1.getD z d).toNat (a.2.2.1.1.getD (b.2.1.getD z d).toNat [])).getD (b.2.1.getD Z d).toNat []),a.2.2.1.2),())))/\∀(h:LJ),let Q:=h.1.toNat;let u:Prop:=((↑(h.2.1.1.getD (b.2.1.getD Q d).toNat []).length:Int)<=E);(Ty.int i64).wf h.1/\h.2.1.1.length.le 9223372036854775807/\True->J h->(d<=h.1/\h.1<w)/\(d<=b.2.1.getD Q d/\b.2.1.getD Q d<(↑h.2.1.1.length:Int))/\¬(b.2.1.getD Q d).toNat∈h.2.1.2/\(h.2.1.1.getD (b.2.1.getD Q d).toNat []).length<=9223372036854775807/\(decide u=true->J_1 (h.1,(h.2.1.1.set (b.2.1.getD Q d).toNat (h.2.1.1.getD (b.2.1.getD Q d).toNat []),h.2.1.2),()))/\(decide u=false->I (h.1,i64.wrap (a.2.1+E),(h.2.1.1.set (b.2.1.getD Q d).toNat (h.2.1.1.getD (b.2.1.getD Q d).toNat []),h.2.1.2),())/\l (h.1,i64.wrap (a.2.1+E),(h.2.1.1.set (b.2.1.getD Q d).toNat (h.2.1.1.getD (b.2.1.getD Q d).toNat []),h.2.1.2),())<l a))/\(decide (a.2.1<w)=false->J_1 (a.1,a.2.2.1,())))/\∀(a:LJ),let g:=(i64.wrap (a.1+E));let H:Prop:=((Int.toNat a.1+(List.drop g.toNat (List.take w.toNat b.2.1)).length)*(8:Nat)<=X/\Int.toNat a.1+(List.drop g.toNat (List.take w.toNat b.2.1)).length<=9223372036854775807);let B:=a.1.toNat;let u:=(↑(a.2.1.1.getD (b.2.1.getD B d).toNat []).length:Int);(Ty.int i64).wf a.1/\a.2.1.1.length.le 9223372036854775807/\True->J_1 a->(d<=a.1/\a.1<w)/\(d<=b.2.1.getD B d/\b.2.1.getD B d<(↑a.2.1.1.length:Int))/\¬(b.2.1.getD B d).toNat∈a.2.1.2/\(a.2.1.1.getD (b.2.1.getD B d).toNat []).length<=9223372036854775807/\(decide (u=d)=true->J (d,d,false,b.2.1,b.2.2.2.2.2.1,b.2.2.2.2.2.2.1,(a.2.1.1.set (b.2.1.getD B d).toNat (a.2.1.1.getD (b.2.1.getD B d).toNat []),a.2.1.2),()))/\(decide (u=d)=false->(d<=a.1/\a.1<w)/\∃(J_2:C5i->Prop),((d<=d/\d<=a.1/\a.1<=w)/\(d<=i64.wrap (a.1+E)/\i64.wrap (a.1+E)<=w/\w<=w)/\(H/\J_2 (List.take B b.2.1++List.drop g.toNat (List.take w.toNat b.2.1),b.2.2.2.2.2.1,b.2.2.2.2.2.2.1,(a.2.1.1.set (b.2.1.getD B d).toNat (a.2.1.1.getD (b.2.1.getD B d).toNat []),a.2.1.2),()))/\H/\J_2 (List.take B b.2.1++List.drop g.toNat (List.take w.toNat b.2.1),b.2.2.2.2.2.1,b.2.2.2.2.2.2.1,(a.2.1.1.set (b.2.1.getD B d).toNat (a.2.1.1.getD (b.2.1.getD B d).toNat []),a.2.1.2),()))/\∀(h:C5i),let z:=(h.2.1.length:Int);(Ty.int i64).sl.wf h.1/\Rh h.2.1/\h.2.2.1.1.length.le 9223372036854775807/\h.2.2.2.1.1.length.le 9223372036854775807/\True->J_2 h->∃(J_3:LJ->Prop),((d<=b.2.1.getD B d/\b.2.1.getD B d<(↑h.2.2.2.1.1.length:Int))/\¬(b.2.1.getD B d).toNat∈h.2.2.2.1.2/\∃(I:C4l->Prop),∃(l: _->Nat),I ((-1:Int),(h.2.2.2.1.1.getD (b.2.1.getD B d).toNat [],h.2.2.2.1.1.getD (b.2.1.getD B d).toNat []),())/\∀(g:C4l),let w:=(decide (g.1<d));let a5:=(↑(List.getD h.2.1 g.1.toNat []).length:Int);(Ty.int i64).wf g.1/\(∀(x:Int×Bool),x∈g.2.1.2->K9 x.1/\True)/\True->I g->(g.2.1.2= []->(false=true->False)/\(false=false->J_3 (g.1,(h.2.2.2.1.1.set (b.2.1.getD B d).toNat g.2.1.1,h.2.2.2.1.2),())))/\∀(u:List (Int×Bool)) (y:Int×Bool) (a0:List (Int×Bool)),let a6:=(↑(List.getD h.2.1 y.1.toNat []).length:Int);let a1:=(g.2.1.1,u++a0);let U:=(I6 (decide (a6=a5)) (decide (y.1<g.1)) false);let A:=(decide (a6<a5));g.2.1.2=u++y::a0->(true=true->(decide (g.1<d)=false->d<=y.1/\y.1<z)/\(decide (g.1<d)=false->d<=g.1/\g.1<z)/\(I6 w true A=false->d<=y.1/\y.1<z)/\(I6 w true A=false->d<=g.1/\g.1<z)/\(I6 (I6 w true A) true U=true->I (y.1,a1,())/\l (y.1,a1,())<l g)/\(I6 (I6 w true A) true U=false->I (g.1,a1,())/\l (g.1,a1,())<l g))/\(true=false->J_3 (g.1,(h.2.2.2.1.1,(b.2.1.getD B d).toNat::h.2.2.2.1.2),())))/\∀(p:LJ),(Ty.int i64).wf p.1/\p.2.1.1.length.le 9223372036854775807/\True->J_3 p->J (p.1,b.2.1.getD B d,true,h.1,h.2.1,h.2.2.1,p.2.1,())))/\∀(a:C4o),let aa:=a.2.1.toNat;let w:Prop:=(d<=a.2.1/\a.2.1<(b.2.2.2.2.1.length:Int));let S:=(List.set b.2.2.1 b.1.toNat a.1,List.set b.2.2.2.1 b.1.toNat a.2.1,List.set b.2.2.2.2.1 aa b.1,());let a5:=(List.getD a.2.2.2.2.1 a.1.toNat []);let a6:=(↑a5.length:Int);(Ty.int i64).wf a.1/\(Ty.int i64).wf a.2.1/\Ty.bool.wf a.2.2.1/\(Ty.int i64).sl.wf a.2.2.2.1/\Rh a.2.2.2.2.1/\a.2.2.2.2.2.1.1.length.le 9223372036854775807/\a.2.2.2.2.2.2.1.1.length.le 9223372036854775807/\True->J a->((!a.2.2.1)=true->(¬C2 x.1->([],[],(d,d,[]),d,d,[])=jP/\a3=E)/\(C2 x.1->(x.1.1≠x.1.2.1->([],[],(d,d,[]),d,d,[])=jP/\a3=a2)/\(x.1.1=x.1.2.1->(¬nonsing x.1.1.toNat (el x.1)->([],[],(d,d,[]),d,d,[])=jP/\a3=a3)/\(nonsing x.1.1.toNat (el x.1)->Cu ([],[],(d,d,[]),d,d,[]) x.1.1/\a3=d/\R/\R/\D/\∀(i j:Nat),i<x.1.1.toNat->j<x.1.1.toNat->luM ([],[],(d,d,[]),d,d,[]) x.1.1.toNat i j=el x.1 (ix [] i) (ix [] j)))))/\((!a.2.2.1)=false->∃(J:C5j->Prop),((d<=b.1/\b.1<a8)/\(a9/\w/\J S)/\a9/\w/\J S)/\∀(h:C5j),TW h.1/\TW h.2.1/\TW h.2.2.1/\True->J h->(d<=a.1/\a.1<(a.2.2.2.2.1.length:Int))/\∃(I_1:LJ->Prop),∃(f: _->Nat),I_1 (d,a.2.2.2.2.2.2.1,())/\∀(g:LJ),let ac:=(↑g.2.1.1.length:Int);let a9:=(gx E4 a5 g.1);let a1:=a9.1.toNat;(Ty.int i64).wf g.1/\g.2.1.1.length.le 9223372036854775807/\True->I_1 g->(decide (g.1<a6)=true->(d<=g.1/\g.1<a6)/\(d<=a9.1/\a9.1<ac)/\¬Int.toNat a9.1∈g.2.1.2/\I_1 (i64.wrap (g.1+E),(g.2.1.1.set a1 (Qf (Ty.int i64) a.1 (g.2.1.1.getD a1 [])),g.2.1.2),())/\f (i64.wrap (g.1+E),(g.2.1.1.set a1 (Qf (Ty.int i64) a.1 (g.2.1.1.getD a1 [])),g.2.1.2),())<f g)/\(decide (g.1<a6)=false->Yf K1 a5/\∀(z:H0),CY z.1/\True->z.1=rc (A4 a5 a.2.1)->E6 z.1/\∀(w:B7y),CY w.1/\True/\True->(rv z.1=(0:Rat)->w.2.1=false)/\(rv z.1≠(0:Rat)->w.1=rc (rv z.1)⁻¹/\w.2.1=true)->∃(J:C5f->Prop),((d<=a.2.1/\a.2.1<ac)/\¬Int.toNat a.2.1∈g.2.1.2/\∃(I:C5e->Prop),∃(l: _->Nat),I ([],(g.2.1.1.getD aa [],g.2.1.1.getD aa []),())/\∀(p:C5e),(Ty.int i64).sl.wf p.1/\(∀(x:Int×Bool),x∈p.2.1.2->K9 x.1/\True)/\True->I p->(p.2.1.2= []->(false=true->False)/\(false=false->J (p.1,(g.2.1.1.set aa p.2.1.1,g.2.1.2),())))/\∀(u:List (Int×Bool)) (y:Int×Bool) (a0:List (Int×Bool)),let ab:=(p.1++ [y.1],(p.2.1.1,u++a0),());p.2.1.2=u++y::a0->(true=true->((p.1.length+ [y.1].length)*(8:Nat)<=X/\p.1.length+ [y.1].length<=9223372036854775807)/\I ab/\l ab<l p)/\(true=false->J (p.1,(g.2.1.1,Int.toNat a.2.1::g.2.1.2),())))/\∀(f:C5f),let aa:=(↑f.1.length:Int);(Ty.int i64).sl.wf f.1/\f.2.1.1.length.le 9223372036854775807/\True->J f->∃(I_2:C4u->Prop),∃(ad: _->Nat),I_2 (d,a.2.2.2.2.1,a.2.2.2.2.2.1,f.2.1,())/\∀(g:C4u),let Y:=(i64.wrap (b.1+E),a.2.2.2.1,h.1,h.2.1,h.2.2.1,g.2.1,g.2.2.1,g.2.2.2.1,());let e:=g.1.toNat;let W:Prop:=(d<=f.1.getD e d/\f.1.getD e d<(g.2.1.length:Int));let L:=(List.getD g.2.1 (f.1.getD e d).toNat []);let y:Prop:=(d<=f.1.getD e d/\f.1.getD e d<(↑g.2.2.1.1.length:Int));(Ty.int i64).wf g.1/\Rh g.2.1/\g.2.2.1.1.length.le 9223372036854775807/\g.2.2.2.1.1.length.le 9223372036854775807/\True->I_2 g->(decide (g.1<aa)=true->(d<=g.1/\g.1<aa)/\∃(J:LI->Prop),(W/\(Yf K1 L/\∀(r:H0),CY r.1/\True->r.1=rc (A4 L a.2.1)->((E6 r.1/\E6 w.1)/\∀(u:H0),CY u.1/\True->u.1=rc (rv r.1*rv w.1)->J (u.1.1.1,u.1.1.2,u.1.2,()))/\(E6 r.1/\E6 w.1)/\∀(u:H0),CY u.1/\True->u.1=rc (rv r.1*rv w.1)->J (u.1.1.1,u.1.1.2,u.1.2,()))/\Yf K1 L/\∀(r:H0),CY r.1/\True->r.1=rc (A4 L a.2.1)->(E6 r.1/\E6 w.1)/\∀(u:H0),CY u.1/\True->u.1=rc (rv r.1*rv w.1)->J (u.1.1.1,u.1.1.2,u.1.2,()))/\∀(a1:LI),let ab:=(a1.1,a1.2.1);let w:=(b.1,ab,a1.2.2.1);let a0:Prop:=(((g.2.2.1.1.getD (f.1.getD e d).toNat []).length+ [w].length)*a7<=X/\(g.2.2.1.1.getD (f.1.getD e d).toNat []).length+ [w].length<=9223372036854775807);Ty.bool.wf a1.1/\(Ty.int u32).sl.wf a1.2.1/\(Ty.int u32).sl.wf a1.2.2.1/\True->J a1->∃(J:C4a->Prop),let n:Prop:=(¬(f.1.getD e d).toNat∈g.2.2.1.2/\a0/\y/\(f.1.getD e d).toNat=(f.1.getD e d).toNat/\J ((g.2.2.1.1.set (f.1.getD e d).toNat (g.2.2.1.1.getD (f.1.getD e d).toNat []++ [w]),g.2.2.1.2),()));let c:Prop:=(a0/\y/\(f.1.getD e d).toNat=(f.1.getD e d).toNat/\J ((g.2.2.1.1.set (f.1.getD e d).toNat (g.2.2.1.1.getD (f.1.getD e d).toNat []++ [w]),g.2.2.1.2),()));let P:Prop:=(c/\a0/\y/\(f.1.getD e d).toNat=(f.1.getD e d).toNat/\J ((g.2.2.1.1.set (f.1.getD e d).toNat (g.2.2.1.1.getD (f.1.getD e d).toNat []++ [w]),g.2.2.1.2),()));(y/\((n/\¬(f.1.getD e d).toNat∈g.2.2.1.2/\a0/\y/\(f.1.getD e d).toNat=(f.1.getD e d).toNat/\J ((g.2.2.1.1.set (f.1.getD e d).toNat (g.2.2.1.1.getD (f.1.getD e d).toNat []++ [w]),g.2.2.1.2),()))/\(¬(f.1.getD e d).toNat∈g.2.2.1.2/\c/\c/\a0/\y/\(f.1.getD e d).toNat=(f.1.getD e d).toNat/\J ((g.2.2.1.1.set (f.1.getD e d).toNat (g.2.2.1.1.getD (f.1.getD e d).toNat []++ [w]),g.2.2.1.2),()))/\n/\¬(f.1.getD e d).toNat∈g.2.2.1.2/\c/\a0/\y/\(f.1.getD e d).toNat=(f.1.getD e d).toNat/\J ((g.2.2.1.1.set (f.1.getD e d).toNat (g.2.2.1.1.getD (f.1.getD e d).toNat []++ [w]),g.2.2.1.2),()))/\(¬(f.1.getD e d).toNat∈g.2.2.1.2/\(c/\c/\a0/\y/\(f.1.getD e d).toNat=(f.1.getD e d).toNat/\J ((g.2.2.1.1.set (f.1.getD e d).toNat (g.2.2.1.1.getD (f.1.getD e d).toNat []++ [w]),g.2.2.1.2),()))/\P/\a0/\y/\(f.1.getD e d).toNat=(f.1.getD e d).toNat/\J ((g.2.2.1.1.set (f.1.getD e d).toNat (g.2.2.1.1.getD (f.1.getD e d).toNat []++ [w]),g.2.2.1.2),()))/\(n/\¬(f.1.getD e d).toNat∈g.2.2.1.2/\c/\a0/\y/\(f.1.getD e d).toNat=(f.1.getD e d).toNat/\J ((g.2.2.1.1.set (f.1.getD e d).toNat (g.2.2.1.1.getD (f.1.getD e d).toNat []++ [w]),g.2.2.1.2),()))/\¬(f.1.getD e d).toNat∈g.2.2.1.2/\P/\a0/\y/\(f.1.getD e d).toNat=(f.1.getD e d).toNat/\J ((g.2.2.1.1.set (f.1.getD e d).toNat (g.2.2.1.1.getD (f.1.getD e d).toNat []++ [w]),g.2.2.1.2),()))/\∀(ac:C4a),ac.1.1.length.le 9223372036854775807/\True->J ac->W/\E6 (ab,a1.2.2.1)/\∀(u:H0),CY u.1/\True->u.1=rc (-rv (ab,a1.2.2.1))->(Yf K1 L/\sz K1 u.1/\Yf K1 a5)/\∀(a9:Yr),let O:=(List.set g.2.1 (f.1.getD e d).toNat a9.1);let a1:=(↑(O.getD (f.1.getD e d).toNat []).length:Int);MV a9.1/\True->PW (fun(i:Int)=>A4 L i+rv u.1*A4 a5 i) a9.1->W/\∃(I:LJ->Prop),∃(l: _->Nat),I (d,g.2.2.2.1,())/\∀(w:LJ),let a0:=(gx E4 a5 w.1);let y:=a0.1.toNat;(Ty.int i64).wf w.1/\w.2.1.1.length.le 9223372036854775807/\True->I w->(decide (w.1<a6)=true->(d<=w.1/\w.1<a6)/\(d<=a0.1/\a0.1<(↑w.2.1.1.length:Int))/\¬Int.toNat a0.1∈w.2.1.2/\I (i64.wrap (w.1+E),(w.2.1.1.set y (Qf (Ty.int i64) (f.1.getD e d) (w.2.1.1.getD y [])),w.2.1.2),())/\l (i64.wrap (w.1+E),(w.2.1.1.set y (Qf (Ty.int i64) (f.1.getD e d) (w.2.1.1.getD y [])),w.2.1.2),())<l w)/\(decide (w.1<a6)=false->(d<=f.1.getD e d/\f.1.getD e d<(↑O.length:Int))/\∃(I:LJ->Prop),∃(l: _->Nat),I (d,w.2.1,())/\∀(u:LJ),let a5:=(i64.wrap (g.1+E),List.set g.2.1 (f.1.getD e d).toNat a9.1,ac.1,u.2.1,());let m:=(gx E4 (O.getD (f.1.getD e d).toNat []) u.1);let w:=m.1.toNat;(Ty.int i64).wf u.1/\u.2.1.1.length.le 9223372036854775807/\True->I u->(decide (u.1<a1)=true->(d<=u.1/\u.1<a1)/\(d<=m.1/\m.1<(↑u.2.1.1.length:Int))/\¬Int.toNat m.1∈u.2.1.2/\I (i64.wrap (u.1+E),(u.2.1.1.set w (Fl (Ty.int i64) (f.1.getD e d) true (u.2.1.1.getD w [])),u.2.1.2),())/\l (i64.wrap (u.1+E),(u.2.1.1.set w (Fl (Ty.int i64) (f.1.getD e d) true (u.2.1.1.getD w [])),u.2.1.2),())<l u)/\(decide (u.1<a1)=false->I_2 a5/\ad a5<ad g)))/\(decide (g.1<aa)=false->I Y/\l Y<l b))))/\(decide (b.1<x.1.1)=false->∃(I:C5h->Prop),∃(l: _->Nat),I (b.2.2.2.2.1,d,List.replicate a4 [],List.replicate a4 [],b.2.2.2.2.2.2.1,())/\∀(a:C5h),let a6:=(x.1.1,x.1.1,a.2.2.1);let w:=(a.1.length:Int);let t:=a.2.1.toNat;let o:=(b.2.2.1,b.2.2.2.1,a6,x.1.1,x.1.1,a.2.2.2.1);let k:Prop:=(d<=a.2.1/\a.2.1<(a.2.2.1.length:Int));let f:=(List.getD b.2.2.1 t d);let y:=(List.getD b.2.2.2.2.2.1 f.toNat []);(Ty.int i64).sl.wf a.1/\(Ty.int i64).wf a.2.1/\Rh a.2.2.1/\Rh a.2.2.2.1/\a.2.2.2.2.1.1.length.le 9223372036854775807/\True->I a->(decide (a.2.1<a8)=true->(d<=a.2.1/\a.2.1<a8)/\∃(J:C5b->Prop),((d<=List.getD b.2.2.1 t d/\List.getD b.2.2.1 t d<(↑a.2.2.2.2.1.1.length:Int))/\((¬f.toNat∈a.2.2.2.2.1.2/\True/\∀(r:H0),let u:=(a.2.1,r.1);CY r.1/\True->r.1=ri E->(((a.2.2.2.2.1.1.getD f.toNat []).length+ [u].length)*a7<=X/\(a.2.2.2.2.1.1.getD f.toNat []).length+ [u].length<=9223372036854775807)/\k/\J (List.set a.2.2.1 t (a.2.2.2.2.1.1.getD f.toNat []++ [u]),(a.2.2.2.2.1.1,f.toNat::a.2.2.2.2.1.2),()))/\True/\∀(r:H0),let g:=(a.2.1,r.1);let M:Prop:=(((a.2.2.2.2.1.1.getD f.toNat []).length+ [g].length)*a7<=X/\(a.2.2.2.2.1.1.getD f.toNat []).length+ [g].length<=9223372036854775807);CY r.1/\True->r.1=ri E->(¬f.toNat∈a.2.2.2.2.1.2/\M/\k/\J (List.set a.2.2.1 t (a.2.2.2.2.1.1.getD f.toNat []++ [g]),(a.2.2.2.2.1.1,f.toNat::a.2.2.2.2.1.2),()))/\¬f.toNat∈a.2.2.2.2.1.2/\M/\k/\J (List.set a.2.2.1 t (a.2.2.2.2.1.1.getD f.toNat []++ [g]),(a.2.2.2.2.1.1,f.toNat::a.2.2.2.2.1.2),()))/\(¬f.toNat∈a.2.2.2.2.1.2/\(True/\∀(r:H0),let a0:=(a.2.1,r.1);CY r.1/\True->r.1=ri E->(((a.2.2.2.2.1.1.getD f.toNat []).length+ [a0].length)*a7<=X/\(a.2.2.2.2.1.1.getD f.toNat []).length+ [a0].length<=9223372036854775807)/\k/\J (List.set a.2.2.1 t (a.2.2.2.2.1.1.getD f.toNat []++ [a0]),(a.2.2.2.2.1.1,f.toNat::a.2.2.2.2.1.2),()))/\True/\∀(r:H0),let u:=(a.2.1,r.1);let q:Prop:=(((a.2.2.2.2.1.1.getD f.toNat []).length+ [u].length)*a7<=X/\(a.2.2.2.2.1.1.getD f.toNat []).length+ [u].length<=9223372036854775807);let T:Prop:=(q/\k/\J (List.set a.2.2.1 t (a.2.2.2.2.1.1.getD f.toNat []++ [u]),(a.2.2.2.2.1.1,f.toNat::a.2.2.2.2.1.2),()));CY r.1/\True->r.1=ri E->T/\T/\q/\k/\J (List.set a.2.2.1 t (a.2.2.2.2.1.1.getD f.toNat []++ [u]),(a.2.2.2.2.1.1,f.toNat::a.2.2.2.2.1.2),()))/\True/\∀(r:H0),let g:=(a.2.1,r.1);let u:Prop:=(((a.2.2.2.2.1.1.getD f.toNat []).length+ [g].length)*a7<=X/\(a.2.2.2.2.1.1.getD f.toNat []).length+ [g].length<=9223372036854775807);let N:Prop:=(¬f.toNat∈a.2.2.2.2.1.2/\u/\k/\J (List.set a.2.2.1 t (a.2.2.2.2.1.1.getD f.toNat []++ [g]),(a.2.2.2.2.1.1,f.toNat::a.2.2.2.2.1.2),()));let C:Prop:=(u/\k/\J (List.set a.2.2.1 t (a.2.2.2.2.1.1.getD f.toNat []++ [g]),(a.2.2.2.2.1.1,f.toNat::a.2.2.2.2.1.2),()));CY r.1/\True->r.1=ri E->(N/\¬f.toNat∈a.2.2.2.2.1.2/\u/\k/\J (List.set a.2.2.1 t (a.2.2.2.2.1.1.getD f.toNat []++ [g]),(a.2.2.2.2.1.1,f.toNat::a.2.2.2.2.1.2),()))/\(¬f.toNat∈a.2.2.2.2.1.2/\C/\C/\u/\k/\J (List.set a.2.2.1 t (a.2.2.2.2.1.1.getD f.toNat []++ [g]),(a.2.2.2.2.1.1,f.toNat::a.2.2.2.2.1.2),()))/\N/\¬f.toNat∈a.2.2.2.2.1.2/\C/\u/\k/\J (List.set a.2.2.1 t (a.2.2.2.2.1.1.getD f.toNat []++ [g]),(a.2.2.2.2.1.1,f.toNat::a.2.2.2.2.1.2),()))/\∀(h:C5b),Rh h.1/\h.2.1.1.length.le 9223372036854775807/\True->J h->(d<=List.getD b.2.2.1 t d/\List.getD b.2.2.1 t d<(b.2.2.2.2.2.1.length:Int))/\(Yf K1 y/\List.length a.1<=100000)/\∀(z:List EE×Bool×Unit),let a0:=(a.1,i64.wrap (a.2.1+E),h.1,List.set a.2.2.2.1 t z.1,h.2.1,());MV z.1/\True/\True->(L9 a.1 w->(∀(j:Int),A4 y j≠(0:Rat)->d<=j/\j<w)->PW (fun(i:Int)=>if d<=i/\i<w then A4 y (↑(List.idxOf i a.1):Int)else(0:Rat)) z.1/\z.2.1=true)->(d<=a.2.1/\a.2.1<(a.2.2.2.1.length:Int))/\I a0/\l a0<l a)/\(decide (a.2.1<a8)=false->(¬C2 x.1->o=jP/\d=E)/\(C2 x.1->(x.1.1≠x.1.2.1->o=jP/\d=a2)/\(x.1.1=x.1.2.1->(¬nonsing x.1.1.toNat (el x.1)->o=jP/\d=a3)/\(nonsing x.1.1.toNat (el x.1)->Cu o x.1.1/\d=d/\(∀(v:List EE),v∈a.2.2.1->Z4 v)/\(∀(v:List EE),v∈a.2.2.2.1->Z4 v)/\(∀(s:Nat),(1:Nat)<=s->X5 s x.1->∀(i j:Nat),i<x.1.1.toNat->qs (sK s x.1.1.toNat) (el a6 i j)/\qs (sK s i) (el (x.1.1,x.1.1,a.2.2.2.1) i j))/\∀(i j:Nat),i<x.1.1.toNat->j<x.1.1.toNat->luM o x.1.1.toNat i j=el x.1 (ix b.2.2.1 i) (ix b.2.2.2.1 j))))))))))
def FR (x:A2 N2.args):B7f prog SQ Tj Ri N2 f78 x=Iz x:=by kernel_rfl
end Go.Proofs.YtiflhbllbgajeaaGreat
