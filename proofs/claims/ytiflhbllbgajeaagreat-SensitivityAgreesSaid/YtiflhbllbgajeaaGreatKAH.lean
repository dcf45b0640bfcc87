/- Part. -/
import Derived.Test.YtiflhbllbgajeaaGreatKAG
set_option linter.all false
namespace Go.Proofs.YtiflhbllbgajeaaGreat
open Go.Proofs.Tryz
open Go.Vc Go.Gw
open Go.IntKind (i64 u64 u32)
def DK (k:Int):ri k=rc (k:Rat):=by
 unfold ri rc;rw[g2j,g2h,Xc]
def Ms (a b:Int):IS (.int .i64) a b=decide (a=b):=rfl
def GN {c:Type} (k i:Int) (v:c):∀l:List (Int×c),M7 (.int .i64) i (Gr (.int .i64) k v l)=if i=k then some v else M7 (.int .i64) i l
 | []=>by
  simp only[Gr,M7,Ms];by_cases h:i=k
  . simp[h]
  . rw[qL h];simp[h]
 | (b,f)::l=>by
  have d:=GN k i v l;simp only[Gr,Ms];by_cases h:k=b
  . subst h;simp only[g1h,qV,M7,Ms];by_cases a:i=k
    . simp[a]
    . simp[a]
  . simp only[h,g2c,rI,M7,Ms,d];by_cases a:i=b
    . subst a;have:¬i=k:=fun e=>h e.symm
      simp[this]
    . simp[a]
def RN {a:Type} (k:Int) (v:a):∀l:List (Int×a),(Gr (.int .i64) k v l).map (fun e=>e.1)=if k∈l.map (fun e=>e.1)then l.map (fun e=>e.1)else l.map (fun e=>e.1)++ [k]
 | []=>by simp[Gr]
 | (b,d)::l=>by
  have c:=RN k v l;simp only[Gr,Ms];by_cases h:k=b
  . subst h;simp
  . simp only[h,g2c,rI,rZ,c,qI,false_or];split<;>simp
def ZP {a:Type} (k:Int) (v:a):∀ {l:List (Int×a)} {e:Int×a},e∈Gr (.int .i64) k v l->e=(k,v)\/e∈l
 | [],e,h=>by
  simp only[Gr,qR]at h;exact .inl h
 | (c,d)::l,e,h=>by
  simp only[Gr,Ms]at h;by_cases b:k=c
  . subst b;simp only[g1h,qV,qI]at h;rcases h with h|h
    . exact .inl h
    . exact .inr (qM _ h)
  . simp only[b,g2c,rI,qI]at h;rcases h with h|h
    . exact .inr (h▸rB ..)
    . exact(ZP k v h).imp id (qM _)
def ZO {a:Type} {k:Int} {v:a} :∀ {l:List (Int×a)},M7 (.int .i64) k l=some v->(k,v)∈l
 | (b,a)::l,h=>by
  simp only[M7,Ms]at h;by_cases a:k=b
  . simp[a]at h;rw[a,h];exact rB ..
  . simp[a]at h;exact qM _ (ZO h)
def pV {a:Type} {k:Int} :∀ {l:List (Int×a)},k∈l.map (fun e=>e.1)->∃v,M7 (.int .i64) k l=some v
 | (b,c)::l,h=>by
  simp only[M7,Ms];by_cases a:k=b
  . exact⟨c,by simp[a]⟩
  . simp only[rZ,qI,a,false_or]at h;obtain⟨v,b⟩:=pV h;exact⟨v,by simp[a,b]⟩
def pY:∀ {r l:Xr},r.Nodup->(∀i∈r,i∈l)->r.length<=l.length
 | [],_,_,_=>rM _
 |a::r,l,b,d=>by
  rw[sG]at b;have c:=d a (rB ..);have:=pY (l:=l.erase a) b.2 fun i hi=>(zZ fun e=>b.1 (by rw[<-e];exact hi)).2 (d i (qM _ hi))
  have b:=zB c;have b:=zN c;rw[rH];omega
def A9o {r:Xr} {n:Int} (h:r.Nodup) (a:∀i∈r,0<=i/\i<n):(r.length:Int)<=max n 0:=by
 have:=pY (l:=(List.range n.toNat).map fun i:Nat=>(i:Int)) h fun i hi=>by
  have:=a i hi;exact sQ.2 ⟨i.toNat,wS.2 (by omega),by omega⟩
 rw[sL,zO]at this;omega
structure jJ (n:Int) (F:Int->Rat) (es:List D6):Prop where
 nd:(es.map fun e=>e.1).Nodup
 rng:∀e∈es,0<=e.1/\e.1<n
 can:∀e∈es,e.2=rc (rv e.2)
 val:∀j,rv ((M7 (.int .i64) j es).getD dQ)=F j
def jJ.at {n:Int} {F:Int->Rat} {es:List D6} (h:jJ n F es) (j:Int):(M7 (.int .i64) j es).getD dQ=rc (F j)\/((M7 (.int .i64) j es).getD dQ=dQ/\F j=0/\j∉es.map fun e=>e.1):=by
 have a:=h.val j;cases b:M7 (.int .i64) j es with
 |none=>
  rw[b]at a;refine .inr ⟨rfl, ?_,fun d=> ?_⟩
  . rw[<-a];exact bE
  . obtain⟨v,c⟩:=pV d;rw[b]at c;cases c
 |some v=>
  rw[b]at a;have c:=h.can _ (ZO b);have a:rv v=F j:=a;left;show v= _;rw[<-a];exact c
def jJ.sh {n:Int} {F:Int->Rat} {es:List D6} (h:jJ n F es) (j:Int) (b:qs 2199023255552 (F j)):D8 ((M7 (.int .i64) j es).getD dQ):=by
 rcases h.at j with a| ⟨a,_⟩
 . rw[a];exact b
 . rw[a];exact⟨rM _,rM _⟩
def jJ.put {n:Int} {F G:Int->Rat} {es:List D6} (h:jJ n F es) {k:Int} {q:Rat} (l:0<=k/\k<n) (d:G k=q) (f:∀j,j≠k->G j=F j):jJ n G (Gr (.int .i64) k (rc q) es):=by
 refine⟨?_,fun e a=> ?_,fun e a=> ?_,fun j=> ?_⟩
 . have:=RN k (rc q) es;rw[this];split
   . exact h.nd
   . rename_i o;rw[sX];refine⟨h.nd,by simp,fun r g s c i=> ?_⟩;rw[qR]at c;subst c i;exact o g
 . rcases ZP k (rc q) a with rfl|a
   . exact l
   . exact h.rng e a
 . rcases ZP k (rc q) a with rfl|a
   . show rc q=rc (rv (rc q));rw[D7]
   . exact h.can e a
 . rw[GN];by_cases b:j=k
   . rw[qP b];show rv (rc q)= _;rw[D7,b,d]
   . rw[qL b,h.val,f j b]
def jJ.len {n:Int} {F:Int->Rat} {es:List D6} (h:jJ n F es):(es.length:Int)<=max n 0:=by
 have:=A9o h.nd (n:=n) fun i hi=>by
  obtain⟨e,a,rfl⟩:=sQ.1 hi;exact h.rng e a
 rwa[sL]at this
def lA {n:Nat} {f:Nat->Rat} {v:List D6} (h:VP n f v):v.length<=n:=by
 have:=Gk (gF h);omega
def Jc (x:A2 I6.args) (t:awf I6.args x) (c:I6.pre x):Ct x:=by
 obtain⟨l,⟨u,f⟩,_⟩:=x;have w:l.length<=9223372036854775807:=t.1.1;change Xr at l;have c:∀i∈l,u (i,()):=c;simp only[Ct,iB];refine⟨fun p=>0<=p.1/\p.1<=(l.length:Int)/\∀y∈l.take p.1.toNat,f (y,())=false,fun p=>((l.length:Int)-p.1).toNat,⟨qG _,qD _,by simp⟩, ?_⟩;rintro⟨i,_⟩ _ ⟨a,n,b⟩;change Int at i;simp only at a n b⊢;refine⟨fun h=> ?_,fun h=> ?_⟩
 . have h:=qA h;refine⟨⟨a,h⟩,by trivial,c _ (H6 a h),fun _=>⟨fun s=> ?_,fun o=> ?_⟩⟩
   . have r:l.findIdx? (fun i=>f (i,()))=some i.toNat:=by
      rw[wA];have g:=H1 (d:=(0:Int)) a h;have j:i.toNat<l.length:=by omega
      rw[qO j]at g;refine⟨j,by rw[vX g];exact s,fun k v=> ?_⟩;have:=b l[k] (uA.2 ⟨k,by rw[qU];omega,by simp⟩);simp[this]
     unfold pD;rw[r];show i=((i.toNat:Nat):Int);omega
   . rw[wv (by omega)];exact⟨⟨by omega,by omega,Gy a h b o⟩,by omega⟩
 . have h:=qB h;rw[D4 (by omega)]at b;unfold pD;have:l.findIdx? (fun i=>f (i,()))=none:=by
    rw[xJ];exact b
   rw[this]
def B8m (p:Int->Bool) (l:Xr):0<=pD p l↔∃i,i∈l/\p i=true:=by
 unfold pD;cases h:l.findIdx? p with
 |none=>
  rw[xJ]at h;constructor
  . intro b;simp at b
  . rintro⟨i,c,a⟩;have:=h i c;rw[this]at a;cases a
 |some k=>
  rw[wA]at h;obtain⟨a,b,_⟩:=h;exact⟨fun _=>⟨_,wM a,b⟩,fun _=>qD _⟩
def Gx (x:A2 F7.args) (d:awf F7.args x) (a:F7.pre x):Al x:=by
 obtain⟨l,⟨c,f⟩,_⟩:=x;change Xr at l;have a:∀i∈l,c (i,()):=a;simp only[Al,Cw];refine⟨by trivial,by trivial,a, ?_⟩;rintro⟨r,_⟩ _ b;simp only at b⊢;rw[b];exact vL.2 (B8m _ _)
def Vv (x:A2 K8.args) (a:awf K8.args x) (_:K8.pre x):Ld x:=by
 simp only[Ld];rw[J1,Bool.decide_or]
def A8j {a b:List D6} (h:a.Perm b) (j:Int):A5 a j=A5 b j:=by
 induction h with
 |nil=>rfl
 |cons e _ c=>rw[A5,A5,c]
 |swap e f l=>simp only[A5];rw[<-yE, <-yE,g4d (if f.1=j then rv f.2 else 0)]
 |trans _ _ c d=>rw[c,d]
def B7y {a b:Int} (h:¬M0 b a<0):a<=b:=by
 unfold M0 at h;split at h
 . omega
 . split at h<;>omega
def IG (x:A2 X7.args) (bq:awf X7.args x) (bk:X7.pre x):Vu x:=by
 obtain⟨⟨R,C,D⟩,rows,a,_⟩:=x;have ca:dW (R,C,D):=Wz bq.1.2.2.2;change Int at R C;change List (List D6)at D;change Xr at rows a;obtain⟨⟨bm,cb,c9⟩,aw⟩:(X0 K1 (R,C,D)/\rows.length<=1000/\a.length<=1000)/\a.Nodup:=by
  obtain⟨B,E,r,d⟩:=bk;exact⟨⟨B,E,r⟩,d⟩
 simp only[Vu,iB,H4,Ni];refine⟨trivial, ?_⟩;rintro⟨b2,_⟩ _ H;simp only at H⊢;by_cases v:D1 (R,C,D)
 . have H:b2=true:=by rw[H];exact rD v
   rw[H];obtain⟨bz,c0,c2,c3,_,_⟩:=id v;have cf:(D.length:Int)=R:=v.2.2.2.2.1;have c4:∀w∈D,N0 w C:=v.2.2.2.2.2;simp only at bz c0 c2 c3;refine⟨fun h=>(by cases h),fun _=>⟨by trivial,by trivial,fun _ _=>trivial, ?_⟩⟩;rintro⟨a6,_⟩ _ a0;simp only at a0⊢;refine⟨by trivial,by trivial,fun _ _ _=>trivial, ?_⟩;rintro⟨b3,_⟩ U;simp only at U⊢;rw[J1];have aj:(a6||b3)=true↔((∃i,i∈rows/\(i<0\/R<=i))\/∃i,i∈a/\(i<0\/C<=i)):=by
    by_cases f:∃i,i∈rows/\(i<0\/R<=i)
    . have:a6=true:=by
       rw[a0];obtain⟨i,b,c⟩:=f;exact rD ⟨i,b,rD c⟩
      rw[this];exact⟨fun _=> .inl f,fun _=>rfl⟩
    . have am:a6=false:=by
       rw[a0];exact rE fun⟨i,b,c⟩=>f ⟨i,b,qA c⟩
      have U:=(U am).2;rw[am,vR,U];constructor
      . intro h;obtain⟨i,b,c⟩:=qA h;exact .inr ⟨i,b,qA c⟩
      . rintro(h| ⟨i,b,c⟩)
        . exact absurd h f
        . exact rD ⟨i,b,rD c⟩
   refine⟨fun h=> ?_,fun h=>⟨trivial, ?_⟩⟩
   . have h:=aj.1 h;exact⟨fun g=>absurd v g,fun _=>⟨fun _=>⟨rfl,by trivial⟩,fun g=>absurd h g⟩⟩
   have ac:¬((∃i,i∈rows/\(i<0\/R<=i))\/∃i,i∈a/\(i<0\/C<=i)):=fun g=>by rw[aj.2 g]at h;cases h
   have bl:∀i∈rows,0<=i/\i<R:=fun i b=>qQ fun hn=>ac (.inl ⟨i,b,by omega⟩)
   have bd:∀i∈a,0<=i/\i<C:=fun i b=>qQ fun hn=>ac (.inr ⟨i,b,by omega⟩)
   rintro⟨b4,_⟩ _ a7;simp only at a7⊢;refine⟨fun _=>trivial, ?_⟩;rintro⟨b5,_⟩ a8;simp only at a8⊢;have M:b4=true:=by rw[a7];exact rD ⟨by omega,by omega⟩
   have F:b5=true:=by rw[(a8 (by rw[M];rfl)).2];exact rD ⟨by omega,by omega⟩
   rw[M,F];refine⟨fun h=>(by cases h),fun _=> ?_⟩;clear a0 U a7 a8 aj h;refine⟨fun p=>0<=p.1/\p.1<=(a.length:Int)/\(∀k:Nat,k<p.1.toNat->M7 (.int .i64) (a.getD k 0) p.2.1=some [(k:Int)])/\∀r,r∉a.take p.1.toNat->M7 (.int .i64) r p.2.1=Option.none,fun p=>((a.length:Int)-p.1).toNat,⟨qG _,qD _,fun k o=>by simp at o,fun _ _=>rfl⟩, ?_⟩;rintro⟨i,J,_⟩ _ ⟨ai,bs,a1,W⟩;change Int at i;change List (Int×Xr)at J;simp only at ai bs a1 W⊢;refine⟨fun b=> ?_,fun b=> ?_⟩
   . have b:=qA b;have a9:=E5 (d:=(0:Int)) ai b;have ar:i.toNat<a.length:=by omega
     have b0:a.take (i+1).toNat=a.take i.toNat++ [a.getD i.toNat 0]:=by
      rw[show(i+1).toNat=i.toNat+1 from by omega,rP,qO ar,G5 _ _ ar];rfl
     have ax:a.getD i.toNat 0∉a.take i.toNat:=fun aa=>by
      have f:(a.take (i+1).toNat).Nodup:=aw.take;rw[b0,sX]at f;exact f.2.2 _ aa _ (qR.2 rfl) rfl
     rw[a9,wv (by omega)];refine⟨⟨ai,b⟩,W _ ax,⟨by simp only[qY];omega,by simp only[qY];omega⟩,⟨by omega,by omega,fun k o=> ?_,fun r c=> ?_⟩,by omega⟩
     . show M7 (.int .i64) (a.getD k 0) (Gr (.int .i64) (a.getD i.toNat 0) [i] J)= _;rw[GN];by_cases aq:k=i.toNat
       . rw[qP (by rw[aq]),aq,show((i.toNat:Nat):Int)=i from by omega]
       . have bh:k<i.toNat:=by have o:k<(i+1).toNat:=o;omega
         rw[qL,a1 k bh];intro bf;apply ax;rw[<-bf,G5 _ _ (show k<a.length by omega)];exact uA.2 ⟨k,by rw[qU];omega,by simp⟩
     . show M7 (.int .i64) r (Gr (.int .i64) (a.getD i.toNat 0) [i] J)= _;have c:r∉a.take (i+1).toNat:=c;rw[b0,rA,qR,g4u]at c;rw[GN,qL c.2,W r c.1]
   . have b:=qB b;rw[D4 (by omega)]at W;have aa:i.toNat=a.length:=by omega
     rw[aa]at a1;rw[qH];refine⟨⟨by omega,qG _,by omega,by omega⟩,fun p=>0<=p.1/\p.1<=(rows.length:Int)/\oQ rows.length p.1.toNat (fun i=>VP a.length fun j=>el (R,C,D) (rows.getD i 0).toNat (a.getD j 0).toNat) p.2.1,fun p=>((rows.length:Int)-p.1).toNat,⟨qG _,qD _,C3a rC⟩, ?_⟩;rintro⟨k,out,_⟩ _ ⟨O,bt,V⟩;change Int at k;change List (List D6)at out;simp only at O bt V⊢;have cc:=V.1;refine⟨fun o=> ?_,fun o=> ?_⟩
     . have o:=qA o;have a9:=E5 (d:=(0:Int)) O o;have ae:=bl _ (H6 (d:=(0:Int)) O o);rw[a9]at ae⊢;have bg:∀ {w:List D6},VP a.length (fun j=>el (R,C,D) (rows.getD k.toNat 0).toNat (a.getD j 0).toNat) w->oQ rows.length (k+1).toNat (fun i=>VP a.length fun j=>el (R,C,D) (rows.getD i 0).toNat (a.getD j 0).toNat) (out.set k.toNat w):=fun {w} hw2=>A8p V O o hw2
       generalize rows.getD k.toNat 0=Z at*;have az:Z<(D.length:Int):=by omega
       rw[YX ae.1 az];have au:D.getD Z.toNat []∈D:=B4 (by omega);have af:=mK v bm au;have bp:=c4 _ au;have bc:∀r:Int,0<=r->A5 (D.getD Z.toNat []) r=el (R,C,D) Z.toNat r.toNat:=fun r c=>B2u _ _ c
       generalize D.getD Z.toNat []=row at*;have ce:=af.2.2;refine⟨⟨O,o⟩,⟨ae.1,az⟩,fun p=>0<=p.2.1/\p.2.1<=(row.length:Int)/\p.1.length<=p.2.1.toNat/\(p.1.map fun e=>e.1).Nodup/\(∀x∈p.1,∃q:Nat,q<a.length/\x.1=(q:Int)/\(∃y∈row.take p.2.1.toNat,y.1=a.getD q 0)/\rv x.2≠0/\x.2=rc (rv x.2))/\∀j:Nat,j<a.length->A5 p.1 (j:Int)=A5 (row.take p.2.1.toNat) (a.getD j 0),fun p=>((row.length:Int)-p.2.1).toNat,⟨qG _,qD _,qZ _,xU,fun _ h=>(by cases h),fun j _=>rfl⟩, ?_⟩;rintro⟨P,t,_⟩ _ ⟨Q,bw,bu,a3,a4,Y⟩;change List D6 at P;change Int at t;simp only at Q bw bu a3 a4 Y⊢;refine⟨fun u=> ?_,fun u=> ?_⟩
       . have u:=qA u;have ap:=H6 (d:=F3) Q u;obtain⟨c5,c6,b6⟩:=bp.2 _ ap;have bn:=af.2.1 _ ap;have be:=A8k (d:=F3) Q u;have bb:∀y∈row.take t.toNat,y.1≠(gx F3 row t).1:=fun x n hxe=>by
          have f:(row.take (t+1).toNat).Pairwise (fun B E=>B.1<E.1):=af.1.take;rw[show(t+1).toNat=t.toNat+1 from by omega,rP,H1 (d:=F3) Q u,tW]at f;have:=f.2.2 x n (gx F3 row t) (by simp);omega
         have bo:∀y∈row.take t.toNat,y∈row.take (t+1).toNat:=fun y X=>by
          rw[show(t+1).toNat=t.toNat+1 from by omega,rP];exact rA.2 (.inl X)
         have bj:gx F3 row t∈row.take (t+1).toNat:=by
          rw[show(t+1).toNat=t.toNat+1 from by omega,rP,H1 (d:=F3) Q u];simp
         generalize gx F3 row t=e at*;have N:(M7 (.int .i64) e.1 J).getD []= []/\e.1∉a\/∃q:Nat,q<a.length/\a.getD q 0=e.1/\(M7 (.int .i64) e.1 J).getD []= [(q:Int)]:=by
          by_cases c:e.1∈a
          . obtain⟨q,A,G⟩:=P3 0 c;have:=a1 q A;rw[G]at this;exact .inr ⟨q,A,G,by rw[this];rfl⟩
          . exact .inl ⟨by rw[W _ c];rfl,c⟩
         generalize (M7 (.int .i64) e.1 J).getD []=L at*;have c7:L.length<=1:=by
          rcases N with⟨h,_⟩ | ⟨q,_,_,h⟩<;>rw[h]<;>simp
         refine⟨⟨Q,u⟩,fun p=>0<=p.2.1/\p.2.1<=(L.length:Int)/\p.1=P++(L.take p.2.1.toNat).map fun q=>(q,rc (rv e.2)),fun p=>((L.length:Int)-p.2.1).toNat,⟨qG _,qD _,by simp⟩, ?_⟩;rintro⟨b1,a5,_⟩ _ ⟨ak,bx,z⟩;change List D6 at b1;change Int at a5;simp only at ak bx z⊢;have cd:b1.length<=P.length+1:=by
          rw[z,rN,sL,qU];omega
         refine⟨fun I=> ?_,fun I=> ?_⟩
         . have I:=qA I;refine⟨⟨ak,I⟩,J8 bn (by decide), ?_⟩;rintro⟨q,_⟩ _ A;simp only at A⊢;rw[wv (by omega)];refine⟨⟨by simp only[qY];omega,by simp only[qY];omega⟩,⟨by omega,by omega, ?_⟩,by omega⟩;rw[z,A,show(a5+1).toNat=a5.toNat+1 from by omega,rP,H1 (d:=(0:Int)) ak I,uM,uD];rfl
         . have I:=qB I;rw[D4 (l:=L) (i:=a5) (by omega)]at z;rw[wv (by omega)];have ao:∀j:Nat,j<a.length->A5 (row.take (t+1).toNat) (a.getD j 0)=A5 (row.take t.toNat) (a.getD j 0)+if e.1=a.getD j 0 then rv e.2 else 0:=fun j _=>be _
           have av:∀x∈P,∃q:Nat,q<a.length/\x.1=(q:Int)/\(∃y∈row.take (t+1).toNat,y.1=a.getD q 0)/\rv x.2≠0/\x.2=rc (rv x.2):=fun x n=>by
            obtain⟨q,f,g,⟨y,X,M⟩,F,T⟩:=a4 x n;exact⟨q,f,g,⟨y,bo y X,M⟩,F,T⟩
           rcases N with⟨N,bi⟩ | ⟨q,A,G,N⟩
           . rw[N,g2a,vV]at z;subst z;refine⟨⟨by omega,by omega,by omega,a3,av,fun j s=> ?_⟩,by omega⟩;rw[Y j s,ao j s,qL (fun h=>bi (by rw[h];exact B4 s)),rL]
           . rw[N,rZ,g2a]at z;subst z;refine⟨⟨by omega,by omega,by omega, ?_,fun x n=> ?_,fun j s=> ?_⟩,by omega⟩
             . show((P++ [((q:Int),rc (rv e.2))]).map fun e:D6=>e.1).Nodup;rw[uM,sX];refine⟨a3,by simp,fun B b8 E ba c8=> ?_⟩;obtain⟨x,n,rfl⟩:=sQ.1 b8;simp only[rZ,g2a,qR]at ba;obtain⟨bv,f,g,⟨y,X,M⟩,_⟩:=a4 x n;have:bv=q:=by omega
               subst this;exact bb y X (by rw[M,G])
             . rcases rA.1 n with n|n
               . exact av x n
               . rw[qR.1 n];exact⟨q,A,rfl,⟨e,bj,G.symm⟩,by rw[D7];exact b6,by rw[D7]⟩
             . show A5 (P++ [((q:Int),rc (rv e.2))]) (j:Int)= _;rw[Ha,Y j s,ao j s];congr 1;by_cases ay:q=j
               . subst ay;rw[qP rfl,qP G.symm]
               . rw[qL (by omega),qL];intro b7;apply ay;have an:a.getD q 0=a.getD j 0:=G.trans b7;rw[G5 _ _ A,G5 _ _ s]at an;exact(wL aw).1 an
       . have u:=qB u;rw[D4 (by omega)]at Y;refine⟨by omega,fun a2 _ ad ag=> ?_⟩;have ag:a2.Pairwise fun B E:D6=>¬M0 E.1 B.1<0:=ag
         rw[wv (by omega)];refine⟨⟨O,by omega⟩,⟨by omega,by omega,bg ?_⟩,by omega⟩;have ab:(a2.map fun e:D6=>e.1).Nodup:=(ad.map _).nodup_iff.2 a3;have b9:Ir a2:=by
          unfold List.Nodup at ab;rw[vO]at ab;refine g3n ?_ ag ab;intro B E f g;have:=B7y f;omega
         have n:∀x∈a2,∃q:Nat,q<a.length/\x.1=(q:Int)/\rv x.2≠0/\x.2=rc (rv x.2):=fun x n=>by
          obtain⟨q,f,g,_,F,T⟩:=a4 x (ad.mem_iff.1 n);exact⟨q,f,g,F,T⟩
         refine⟨⟨b9,fun x ah=> ?_⟩,fun x ah=> ?_,fun j s=> ?_⟩
         . obtain⟨q,_,_,F,T⟩:=n x ah;exact⟨F,T⟩
         . obtain⟨q,f,g,_⟩:=n x ah;omega
         . rw[A8j ad,Y j s];exact bc _ (bd _ (B4 s)).1
     . have o:=qB o;exact⟨fun h=>absurd v h,fun _=>⟨fun g=>absurd g ac,fun _=>⟨fun g=>absurd g (by omega),fun _=>⟨⟨rfl,rfl,V.1,fun i b=>V.2 i (by omega)⟩,by trivial⟩⟩⟩⟩
 . have H:b2=false:=by rw[H];exact rE v
   rw[H];exact⟨fun _=>⟨fun _=>⟨rfl,by trivial⟩,fun h=>absurd h v⟩,fun h=>(by cases h)⟩
def nF:An:= {}
def nG:An:= {}
def MQ:An:= {plan:= [(1,[3,7],[],true,(pZ9 0 3 (.q 3 (pZ9 4 3 (.q 7 (.p 8 (.p 9 .done))))))),(4,[3,7,10],[],true,(pZ9 0 3 (.q 3 (pZ9 4 3 (.q 7 (.p 8 (.p 9 (.q 10 (.p 11 (.e 12 (.p 13 .done)))))))))))]}
def QD:An:= {}
def MR:An:= {loop:= [(3,⟨[0,1],[],[(5,false,[.own tQ 43]),(6,false,vI)],[(0,98,[.val (.sl (.int .i64)), .val (.int .i64)])],[]⟩)]}
def Zt:An:= {}
def UA:A2 Ou.args->Prop:=fun(x:Dl)=>let b:=(u64.wrap x.2.1);let a:=(u64.wrap x.1);u64.wrap x.2.1≠0/\(0<x.2.1->(0:Int)<=i64.wrap (a.tmod b)/\i64.wrap (a.tmod b)<x.2.1/\i64.wrap (a.tmod b)=a.tmod x.2.1)
def A1k:A2 Ov.args->Prop:=fun(x:Sq)=>(x.1,(0:Int))=(x.1,(0:Int))
abbrev C7j:=(Xr×Int)×Int×Unit
def Rf:A2 Bb.args->Prop:=fun(x:C7j)=>let e:=(1:Int);let d:=(↑x.1.1.length:Int);let c:=(x.1.1.length:Int);let b:=(0:Int);let a:=(i64.wrap (x.1.2+e)-e);(iB (decide (c<=x.1.2)) ((b<=b/\b<x.2.1)/\x.1.1=x.1.1/\b<=x.1.2/\x.1.2<=d) ((b<=i64.wrap a/\i64.wrap a<c)/\b<x.2.1/\Cw fun r=>(b<x.2.1->b<=r.1/\r.1<x.2.1/\r.1=(u64.wrap (gx b x.1.1 (i64.wrap a))).tmod x.2.1)->(b<=r.1/\r.1<x.2.1)/\x.1.1=x.1.1/\b<=i64.wrap (x.1.2+e)/\i64.wrap (x.1.2+e)<=d))
abbrev Sp:=(Xr×Int)×Unit
def Vt:A2 Cm.args->Prop:=fun(x:Sp)=>let b:=(x.1.1.length:Int);let a:=(0:Int);(a<(13:Int)/\a<=x.1.2/\x.1.2<=b)/\∀(r:C8) (o:Sp),let c:=(o.1.1.length:Int);I2 r.1/\True->((Ty.int i64).sl.pair (Ty.int i64)).wf o.1/\True->a<=r.1/\r.1<13->o.1.1=x.1.1/\a<=o.1.2/\o.1.2<=b->(a<(4:Int)/\a<=o.1.2/\o.1.2<=c)/\∀(e:C8) (d:Sp),I2 e.1/\True->((Ty.int i64).sl.pair (Ty.int i64)).wf d.1/\True->a<=e.1/\e.1<4->d.1.1=o.1.1/\a<=d.1.2/\d.1.2<=c->True/\H4 fun f=>f.1=rc (Rat.divInt (i64.wrap (r.1-6)) (i64.wrap (1+e.1)))->Qc f.1/\d.1.1=x.1.1/\a<=d.1.2/\d.1.2<=(↑x.1.1.length:Int)
abbrev C1u:=List QQ×Int×Xr×Int×Unit
def Rh:A2 Bc.args->Prop:=fun(x:C7j)=>let c:=(0:Int);∃(I:C1u->Prop),∃(d: _->Nat),I ([],c,x.1.1,x.1.2,())/\∀(p:C1u),let b:=(p.2.2.1.length:Int);tQ.sl.wf p.1/\(Ty.int i64).wf p.2.1/\(Ty.int i64).sl.wf p.2.2.1/\(Ty.int i64).wf p.2.2.2.1/\True->I p->(iB (decide (p.2.1<x.2.1)) ((c<=p.2.2.2.1/\p.2.2.2.1<=b)/\∀(r:D5) (o:Sp),let a:=(p.1++ [r.1],i64.wrap (p.2.1+1),o.1.1,o.1.2,());Zr r.1/\True->((Ty.int i64).sl.pair (Ty.int i64)).wf o.1/\True->Qc r.1->o.1.1=p.2.2.1/\c<=o.1.2/\o.1.2<=b->((p.1.length+ [r.1].length)*(56:Nat)<=(140737488355328:Nat)/\p.1.length+ [r.1].length<=9223372036854775807)/\I a/\d a<d p) (((↑p.1.length:Int)=Max.max x.2.1 c/\∀(e:QQ),e∈p.1->Qc e)/\p.2.2.1=x.1.1/\c<=p.2.2.2.1/\p.2.2.2.1<=(↑x.1.1.length:Int)))
def Jg:A2 Q7.args->Prop:=fun(x:Sp)=>let b:=(x.1.1.length:Int);let a:=(0:Int);(a<(9:Int)/\a<=x.1.2/\x.1.2<=b)/\∀(r:C8) (o:Sp),let c:=(o.1.1.length:Int);I2 r.1/\True->((Ty.int i64).sl.pair (Ty.int i64)).wf o.1/\True->a<=r.1/\r.1<9->o.1.1=x.1.1/\a<=o.1.2/\o.1.2<=b->(a<(4:Int)/\a<=o.1.2/\o.1.2<=c)/\∀(e:C8) (d:Sp),I2 e.1/\True->((Ty.int i64).sl.pair (Ty.int i64)).wf d.1/\True->a<=e.1/\e.1<4->d.1.1=o.1.1/\a<=d.1.2/\d.1.2<=c->True/\H4 fun f=>f.1=rc (Rat.divInt (i64.wrap (1+r.1)) (i64.wrap (1+e.1)))->(Qc f.1/\(0:Rat)<rv f.1)/\d.1.1=x.1.1/\a<=d.1.2/\d.1.2<=(↑x.1.1.length:Int)
def nT:An:= {loop:= [(3,⟨[0,4,5],[0],[(6,false,vI)],[(1,29,[.val (.int .i64), .val (.int .i64), .own (.sl tE) 79])],[]⟩)],plan:= [(5,[1,5],[8,10],false,(.p 0 (.q 1 (pZ9 2 3 (.q 5 (.e 6 (.e 7 (.e 8 (.p 9 (.e 10 .done))))))))))]}
def QI:An:= {loop:= [(4,⟨[2,3],[0,1],[(5,false,vI)],[],[]⟩)],plan:= [(6,[1,4,6,9],[],true,(.p 0 (.q 1 (.p 2 (.p 3 (.q 4 (.p 5 (.q 6 (.p 7 (.p 8 (.q 9 (.e 10 (.p 11 .done)))))))))))))]}
abbrev C7w:=Int×Int×Int×List (List EE)×Unit
def UN:A2 Ka.args->Prop:=fun(x:List (List QQ)×Int×Unit)=>let d:=(↑x.2.1.toNat:Int);let b:=(x.1.length:Int);∃(I:C7w->Prop),∃(f: _->Nat),I ((0:Int),b,x.2.1,[],())/\∀(p:C7w),let c:=(gx [] x.1 p.1);(Ty.int i64).wf p.1/\(Ty.int i64).wf p.2.1/\(Ty.int i64).wf p.2.2.1/\tE.sl.sl.wf p.2.2.2.1/\True->I p->(iB (decide (p.1<b)) ((0<=p.1/\p.1<b)/\(c.length<=(100000:Nat)/\Db K1 c)/\mE fun r=>let a:=(i64.wrap (p.1+1),p.2.1,p.2.2.1,p.2.2.2.1++ [r.1],());VP c.length (fun(j:Nat)=>rv (c.getD j zr)) r.1->((p.2.2.2.1.length+ [r.1].length)*(24:Nat)<=(140737488355328:Nat)/\p.2.2.2.1.length+ [r.1].length<=9223372036854775807)/\I a/\f a<f p) (p.2.1=(↑x.1.length:Int)/\p.2.2.1=d/\p.2.2.2.1.length=x.1.length/\∀(i:Nat),i<x.1.length->Ae (p.2.2.2.1.getD i [])/\(∀(e:D6),e∈p.2.2.2.1.getD i []->0<=e.1/\e.1<d)/\∀(j:Nat),j<x.2.1.toNat->A5 (p.2.2.2.1.getD i []) (↑j:Int)=rv ((x.1.getD i []).getD j zr)))
def Vz:A2 X8.args->Prop:=fun(x:MM×MM×Unit)=>let d:=(x.2.1.2.2.length:Int);let g:=(L8 (decide (x.1.1≠x.2.1.1)) true (decide (x.1.2.1≠x.2.1.2.1)));let b:Prop:=(false=true↔x.1=x.2.1/\∀(v:List EE),v∈x.1.2.2->∀(e:EE),e∈v->e.2=rc (rv e.2));let a:=(x.1.2.2.length:Int);(iB (L8 g true (decide (a≠d))) (b) (∃(I:C8->Prop),∃(c: _->Nat),I ((0:Int),())/\∀(p:C8),let f:=(i64.wrap (p.1+1),());(Ty.int i64).wf p.1/\True->I p->(iB (decide (p.1<a)) ((0<=p.1/\p.1<a)/\(0<=p.1/\p.1<d)/\VZ K1 (gx [] x.1.2.2 p.1)/\Ni fun r=>r.1=decide (gx [] x.1.2.2 p.1=gx [] x.2.1.2.2 p.1/\∀(e:EE),e∈gx [] x.1.2.2 p.1->e.2=rc (rv e.2))->(iB ((!r.1)) (b) (I f/\c f<c p))) ((true=true↔x.1=x.2.1/\∀(v:List EE),v∈x.1.2.2->∀(e:EE),e∈v->e.2=rc (rv e.2))))))
def dC (x:A2 Ka.args) (J:awf Ka.args x) (z:Ka.pre x):UN x:=by
 obtain⟨D,C,_⟩:=x;change List (List C0)at D;change Int at C;obtain⟨B,G,c1,I⟩:(∀l∈D,Db K1 l/\(l.length:Int)=C)/\0<=C/\C<=16384/\D.length<=16384:=z;simp only[UN,iB,mE];refine⟨fun p=>0<=p.1/\p.1<=(D.length:Int)/\p.2.1=(D.length:Int)/\p.2.2.1=C/\p.2.2.2.1.length=p.1.toNat/\∀i,i<p.1.toNat->VP C.toNat (fun F=>rv ((D.getD i []).getD F zr)) (p.2.2.2.1.getD i []),fun p=>((D.length:Int)-p.1).toNat,⟨qG _,qD _,rfl,rfl,rfl,fun i s=>by simp at s⟩, ?_⟩;rintro⟨i,n,o,rows,_⟩ _ ⟨a,E,c,j,A,f⟩;change Int at i n o;change List (List D6)at rows;simp only at a E c j A f⊢;refine⟨fun h=> ?_,fun h=> ?_⟩
 . have h:=qA h;have y:=H6 (d:=([]:List C0)) a h;obtain⟨r,H⟩:=B _ y;refine⟨⟨a,h⟩,⟨by omega,r⟩, ?_⟩;rintro⟨v,_⟩ _ g;simp only at g⊢;rw[wv (by omega)];rw[show(gx [] D i).length=C.toNat from by omega,E5 a h]at g;refine⟨⟨by simp only[qY];omega,by simp only[qY];omega⟩,⟨by omega,by omega,c,j,by rw[rN,qY];omega,fun k t=> ?_⟩,by omega⟩;show VP _ _ ((rows++ [v]).getD k []);by_cases u:k<rows.length
   . have b:(rows++ [v]).getD k []=rows.getD k []:=by
      rw[qF,wG u, <-qF]
     rw[b];exact f k (by omega)
   . have w:k=i.toNat:=by omega
     have b:(rows++ [v]).getD k []=v:=by
      rw[qF,uF (by omega),show k-rows.length=0 from by omega];rfl
     rw[b,w];exact g
 . have h:=qB h;exact⟨c,by omega,by omega,fun k t=>f k (by omega)⟩
def IK (x:A2 X8.args) (B:awf X8.args x) (y:X8.pre x):Vz x:=by
 obtain⟨⟨R,C,D⟩,⟨R',C',D'⟩,_⟩:=x;have E:D.length<=9223372036854775807:=B.1.2.2.1;change Int at R C R' C';change List (List D6)at D D';have z:X0 K1 (R,C,D):=y;simp only[Vz,iB,Ni];simp only[J1];refine⟨fun h=> ?_,fun h=> ?_⟩
 . simp only[uC,rT]at h;refine⟨fun a=>(by cases a),fun a=> ?_⟩;have c:=a.1;simp only[zY]at c;obtain⟨rfl,rfl,rfl⟩:=c;simp at h
 . simp only[rK,rR,uN]at h;obtain⟨⟨rfl,rfl⟩,F⟩:=h;refine⟨fun p=>0<=p.1/\p.1<=(D.length:Int)/\D.take p.1.toNat=D'.take p.1.toNat/\∀v∈D.take p.1.toNat,∀e∈v,e.2=rc (rv e.2),fun p=>((D.length:Int)-p.1).toNat,⟨qG _,qD _,by simp,by simp⟩, ?_⟩;rintro⟨i,_⟩ _ ⟨f,u,a,c⟩;change Int at i;simp only at f u a c⊢;refine⟨fun h=> ?_,fun h=> ?_⟩
   . have h:=qA h;have o:=H6 (d:=([]:List D6)) f h;have s:=H1 (d:=([]:List D6)) f h;have t:=H1 (d:=([]:List D6)) (l:=D') f (by omega);have r:D.take (i+1).toNat=D.take i.toNat++ [gx [] D i]:=by
      rw[show(i+1).toNat=i.toNat+1 from by omega,rP,s];rfl
     have A:D'.take (i+1).toNat=D'.take i.toNat++ [gx [] D' i]:=by
      rw[show(i+1).toNat=i.toNat+1 from by omega,rP,t];rfl
     refine⟨⟨f,h⟩,⟨f,by omega⟩,z _ o, ?_⟩;rintro⟨q,_⟩ _ k;simp only at k⊢;refine⟨fun b=>⟨fun j=>(by cases j),fun j=> ?_⟩,fun b=> ?_⟩
     . obtain⟨n,w⟩:=j;simp only[zY,true_and]at n;subst n;rw[k,rD (⟨rfl,w _ o⟩: _ /\ _)]at b;cases b
     . rw[k]at b;have b:gx [] D i=gx [] D' i/\∀e∈gx [] D i,e.2=rc (rv e.2):=qA (by simpa using b);rw[wv (by omega)];refine⟨⟨by omega,by omega,by rw[r,A,a,b.1],fun v g=> ?_⟩,by omega⟩;rw[r]at g;rcases rA.1 g with g|g
       . exact c v g
       . rw[qR.1 g];exact b.2
   . have h:=qB h;rw[D4 (by omega),D4 (by omega)]at a;rw[D4 (by omega)]at c;subst a;exact⟨fun _=>⟨rfl,c⟩,fun _=>by trivial⟩
def grown (n m i j:Nat) (f:Nat->Nat->Rat) (rows:List (List C0)):Prop:=rows.length=n/\∀k,k<n->rows.getD k []=(List.range (if k<i then m else if k=i then j else 0)).map fun l=>rc (f k l)
def bZ (x:A2 Ov.args) (_:awf Ov.args x) (_:Ov.pre x):A1k x:=rfl
def ES (x:A2 Bb.args) (f:awf Bb.args x) (d:Bb.pre x):Rf x:=by
 obtain⟨⟨l,i⟩,n,_⟩:=x;have k:l.length<=9223372036854775807:=f.1.1.1;change Int at i n;change Xr at l;obtain⟨b,g,j⟩:0<n/\0<=i/\i<=(l.length:Int):=d;simp only[Rf,iB,Cw];refine⟨fun h=>⟨⟨by omega,b⟩,by trivial,g,j⟩,fun h=> ?_⟩;have h:=qB h;rw[wv (a:=i+1) (by omega),wv (a:=i+1-1) (by omega)];refine⟨⟨by omega,by omega⟩,b, ?_⟩;rintro⟨r,_⟩ _ c;exact⟨⟨(c b).1,(c b).2.1⟩,by trivial,by omega,by omega⟩
def bY (x:A2 Ou.args) (j:awf Ou.args x) (i:Ou.pre x):UA x:=by
 obtain⟨a,b,_⟩:=x;change Int at a b;have h:0<b:=i;have c:RB .i64 b:=j.2.1;unfold RB at c;rw[show i64.min= -9223372036854775808 from by decide,show i64.max=9223372036854775807 from by decide]at c;simp only[UA];have e:u64.wrap b=b:=by simp[IntKind.wrap,IntKind.bits,IntKind.signed];omega
 have d:0<=u64.wrap a:=by simp[IntKind.wrap,IntKind.bits,IntKind.signed];omega
 rw[e];have f:0<=(u64.wrap a).tmod b:=zC _ d;have g:(u64.wrap a).tmod b<b:=Int.tmod_lt_of_pos _ h;rw[wv (by omega)];exact⟨by omega,fun _=>⟨f,g,rfl⟩⟩
def Ql {a b:Int} (d:a.natAbs<4294967296) (c:0<b) (f:b.natAbs<4294967296):Qc (rc (Rat.divInt a b)):=by
 refine⟨_, ?_,rfl⟩;rw[KB c];exact aW (by omega) (Hs (by simpa using d)) (Hs (by simpa using f))
def IF (x:A2 Cm.args) (v:awf Cm.args x) (k:Cm.pre x):Vt x:=by
 obtain⟨⟨l,i⟩,_⟩:=x;change Int at i;change Xr at l;obtain⟨t,u⟩:0<=i/\i<=(l.length:Int):=k;simp only[Vt,H4];refine⟨⟨by omega,t,u⟩, ?_⟩;rintro⟨f,_⟩ ⟨⟨r,n⟩,_⟩ _ _ h a;change Int at n f;change Xr at r;simp only at h a⊢;obtain⟨rfl,b,c⟩:=a;refine⟨⟨by omega,b,c⟩, ?_⟩;rintro⟨g,_⟩ ⟨⟨s,o⟩,_⟩ _ _ j a;change Int at o g;change Xr at s;simp only at j a⊢;obtain⟨rfl,b,c⟩:=a;refine⟨trivial, ?_⟩;rintro⟨q,_⟩ _ d;simp only at d⊢;rw[wv (by omega),wv (by omega)]at d;exact⟨by rw[d];exact Ql (by omega) (by omega) (by omega),by trivial,b,c⟩
def ET (x:A2 Bc.args) (F:awf Bc.args x) (u:Bc.pre x):Rh x:=by
 obtain⟨⟨l,i⟩,n,_⟩:=x;change Int at i n;change Xr at l;obtain⟨G,D,E⟩:n<=1000/\0<=i/\i<=(l.length:Int):=u;simp only[Rh,iB];refine⟨fun p=>0<=p.2.1/\p.2.1<=max n 0/\(p.1.length:Int)=p.2.1/\(∀e∈p.1,Qc e)/\p.2.2.1=l/\0<=p.2.2.2.1/\p.2.2.2.1<=(l.length:Int),fun p=>(n-p.2.1).toNat,⟨qG _,by show 0<=max n 0;omega,rfl,fun e a=>(by cases a),rfl,D,E⟩, ?_⟩;rintro⟨B,y,z,v,_⟩ _ ⟨r,s,t,b,f,c,d⟩;change Int at y v;change Xr at z;change List C0 at B;simp only at r s t b f c d⊢;subst f;refine⟨fun h=> ?_,fun h=> ?_⟩
 . have h:=qA h;refine⟨⟨c,d⟩, ?_⟩;rintro⟨q,_⟩ ⟨⟨A,w⟩,_⟩ _ _ j g;change Int at w;change Xr at A;simp only at j g⊢;obtain⟨rfl,k,o⟩:=g;rw[wv (by omega)];refine⟨⟨by rw[qY];omega,by rw[qY];omega⟩,⟨by omega,by omega,by rw[rN,qY];omega,fun e a=> ?_,by trivial,k,o⟩,by omega⟩;rcases rA.1 a with a|a
   . exact b e a
   . rw[qR.1 a];exact j
 . have h:=qB h;exact⟨⟨by omega,b⟩,by trivial,c,d⟩
def Ew:An:= {}
def Kk:An:= {join:= [(16,⟨[0,1,2,6],[],[],[],[(0, .row tE 106)]⟩)],loop:= [(2,⟨[0,1,2,6],[],[(7,false,vI),(8,false,vI)],[],[(0, .row tE 106)]⟩),(9,⟨[0,1,2,6],[],[(7,false,vI),(8,false,vI)],[],[(0, .row tE 106)]⟩),(7,⟨[0,1,2],[],[(6,false,vI)],[],[(0, .row tE 106)]⟩)]}
def Fo:An:= {loop:= [(4,⟨[0,1,2,3,8],[],[(9,false,vI)],[],[(0, .row tE 106)]⟩),(1,⟨[0,1,2,3],[],[(8,false,vI)],[],[(0, .row tE 106)]⟩)],plan:= [(4,[8,13],[],false,(pZ9 0 8 (.q 8 (pZ9 9 4 (.q 13 (.e 14 (.p 15 (.p 16 .done)))))))),(6,[9,13],[15,17],true,(pZ9 0 9 (.q 9 (pZ9 10 3 (.q 13 (.p 14 (.e 15 (.p 16 (.e 17 .done)))))))))]}
def NG:An:= {}
def NF:An:= {join:= [(14,⟨[3,18,19,20],[],[(4,false,vI)],[],[(0, .row tE 106)]⟩)],loop:= [(8,⟨[3,18,19],[],[(4,false,vI),(20,false,vI)],[],[(0, .row tE 106)]⟩)],plan:= [(10,[8,10],[],true,(pZ9 0 8 (.q 8 (.p 9 (.q 10 (.p 11 (.p 12 .done))))))),(11,[8,10],[14],true,(pZ9 0 8 (.q 8 (.p 9 (.q 10 (.e 11 (.p 12 (.p 13 (.e 14 .done)))))))))]}
def R7:A2 F2.args->Prop:=fun(x:List EE×((EE×EE×Unit->Prop)×(EE×EE×Unit->Int))×Unit)=>let a:=(x.1.length:Int);Go.Proofs.Tryz.prog=Go.Proofs.Tryz.prog/\false=false/\((CP x.2.1.1 fun(z:WA)=>x.2.1.2 z)/\a=a/\List.length x.1<=20)/\∀(r:Unit) (o:EH),True->tE.sl.wf o.1/\True->True->o.1.Perm x.1/\AP (fun(z:WA)=>x.2.1.2 z) o.1->True/\o.1.Perm x.1/\AP x.2.1.2 o.1
abbrev B0t:=Int×Int×List EE×Unit
abbrev eF:=Int×List EE×Unit
def Bv:A2 I0.args->Prop:=fun(x:List EE×Int×((EE×EE×Unit->Prop)×(EE×EE×Unit->Int))×Unit)=>let g:=(0:Int);∃(I:B0t->Prop),∃(a: _->Nat),I (g,(20:Int),x.1,())/\∀(p:B0t),let f:=(p.2.2.1.length:Int);let b:=p.1.toNat;(Ty.int i64).wf p.1/\(Ty.int i64).wf p.2.1/\UR p.2.2.1/\True->I p->(iB (decide (p.2.1<=x.2.1)) (Go.Proofs.Tryz.prog=Go.Proofs.Tryz.prog/\false=false/\((CP x.2.2.1.1 fun(z:WA)=>x.2.2.1.2 z)/\g<=p.1/\p.1<=p.2.1/\p.2.1<=f/\List.length p.2.2.1<=100000)/\∀(r:Unit) (o:EH),let c:=(p.2.1,i64.wrap (p.2.1+20),o);True->tE.sl.wf o.1/\True->True->o.1.Perm p.2.2.1/\List.take b o.1=List.take b p.2.2.1/\List.drop p.2.1.toNat o.1=List.drop p.2.1.toNat p.2.2.1/\AP (fun(z:WA)=>x.2.2.1.2 z) (List.take (Int.toNat p.2.1-Int.toNat p.1) (List.drop b o.1))->I c/\a c<a p) (Go.Proofs.Tryz.prog=Go.Proofs.Tryz.prog/\false=false/\((CP x.2.2.1.1 fun(z:WA)=>x.2.2.1.2 z)/\g<=p.1/\p.1<=x.2.1/\x.2.1<=f/\List.length p.2.2.1<=100000)/\∀(r:Unit) (o:EH),True->tE.sl.wf o.1/\True->True->o.1.Perm p.2.2.1/\List.take b o.1=List.take b p.2.2.1/\List.drop x.2.1.toNat o.1=List.drop x.2.1.toNat p.2.2.1/\AP (fun(z:WA)=>x.2.2.1.2 z) (List.take (Int.toNat x.2.1-Int.toNat p.1) (List.drop b o.1))->∃(I:eF->Prop),∃(a: _->Nat),I ((20:Int),o)/\∀(p:eF),(Ty.int i64).wf p.1/\UR p.2.1/\True->I p->(iB (decide (p.1<x.2.1)) (∃(I_1:B0t->Prop),∃(c: _->Nat),I_1 (g,i64.wrap (2*p.1),p.2.1,())/\∀(h:B0t),let e:Prop:=(i64.wrap (h.1+p.1)<x.2.1);(Ty.int i64).wf h.1/\(Ty.int i64).wf h.2.1/\UR h.2.2.1/\True->I_1 h->(iB (decide (h.2.1<=x.2.1)) (Go.Proofs.Tryz.prog=Go.Proofs.Tryz.prog/\false=false/\False/\∀(r:Unit) (o:EH),let b:=(h.2.1,i64.wrap (h.2.1+i64.wrap (2*p.1)),o);True->tE.sl.wf o.1/\True->True->True->I_1 b/\c b<c h) (∃(J:EH->Prop),((iB (decide e) (Go.Proofs.Tryz.prog=Go.Proofs.Tryz.prog/\false=false/\False/\∀(r:Unit) (o:EH),True->tE.sl.wf o.1/\True->True->True->J o) (J (h.2.2.1,()))))/\mE fun i=>let d:=(i64.wrap (p.1*2),i);J i->I d/\a d<a p))) (True/\List.Perm p.2.1 x.1/\AP x.2.2.1.2 p.2.1))))
def T5:A2 F6.args->Prop:=fun(x:List EE×Int×Int×((EE×EE×Unit->Prop)×(EE×EE×Unit->Int))×Unit)=>let h:=(0:Int);let f:=(1:Int);∃(I:eF->Prop),∃(j: _->Nat),I (i64.wrap (x.2.1+f),x.1,())/\∀(p:eF),(Ty.int i64).wf p.1/\UR p.2.1/\True->I p->(iB (decide (p.1<x.2.2.1)) (∃(I_1:eF->Prop),∃(n: _->Nat),I_1 (p.1,p.2.1,())/\∀(m:eF),let k:=m.1.toNat;let i:=(i64.wrap (p.1+f),m.2.1,());let e:Prop:=(x.2.1<m.1);let d:=(i64.wrap (m.1-f));let g:=(List.set m.2.1 k (List.getD m.2.1 d.toNat F3));let c:=(m.2.1.length:Int);let l:Prop:=(h<=m.1/\m.1<c);let b:=(i64.wrap (m.1-f),g.set d.toNat (List.getD m.2.1 k F3),());let a:=(List.getD m.2.1 k F3,List.getD m.2.1 d.toNat F3,());let d:=(decide (x.2.2.2.1.2 a<h));(Ty.int i64).wf m.1/\UR m.2.1/\True->I_1 m->(decide e=true->h<=m.1/\m.1<c)/\(decide e=true->h<=i64.wrap (m.1-f)/\i64.wrap (m.1-f)<c)/\Go.Proofs.Tryz.prog=Go.Proofs.Tryz.prog/\(decide e=true->x.2.2.2.1.1 a)/\((decide e=true->(Ty.int i64).wf (x.2.2.2.1.2 a))->(iB (L8 (decide e) d false) ((h<=i64.wrap (m.1-f)/\i64.wrap (m.1-f)<c)/\l/\l/\(h<=i64.wrap (m.1-f)/\i64.wrap (m.1-f)<(↑g.length:Int))/\I_1 b/\n b<n m) (I i/\j i<j p)))) (True/\List.Perm p.2.1 x.1/\List.take x.2.1.toNat p.2.1=List.take x.2.1.toNat x.1/\List.drop x.2.2.1.toNat p.2.1=List.drop x.2.2.1.toNat x.1/\AP x.2.2.2.1.2 (List.take (x.2.2.1.toNat-x.2.1.toNat) (List.drop x.2.1.toNat p.2.1))))
def Ru:A2 Bp.args->Prop:=fun(x:WA)=>True/\Cw fun r=>r.1=M0 x.1.1 x.2.1.1->r.1=M0 x.1.1 x.2.1.1
def Rt:A2 Bo.args->Prop:=fun(x:EH)=>let i:=(1:Int);let e:=(0:Int);let k:=e.toNat;let d:=(x.1.length:Int);True/\Ni fun r=>r.1=decide (Ir x.1)->(iB r.1 ((Ir x.1->x.1=x.1)/\(¬Ir x.1->Ir x.1/\(∀(j:Int),A5 x.1 j=A5 x.1 j)/\List.length x.1<=20/\VZ (16777216:Nat) x.1)) ((e<=d/\d<=d/\(↑(64:Nat):Int)*d<=(281474976710656:Int)/\d<=(9223372036854775807:Int))/\∃(b:WA->Prop),∃(a:WA->Int),(∀(y:WA),tE.wf y.1/\tE.wf y.2.1/\True->b y->True/\Cw fun z=>z.1=M0 y.1.1 y.2.1.1->false=false/\z.1=a y)/\(CP b a/\(Nq (List.replicate d.toNat F3) x.1).length<=(20:Nat))/\∀(s:Unit) (o:EH),True->tE.sl.wf o.1/\True->True->o.1.Perm (Nq (List.replicate d.toNat F3) x.1)/\AP a o.1->∃(I:B0t->Prop),∃(n: _->Nat),I (e,e,o)/\∀(p:B0t),let m:Prop:=(p.2.1<(↑o.1.length:Int));let l:=(i64.wrap (p.1-i));let g:=p.1.toNat;let c:=(p.2.2.1.length:Int);let f:Prop:=(e<=i64.wrap (p.1-i)/\i64.wrap (p.1-i)<c);let b:=(List.getD p.2.2.1 p.2.1.toNat F3);let a:=(List.getD p.2.2.1 l.toNat F3);let d:=(decide (a.1=b.1));(Ty.int i64).wf p.1/\(Ty.int i64).wf p.2.1/\UR p.2.2.1/\True->I p->(iB (decide m) (∃(J:eF->Prop),((e<=p.2.1/\p.2.1<c)/\(decide (e<p.1)=true->e<=i64.wrap (p.1-i)/\i64.wrap (p.1-i)<c)/\(iB (L8 (decide (e<p.1)) d false) (f/\(D8 a.2/\D8 b.2)/\H4 fun r=>r.1=rc (rv a.2+rv b.2)->f/\J (p.1,List.set p.2.2.1 l.toNat (a.1,r.1),())) ((e<=p.1/\p.1<c)/\J (i64.wrap (p.1+i),List.set p.2.2.1 g b,()))))/\∀(q:eF),let h:=(q.1,i64.wrap (p.2.1+i),q.2.1,());(Ty.int i64).wf q.1/\UR q.2.1/\True->J q->I h/\n h<n p) ((e<=e/\e<=p.1/\p.1<=c)/\(Ir x.1->List.drop k (List.take g p.2.2.1)=x.1)/\(¬Ir x.1->Ir (List.drop k (List.take g p.2.2.1))/\(∀(j:Int),A5 (List.drop k (List.take g p.2.2.1)) j=A5 x.1 j)/\(List.drop k (List.take g p.2.2.1)).length<=(20:Nat)/\VZ (16777216:Nat) (List.drop k (List.take g p.2.2.1)))))))
def YG {a b:List D6} (h:a.Perm b) (j:Int):A5 a j=A5 b j:=by
 induction h with
 |nil=>rfl
 |cons e _ c=>rw[A5,A5,c]
 |swap e f l=>simp only[A5];rw[<-yE, <-yE,g4d (if f.1=j then rv f.2 else 0)]
 |trans _ _ c d=>rw[c,d]
def YF (e:D6) (j:Int):A5 [e] j=if e.1=j then rv e.2 else 0:=by
 simp only[A5,rL]
structure PY (o:List D6) (n i:Int) (c:List D6):Prop where
 n0:0<=n
 ni:n<=i
 il:i<=(o.length:Int)
 cl:c.length=o.length
 rest:∀j:Nat,i.toNat<=j->c.getD j F3=o.getD j F3
 ord:Ir (c.take n.toNat)
 cm:∀j,A5 (c.take n.toNat) j=A5 (o.take i.toNat) j
 le:∀e∈c.take n.toNat,∃y∈o.take i.toNat,y.1=e.1
 szs:∀e∈c.take n.toNat,sz (65537*i.toNat) e.2/\Av e.2
def PY.init (o:List D6):PY o 0 0 o:=⟨qG _,qG _,qD _,rfl,fun _ _=>rfl,List.Pairwise.nil,fun _=>rfl,fun e a=>(by cases a),fun e a=>(by cases a)⟩
def JD {a:Type} {l:List a} {k:Nat} {x:a} (h:k<l.length):(l.set k x).take (k+1)=l.take k++ [x]:=by
 rw[rP,yW (qZ k),tC h];rfl
def Yc {a:Type} {l:List a} {k:Nat} (d:a) (h:k<l.length):l.take (k+1)=l.take k++ [l.getD k d]:=by
 rw[rP,qO h,G5 _ _ h];rfl
variable {o c:List D6} {n i:Int}
def PY.bound (h:PY o n i c) (j:o.Pairwise fun a b=>a.1<=b.1) (r:i<(o.length:Int)):∀e∈c.take n.toNat,e.1<=(o.getD i.toNat F3).1:=fun e f=>by
 obtain⟨y,k,d⟩:=h.le e f;obtain⟨l,g,rfl⟩:=uA.1 k;rw[qU]at g;rw[g1f]at d;have s:=h.n0;have t:=h.ni;have:=tZ.1 j l i.toNat (by omega) (by omega) (by omega);rw[G5 _ _ (show i.toNat<o.length by omega), <-d];exact this
def PY.push (h:PY o n i c) (D:o.Pairwise fun a b=>a.1<=b.1) (G:VZ 65536 o) (y:CK o) (w:i<(o.length:Int)) (r:0<n->(c.getD (n-1).toNat F3).1≠(o.getD i.toNat F3).1):PY o (n+1) (i+1) (c.set n.toNat (o.getD i.toNat F3)):=by
 have A:=h.n0;have N:=h.ni;have v:=h.cl;have k:=h.bound D w;have f:(c.set n.toNat (o.getD i.toNat F3)).take (n+1).toNat=c.take n.toNat++ [o.getD i.toNat F3]:=by
  rw[show(n+1).toNat=n.toNat+1 from by omega];exact JD (by omega)
 have s:o.take (i+1).toNat=o.take i.toNat++ [o.getD i.toNat F3]:=by
  rw[show(i+1).toNat=i.toNat+1 from by omega];exact Yc F3 (by omega)
 have z:∀e∈c.take n.toNat,e.1<(o.getD i.toNat F3).1:=fun e d=>by
  have I:=k e d;have B:0<n:=by
   rcases Int.lt_or_eq_of_le A with g|g
   . exact g
   . rw[<-g]at d;cases d
  have x:(n-1).toNat<c.length:=by omega
  have t:c.take n.toNat=c.take (n-1).toNat++ [c.getD (n-1).toNat F3]:=by
   rw[show n.toNat=(n-1).toNat+1 from by omega];exact Yc F3 x
  have M:=k (c.getD (n-1).toNat F3) (by rw[t];simp);have r:=r B;have j:=h.ord;rw[t]at d j;rcases rA.1 d with d|d
  . have:=(tW.1 j).2.2 e d _ (qR.2 rfl);omega
  . rw[qR]at d;subst d;omega
 have l:o.getD i.toNat F3∈o:=B4 (by omega);refine⟨by omega,by omega,by omega,by rw[qJ];exact v,fun u J=> ?_, ?_,fun u=> ?_,fun e d=> ?_,fun e d=> ?_⟩
 . rw[qF,tI (by omega), <-qF];exact h.rest u (by omega)
 . rw[f];exact nV h.ord z
 . rw[f,s,O2,O2,h.cm]
 . rw[f]at d;rw[s];rcases rA.1 d with d|d
   . obtain⟨H,E,F⟩:=h.le e d;exact⟨H,sM _ E,F⟩
   . rw[qR]at d;subst d;exact⟨_,tJ _ (qR.2 rfl),rfl⟩
 . rw[f]at d;rcases rA.1 d with d|d
   . exact⟨F5 (h.szs e d).1 (by omega),(h.szs e d).2⟩
   . rw[qR]at d;subst d;exact⟨F5 (G _ l) (by omega),y _ l⟩
def PY.add (h:PY o n i c) (O:VZ 65536 o) (G:CK o) (W:i<(o.length:Int)) (Z:0<n) (r:(c.getD (n-1).toNat F3).1=(o.getD i.toNat F3).1):sz (65537*i.toNat) (c.getD (n-1).toNat F3).2/\sz 65536 (o.getD i.toNat F3).2/\PY o n (i+1) (c.set (n-1).toNat ((c.getD (n-1).toNat F3).1,rc (rv (c.getD (n-1).toNat F3).2+rv (o.getD i.toNat F3).2))):=by
 have a0:=h.ni;have F:=h.cl;have s:(n-1).toNat<c.length:=by omega
 have w:c.take n.toNat=c.take (n-1).toNat++ [c.getD (n-1).toNat F3]:=by
  rw[show n.toNat=(n-1).toNat+1 from by omega];exact Yc F3 s
 have v:o.take (i+1).toNat=o.take i.toNat++ [o.getD i.toNat F3]:=by
  rw[show(i+1).toNat=i.toNat+1 from by omega];exact Yc F3 (by omega)
 have H:c.getD (n-1).toNat F3∈c.take n.toNat:=by rw[w];simp
 have u:o.getD i.toNat F3∈o:=B4 (by omega);obtain⟨A,T⟩:=h.szs _ H;have B:=O _ u;have U:=G _ u;refine⟨A,B, ?_⟩;have j:=h.ord;have l:=h.cm;have t:=h.le;have f:=h.szs;rw[w]at j l t f;have J:=h.rest;generalize Y:c.getD (n-1).toNat F3=z at*;generalize o.getD i.toNat F3=g at*;have d:∀x:D6,(c.set (n-1).toNat x).take n.toNat=c.take (n-1).toNat++ [x]:=fun x=>by
  rw[show n.toNat=(n-1).toNat+1 from by omega];exact JD s
 obtain⟨P,a1,Q⟩:=tW.1 j;have I:qs (65537*(i+1).toNat) (rv z.2+rv g.2):=by
  have a:1<=i.toNat:=by omega
  exact F8 (Sg (U4 T A (by omega)) (U4 U B (by decide))) (by omega)
 refine⟨h.n0,by omega,by omega,by rw[qJ];exact F,fun y X=> ?_, ?_,fun y=> ?_,fun e b=> ?_,fun e b=> ?_⟩
 . rw[qF,tI (by omega), <-qF];exact J y (by omega)
 . rw[d];exact tW.2 ⟨P,zJ _ _,fun D E V k=>by rw[qR]at k;subst k;exact Q D E z (qR.2 rfl)⟩
 . rw[d,v,O2,O2, <-l,O2,YF,YF,YF];simp only;rw[D7,r,yE];congr 1;split
   . rfl
   . rw[rL]
 . rw[d]at b;rw[v];rcases rA.1 b with a|a
   . obtain⟨R,M,N⟩:=t e (sM _ a);exact⟨R,sM _ M,N⟩
   . rw[qR]at a;subst a;exact⟨g,tJ _ (qR.2 rfl),r.symm⟩
 . rw[d]at b;rcases rA.1 b with a|a
   . exact⟨F5 (f e (sM _ a)).1 (by omega),(f e (sM _ a)).2⟩
   . rw[qR]at a;subst a;exact⟨Vm I,WO _⟩
def FR (x:A2 Bp.args) (a:awf Bp.args x) (_:Bp.pre x):Ru x:=by
 simp only[Ru,Cw];exact⟨trivial,fun r _ h=>h⟩
def Dm (x:A2 F6.args) (a1:awf F6.args x) (P:F6.pre x):T5 x:=by
 obtain⟨l,a,b,⟨T,g⟩,_⟩:=x;change List (Int×(Bool×Xr)×Xr)at l;change Int at a b;obtain⟨⟨O,R,N⟩,V,W,X,Z⟩:CP T g/\0<=a/\a<=b/\b<=(l.length:Int)/\l.length<=100000:=P;simp only[T5,iB];have Q:∀x y z:D6,¬g (y,x,())<0->¬g (z,y,())<0->¬g (z,x,())<0:=fun x y z v f=>R z y x f v
 refine⟨fun p=>a+1<=p.1/\(p.1<=b\/p.1=a+1)/\p.2.1.Perm l/\p.2.1.take a.toNat=l.take a.toNat/\p.2.1.drop b.toNat=l.drop b.toNat/\(∀s t,a.toNat<=s->s<t->t<p.1.toNat->t<b.toNat->¬g (p.2.1.getD t F3,p.2.1.getD s F3,())<0),fun p=>(b-p.1).toNat, ?_, ?_⟩
 . rw[wv (by omega)];refine⟨qG _, .inr rfl,wQ _,rfl,rfl,fun s t v f k w=> ?_⟩;change t<(a+1).toNat at k;omega
 rintro⟨i,m,_⟩ _ ⟨M,v,f,k,w,E⟩;change Int at i;change List (Int×(Bool×Xr)×Xr)at m;simp only at M v f k w E⊢;have a0:=f.length_eq;refine⟨fun h=> ?_,fun h=> ?_⟩
 . have h:=qA h;refine⟨fun p=>a<=p.1/\p.1<=i/\p.2.1.Perm l/\p.2.1.take a.toNat=l.take a.toNat/\p.2.1.drop b.toNat=l.drop b.toNat/\B4f (fun x y=>¬g (y,x,())<0) F3 p.2.1 a.toNat i.toNat p.1.toNat,fun p=>(p.1-a).toNat,⟨by show a<=i;omega,qG _,f,k,w,A3f fun s t n o r=>E s t n o r (by omega)⟩, ?_⟩;rintro⟨j,y,_⟩ _ ⟨I,J,u,A,B,D⟩;change Int at j;change List (Int×(Bool×Xr)×Xr)at y;simp only at I J u A B D⊢;have a2:=u.length_eq;have H:i64.wrap (j-1)=j-1:=wv (by omega);rw[H];have G:(j-1).toNat=j.toNat-1:=by omega
   rw[G];refine⟨fun F=>⟨by omega,by omega⟩,fun F=> ?_,trivial,fun _=>O _ _,fun _=>⟨fun c=> ?_,fun c=> ?_⟩⟩
   . have F:=qA F;exact⟨by omega,by omega⟩
   . rw[J6]at c;simp only[qC,rT]at c;obtain⟨a4,U⟩:=c;refine⟨⟨by omega,by omega⟩,⟨by omega,by omega⟩,⟨by omega,by omega⟩,⟨by omega,by rw[qJ];omega⟩,⟨by omega,by omega, ?_, ?_, ?_, ?_⟩,by omega⟩
     . exact(A4r (d:=F3) (l:=y) (j:=j.toNat) (by omega)).trans u
     . exact(A4s (d:=F3) (l:=y) (by omega)).trans A
     . exact(A4q (d:=F3) (l:=y) (by omega)).trans B
     . exact A8v D (by omega) (by omega) (by omega) (N _ _ U)
   . rw[J6]at c;simp only[xF,rR]at c;rw[wv (by omega)];refine⟨⟨by omega, .inl (by omega),u,A,B,fun s t n o r a3=> ?_⟩,by omega⟩;refine B4g D Q (by omega) (fun Y=> ?_) s t n o (by change t<(i+1).toNat at r;omega);rcases c with c|c
     . omega
     . exact c
 . have h:=qB h;refine⟨trivial,f,k,w, ?_⟩;unfold AP;have:=aR (q:=fun x y=>¬g (y,x,())<0) (d:=F3) (l:=m) (a:=a.toNat) (b:=b.toNat) (by omega) fun s t n o r=>E s t n o (by omega) r
   exact this
def Io (x:A2 I0.args) (O:awf I0.args x) (j:I0.pre x):Bv x:=by
 obtain⟨l,n,⟨G,c⟩,_⟩:=x;change List (Int×(Bool×Xr)×Xr)at l;change Int at n;obtain⟨u,N,J⟩:CP G c/\n=(l.length:Int)/\l.length<=20:=j;simp only[Bv,iB,mE];refine⟨fun p=>(p.1=0/\p.2.1=20/\p.2.2.1=l)\/(p.1=20/\p.2.1=40/\n=20/\p.2.2.1.Perm l/\AP c p.2.2.1),fun p=>(40-p.2.1).toNat, .inl ⟨rfl,rfl,rfl⟩, ?_⟩;rintro⟨b,r,m,_⟩ _ i;change Int at b r;change List (Int×(Bool×Xr)×Xr)at m;simp only at i⊢;refine⟨fun h=> ?_,fun h=> ?_⟩
 . have h:=qA h;obtain⟨rfl,rfl,rfl⟩:b=0/\r=20/\m=l:=by
    rcases i with s| ⟨_,s,_⟩
    . exact s
    . omega
   refine⟨trivial,trivial,⟨u,qG _,by omega,by omega,by omega⟩, ?_⟩;rintro H ⟨o,_⟩ _ _ _ ⟨d,f,k,a⟩;simp only at d f k a⊢;rw[wv (by omega)];refine⟨.inr ⟨by trivial,by trivial,by omega,d, ?_⟩,by simp⟩;have B:=d.length_eq;change AP c ((o.drop 0).take (20-0))at a;rw[tV,qX (by omega)]at a;exact a
 . have h:=qB h;have A:0<=b/\b<=n/\m.Perm l/\(b=0\/b=n/\AP c m):=by
    rcases i with⟨rfl,rfl,rfl⟩ | ⟨rfl,rfl,I,j,s⟩
    . exact⟨qG _,by omega,wQ _, .inl rfl⟩
    . exact⟨by decide,by omega,j, .inr ⟨by omega,s⟩⟩
   obtain⟨E,F,z,g⟩:=A;have M:=z.length_eq;refine⟨trivial,trivial,⟨u,E,F,by omega,by omega⟩, ?_⟩;rintro H ⟨o,_⟩ _ _ _ ⟨d,f,k,a⟩;simp only at d f k a⊢;have B:=d.length_eq;have D:AP c o:=by
    rcases g with g| ⟨g,s⟩
    . change AP c ((o.drop b.toNat).take (n.toNat-b.toNat))at a;rw[g]at a;change AP c ((o.drop 0).take (n.toNat-0))at a;rw[tV,qX (by omega)]at a;exact a
    . rw[qX (by omega),qX (by omega)]at f;rw[f];exact s
   refine⟨fun p=>p.1=20/\p.2.1.Perm l/\AP c p.2.1,fun _=>0,⟨rfl,d.trans z,D⟩, ?_⟩;rintro⟨P,Q,_⟩ _ ⟨v,w,y⟩;simp only at v w y⊢;subst v;refine⟨fun t=> ?_,fun _=>⟨trivial,w,y⟩⟩;have t:=qA t;omega
def Dd (x:A2 F2.args) (g:awf F2.args x) (c:F2.pre x):R7 x:=by
 obtain⟨l,⟨d,f⟩,_⟩:=x;obtain⟨b,a⟩:CP d f/\l.length<=20:=c;simp only[R7];refine⟨trivial,trivial,⟨b,trivial,a⟩, ?_⟩;rintro r ⟨o,_⟩ _ _ _ h;exact⟨trivial,h⟩
def A0a:CP (fun _=>True) (fun z=>M0 z.1.1 z.2.1.1):=by
 refine⟨fun _ _=>trivial,fun a b c=> ?_,fun a b=> ?_⟩
 . simp only[M0];split<;>split<;>split<;>(try split)<;>(try split)<;>(try split)<;>omega
 . simp only[M0];split<;>split<;>(try split)<;>(try split)<;>omega
def B2m {a b:Int} :¬M0 a b<0↔b<=a:=by
 unfold M0;split
 . omega
 . split<;>omega
def FQ (x:A2 Bo.args) (V:awf Bo.args x) (r:Bo.pre x):Rt x:=by
 obtain⟨t,_⟩:=x;have Q:CK t:=NP V.1.2;change List D6 at t;have r:fF t:=r;simp only[Rt,iB,Cw,H4,Ni];refine⟨trivial, ?_⟩;rintro⟨X,_⟩ _ B;simp only at B⊢;subst B;refine⟨fun h=>⟨fun _=>by trivial,fun u=>absurd (qA h) u⟩,fun h=> ?_⟩;have w:=qB h;obtain⟨P,s⟩:=r.resolve_left w;refine⟨⟨by omega,by omega,by omega,by omega⟩,fun _=>True,fun z=>M0 z.1.1 z.2.1.1, ?_,⟨A0a, ?_⟩, ?_⟩
 . rintro⟨k,l,_⟩ _ _;refine⟨trivial, ?_⟩;rintro⟨z,_⟩ _ s;exact⟨(by trivial),s⟩
 . rw[QP];exact P
 rintro X ⟨o,_⟩ _ _ _ ⟨j,E⟩;change List D6 at o;simp only[QP]at j E⊢;have a4:=j.length_eq;have U:o.Pairwise fun k l=>k.1<=l.1:=E.imp fun {k l} b=>B2m.1 b
 have D:VZ 65536 o:=fun e f=>s e (j.mem_iff.1 f)
 have v:CK o:=fun e f=>Q e (j.mem_iff.1 f)
 refine⟨fun p=>PY o p.1 p.2.1 p.2.2.1,fun p=>((o.length:Int)-p.2.1).toNat,PY.init o, ?_⟩;rintro⟨n,i,c,_⟩ _ a;change Int at n i;change List D6 at c;simp only at a⊢;have I:=a.n0;have a2:=a.ni;have u:=a.il;have N:=a.cl;have g:(c.length:Int)=(o.length:Int):=by rw[N]
 refine⟨fun d=> ?_,fun d=> ?_⟩
 . have d:=qA d;have M:c.getD i.toNat F3=o.getD i.toNat F3:=a.rest _ (qZ _);have O:0<=i/\i<(c.length:Int):=⟨by omega,by rw[g];exact d⟩;have R:i64.wrap (n-1)=n-1:=wv (by omega);rw[R,M];refine⟨fun p=>PY o p.1 (i+1) p.2.1,⟨O,fun b=> ?_,fun b=> ?_,fun b=> ?_⟩, ?_⟩
   . have b:=qA b;exact⟨by omega,by rw[g];omega⟩
   . rw[J6]at b;simp only[qC,rT]at b;obtain⟨G,H⟩:=b;have y:0<=n-1/\n-1<(c.length:Int):=⟨by omega,by rw[g];omega⟩;obtain⟨Y,Z,a0⟩:=a.add D v d G H;refine⟨y,⟨J8 (F5 Y (show 65537*i.toNat<=2199023255552 by omega)) (qZ _),J8 Z (by decide)⟩, ?_⟩;rintro⟨q,_⟩ _ A;change C0 at q;simp only at A⊢;rw[A];exact⟨y,a0⟩
   . have T:0<n->(c.getD (n-1).toNat F3).1≠(o.getD i.toNat F3).1:=fun hn f=>by
      rw[J6,rD hn,rD f]at b;cases b
     rw[wv (by omega)];exact⟨⟨by omega,by rw[g];omega⟩,a.push U D v d T⟩
   . rintro⟨a5,a1,_⟩ _ J;simp only;rw[wv (by omega)];exact⟨J,by omega⟩
 . have d:=qB d;have a3:i=(o.length:Int):=by omega
   refine⟨⟨qG _,I,by rw[g];omega⟩,fun h=>absurd h w,fun _=> ?_⟩;have F:List.drop (Int.toNat 0) (List.take n.toNat c)=c.take n.toNat:=rfl;rw[F];refine⟨a.ord,fun W=> ?_, ?_,fun e f=>F5 (a.szs e f).1 (by omega)⟩
   . rw[a.cm,D4 (by omega)];exact YG j W
   . rw[qU];omega
def NE:An:= {loop:= [(5,⟨[1,6,14,15],[],[(16,false,vI)],[],[(0, .row tE 106)]⟩)]}
def Rs:A2 V3.args->Prop:=fun(x:List EE×Xr×Unit)=>let h:=(0:Int);let g:=(x.2.1.length:Int);let d:=(↑x.2.1.length:Int);let e:Prop:=(∀(j:Int),A5 x.1 j≠(0:Rat)->h<=j/\j<d);List.length x.2.1<=100000/\Ni fun r=>r.1=decide (N4 x.2.1 g)->(iB ((!r.1)) (N4 x.2.1 d->e->VO (fun(i:Int)=>if h<=i/\i<d then A5 x.1 (↑(List.idxOf i x.2.1):Int)else(0:Rat)) []/\false=true) (Qq x.1/\mE fun n=>VO (A5 x.1) n.1->∃(I:eF->Prop),∃(μ: _->Nat),I (h,n)/\∀(p:eF),let l:Prop:=(p.1<(n.1.length:Int));let k:Prop:=(h<=p.1/\p.1<(p.2.1.length:Int));let c:=(List.getD p.2.1 p.1.toNat F3);let m:=(decide (g<=c.1));let f:=(i64.wrap (p.1+1),List.set p.2.1 p.1.toNat (gx h x.2.1 c.1,c.2),());(Ty.int i64).wf p.1/\UR p.2.1/\True->I p->(iB (decide l) (k/\(iB (L8 (decide (c.1<h)) true m) (N4 x.2.1 d->e->VO (fun(i:Int)=>if h<=i/\i<d then A5 x.1 (↑(List.idxOf i x.2.1):Int)else(0:Rat)) []/\false=true) ((h<=c.1/\c.1<g)/\k/\I f/\μ f<μ p))) (List.length p.2.1<=100000/\∀(l':List EE),tE.sl.wf l'->l'.Perm p.2.1->List.Pairwise (fun(a b:Int×(Bool×Xr)×Xr)=>¬M0 b.1 a.1<h) l'->N4 x.2.1 d->e->VO (fun(i:Int)=>if h<=i/\i<d then A5 x.1 (↑(List.idxOf i x.2.1):Int)else(0:Rat)) l'/\true=true))))
abbrev T6:=List (Int×Bool)
def R8 (es:T6):Xr:=es.map fun e=>e.1
def gJ (k:Int) (v:Bool) (es:T6):(R8 es).Nodup->(R8 (Gr (.int .i64) k v es)).Nodup/\∀i,i∈R8 (Gr (.int .i64) k v es)↔i=k\/i∈R8 es:=by
 intro h;unfold R8 at*;rw[RN];by_cases a:k∈es.map fun e=>e.1
 . rw[qP a];exact⟨h,fun i=>⟨.inr,fun f=>f.elim (fun e=>e▸a) id⟩⟩
 . rw[qL a];refine⟨sX.2 ⟨h,by simp,fun g c j b d=> ?_⟩,fun i=> ?_⟩
   . rw[qR]at b;exact a (b▸d▸c)
   . rw[rA,qR];exact Or.comm
def gI (k:Int):∀(es:T6),(R8 es).Nodup->(R8 (Sb (.int .i64) k es)).Nodup/\∀i,i∈R8 (Sb (.int .i64) k es)↔i≠k/\i∈R8 es
 | [],h=>⟨h,fun i=>⟨fun a=>(by cases a),fun a=>(by cases a.2)⟩⟩
 |x::r,h=>by
  have d:=sG.1 (show(x.1::R8 r).Nodup from h);have e:Sb (.int .i64) k (x::r)=if k=x.1 then r else x::Sb (.int .i64) k r:=by
   rw[Sb,Ms];by_cases b:k=x.1
   . rw[qP b,rD b];rfl
   . rw[qL b,rE b];rfl
  rw[e];by_cases b:k=x.1
  . rw[qP b];refine⟨d.2,fun i=>⟨fun a=>⟨fun e=>d.1 (by rw[<-b, <-e];exact a),qM _ a⟩,fun a=> ?_⟩⟩;exact(qI.1 (show i∈x.1::R8 r from a.2)).resolve_left fun e=>a.1 (by rw[e,b])
  . rw[qL b];obtain⟨g,c⟩:=gI k r d.2;refine⟨sG.2 ⟨fun l=>d.1 ((c _).1 l).2,g⟩,fun i=> ?_⟩;constructor
    . intro a;rcases qI.1 (show i∈x.1::R8 (Sb (.int .i64) k r)from a)with rfl|a
      . exact⟨fun e=>b e.symm,rB⟩
      . exact⟨((c i).1 a).1,qM _ ((c i).1 a).2⟩
    . rintro⟨j,f⟩;rcases qI.1 (show i∈x.1::R8 r from f)with rfl|f
      . exact rB
      . exact qM _ ((c i).2 ⟨j,f⟩)
def Am (rows:List (List D6)) (i j:Nat):Rat:=A5 (rows.getD i []) (j:Int)
def C1j (n k:Nat) (p:Nat->Nat) (R:Nat->Nat->Rat) (j:Nat) (es:T6):Prop:=(R8 es).Nodup/\∀i:Int,i∈R8 es↔0<=i/\i<(n:Int)/\(∀a,a<k->i.toNat≠p a)/\R i.toNat j≠0
structure EI (n k:Nat) (S:Nat->Nat) (A:Nat->Nat->Rat) (rest P Q place:Xr) (rows lower:List (List D6)) (cols:List T6):Prop where
 elim:MI n k A (ix P) (ix Q) (Am rows) (Am lower)
 lP:P.length=n
 lQ:Q.length=n
 lpl:place.length=n
 lrows:rows.length=n
 llow:lower.length=n
 lcols:cols.length=n
 P0:∀a,a<k->P.getD a 0=(ix P a:Int)
 Q0:∀a,a<k->Q.getD a 0=(ix Q a:Int)
 pl:∀a,a<k->place.getD (ix Q a) 0=(a:Int)
 rnd:rest.Nodup
 rmem:∀c:Int,c∈rest↔0<=c/\c<(n:Int)/\∀a,a<k->c.toNat≠ix Q a
 can:∀i,i<n->Ae (rows.getD i [])/\(∀e∈rows.getD i [],0<=e.1/\e.1<(n:Int))/\∀j,qs (S k) (A5 (rows.getD i []) j)
 lcan:∀i,i<n->Ae (lower.getD i [])/\(∀e∈lower.getD i [],0<=e.1/\e.1<(k:Int))
 lq:∀i,i<n->∀j,qs (S k) (A5 (lower.getD i []) j)
 fin:∀a,a<k->∀j,qs (S a) (A5 (rows.getD (ix P a) []) j)
 col:∀j:Int,j∈rest->C1j n k (ix P) (Am rows) j.toNat (cols.getD j.toNat [])
def Cv {P:Xr} {k m:Nat} {v:Int} (h:m≠k):ix (P.set k v) m=ix P m:=by
 unfold ix;rw[qF,tI (Ne.symm h), <-qF]
def C9 {a:Type} {l:List a} {d v:a} {k m:Nat} (h:m≠k):(l.set k v).getD m d=l.getD m d:=by
 rw[qF,tI (Ne.symm h), <-qF]
def A9 {a:Type} {l:List a} {d v:a} {k:Nat} (h:k<l.length):(l.set k v).getD k d=v:=by
 rw[qF,tC h];rfl
def Sa {P:Xr} {k:Nat} {v:Int} (h:k<P.length):ix (P.set k v) k=v.toNat:=by
 unfold ix;rw[A9 h]
variable {n k:Nat} {S:Nat->Nat} {A:Nat->Nat->Rat} {rest P Q place:Xr} {rows lower:List (List D6)} {cols:List T6}
def AB (k:Nat) (p:Nat->Nat) (R:Nat->Nat->Rat) (r c i:Nat):Rat:=if i=r\/∃a,a<k/\i=p a then 0 else R i c/R r c
def B3h {p:Nat->Nat} {R:Nat->Nat->Rat} {r c:Nat} :AB k p R r c r=0:=qP (.inl rfl)
def B3g {p:Nat->Nat} {R:Nat->Nat->Rat} {r c a:Nat} (h:a<k):AB k p R r c (p a)=0:=qP (.inr ⟨a,h,rfl⟩)
def YS {p:Nat->Nat} {R:Nat->Nat->Rat} {r c i:Nat} (b:i≠r) (d:∀a,a<k->i≠p a):AB k p R r c i=R i c/R r c:=qL fun f=>f.elim b fun⟨a,ha,e⟩=>d a ha e
def EI.step (h:EI n k S A rest P Q place rows lower cols) {r c:Int} (M:c∈rest) (Y:r∈R8 (cols.getD c.toNat [])) {z:Xr} {t v:List (List D6)} {E:List T6}
 (a4:z.Nodup) (a5:∀x,x∈z↔x∈rest/\x≠c) (a0:t.length=n) (a1:v.length=n) (a2:E.length=n)
 (w:∀i,i<n->Ae (t.getD i [])/\(∀e∈t.getD i [],0<=e.1/\e.1<(n:Int))/\(∀j,qs (S (k+1)) (A5 (t.getD i []) j))/\∀j,A5 (t.getD i []) j=A5 (rows.getD i []) j-AB k (ix P) (Am rows) r.toNat c.toNat i*A5 (rows.getD r.toNat []) j)
 (G:∀i,i<n->v.getD i []=if AB k (ix P) (Am rows) r.toNat c.toNat i=0 then lower.getD i []else lower.getD i []++ [((k:Int),rc (AB k (ix P) (Am rows) r.toNat c.toNat i))])
 (Z:S k<=S (k+1)) (a9:∀i,i<n->qs (S (k+1)) (AB k (ix P) (Am rows) r.toNat c.toNat i))
 (a8:∀j:Int,j∈z->C1j n (k+1) (ix (P.set k r)) (Am t) j.toNat (E.getD j.toNat [])):
 EI n (k+1) S A z (P.set k r) (Q.set k c) (place.set c.toNat k) t v E:=by
 obtain⟨aa,c1,D⟩:=(h.rmem c).1 M;obtain⟨ab,X⟩:=h.col c M;obtain⟨ac,ad,a6,a7⟩:=(X r).1 Y;have o:k<n:=by
  rcases sE k n with N|N
  . exact N
  . obtain⟨a,l,e⟩:=Ft (n:=n) (q:=ix Q) (fun a l=>h.elim.qlt a (by omega)) (fun a b l hb=>h.elim.qinj a b (by omega) (by omega)) (show c.toNat<n by omega);exact absurd e.symm (D a (by omega))
 have y:∀m,m<k->m≠k:=fun m s=>tS s
 have R:∀i,i<n->∀m:Nat,Am v i m=Am lower i m+if m=k then AB k (ix P) (Am rows) r.toNat c.toNat i else 0:=fun i d m=>by
  show A5 (v.getD i []) (m:Int)=A5 (lower.getD i []) (m:Int)+ _;rw[G i d];by_cases u:AB k (ix P) (Am rows) r.toNat c.toNat i=0
  . rw[qP u,u];split<;>rw[rL]
  . rw[qL u,Ha];congr 1;by_cases s:m=k
    . subst s;rw[qP rfl,qP rfl]
    . rw[qL s,qL (by omega)]
 have a3:∀i,i<n->Am lower i k=0:=fun i d=>E3 fun e f W=>by
  have:=(h.lcan i d).2 e f;omega
 refine⟨h.elim.step (r:=r.toNat) (c:=c.toNat) (fac:=AB k (ix P) (Am rows) r.toNat c.toNat) o (by omega) (by omega) a6 D a7 (fun m s=>Cv (y m s)) (Sa (by rw[h.lP];exact o)) (fun m s=>Cv (y m s)) (Sa (by rw[h.lQ];exact o)) (fun i _ U V=>YS U V) B3h (fun a l=>B3g l) (fun i j d _=>(w i d).2.2.2 j) (fun i m d s=> ?_) (fun i d=> ?_), ?_, ?_, ?_,a0,a1,a2,fun a l=> ?_,fun a l=> ?_,fun a l=> ?_,a4,fun x=> ?_,fun i d=>⟨(w i d).1,(w i d).2.1,(w i d).2.2.1⟩,fun i d=> ?_,fun i d j=> ?_,fun a l j=> ?_,a8⟩
 . rw[R i d,qL (y m s),rL]
 . rw[R i d,qP rfl,a3 i d,tG]
 . rw[qJ];exact h.lP
 . rw[qJ];exact h.lQ
 . rw[qJ];exact h.lpl
 . by_cases g:a=k
   . subst g;rw[A9 (by rw[h.lP];exact o),Sa (by rw[h.lP];exact o)];omega
   . rw[C9 g,Cv g];exact h.P0 a (by omega)
 . by_cases g:a=k
   . subst g;rw[A9 (by rw[h.lQ];exact o),Sa (by rw[h.lQ];exact o)];omega
   . rw[C9 g,Cv g];exact h.Q0 a (by omega)
 . by_cases g:a=k
   . subst g;rw[Sa (by rw[h.lQ];exact o),A9 (by rw[h.lpl];omega)]
   . rw[Cv g,C9 (fun e=>D a (by omega) e.symm)];exact h.pl a (by omega)
 . rw[a5,h.rmem];constructor
   . rintro⟨⟨H,I,B⟩,ae⟩;refine⟨H,I,fun a l=> ?_⟩;by_cases g:a=k
     . subst g;rw[Sa (by rw[h.lQ];exact o)];omega
     . rw[Cv g];exact B a (by omega)
   . rintro⟨H,I,B⟩;refine⟨⟨H,I,fun a l=>by have:=B a (by omega);rwa[Cv (y a l)]at this⟩,fun e=> ?_⟩;have:=B k (rW _);rw[Sa (by rw[h.lQ];exact o),e]at this;exact this rfl
 . rw[G i d];obtain⟨J,F⟩:=h.lcan i d;split
   . exact⟨J,fun e f=>by have:=F e f;omega⟩
   . rename_i u;refine⟨Nc J u fun e f=>(F e f).2,fun e f=> ?_⟩;rcases rA.1 f with f|f
     . have:=F e f;omega
     . rw[qR]at f;subst f;simp only;omega
 . rw[G i d];have T:=F8 (h.lq i d j) Z;split
   . exact T
   . rw[Ha];by_cases O:(k:Int)=j
     . rw[qP O,E3 fun e f W=>by have:=(h.lcan i d).2 e f;omega,tG];exact a9 i d
     . rw[qL O,rL];exact T
 . have f:∀i,i<n->AB k (ix P) (Am rows) r.toNat c.toNat i=0->A5 (t.getD i []) j=A5 (rows.getD i []) j:=fun i d h0=>by
    rw[(w i d).2.2.2 j,h0,sZ,tH,wP,rL]
   by_cases g:a=k
   . subst g;rw[Sa (by rw[h.lP];exact o),f _ (by omega) B3h];exact(h.can r.toNat (by omega)).2.2 j
   . rw[Cv g,f _ (h.elim.plt a (by omega)) (B3g (by omega))];exact h.fin a (by omega) j
def EI.stuck (h:EI n k S A rest P Q place rows lower cols) {c:Int} (a:c∈rest) (f:cols.getD c.toNat []= []):¬nonsing n A:=by
 obtain⟨l,c1,b⟩:=(h.rmem c).1 a;obtain⟨_,g⟩:=h.col c a;refine h.elim.stuck (c:=c.toNat) (by omega) b fun i o d=>qQ fun j=> ?_
 have:=(g (i:Int)).2 ⟨qD _,by omega,d,j⟩;rw[f]at this;cases this
variable {n:Nat} {S:Nat->Nat} {A:Nat->Nat->Rat} {rest P Q place:Xr} {rows lower:List (List D6)} {cols:List T6}
def A4c {P:Xr} (l:P.length=n) (f:∀a,a<n->P.getD a 0=(ix P a:Int)) (o:∀a,a<n->ix P a<n) (g:∀a b,a<n->b<n->ix P a=ix P b->a=b):N4 P (n:Int):=by
 have d:∀a (c:a<P.length),P[a]=(ix P a:Int):=fun a c=>by
  rw[<-f a (by omega),qF,qO c];rfl
 refine⟨by rw[l],fun i r=> ?_,tZ.2 fun i j h k s e=> ?_⟩
 . obtain⟨a,c,rfl⟩:=uA.1 r;have:=o a (by omega);rw[d a c];omega
 . rw[d i h,d j k]at e;have:=g i j (by omega) (by omega) (by omega);omega
def EI.places (h:EI n n S A rest P Q place rows lower cols):N4 place (n:Int)/\∀b,b<n->List.idxOf (b:Int) place=ix Q b:=by
 have d:∀j,j<n->∃b,b<n/\ix Q b=j/\place.getD j 0=(b:Int):=fun j a=>by
  obtain⟨b,c,e⟩:=Ft h.elim.qlt h.elim.qinj a;exact⟨b,c,e,by rw[<-e];exact h.pl b c⟩
 have l:∀j (a:j<place.length),place[j]=place.getD j 0:=fun j a=>by
  rw[qF,qO a];rfl
 refine⟨A4c h.lpl (fun j a=> ?_) (fun j a=> ?_) (fun i j f a e=> ?_),fun b c=> ?_⟩
 . obtain⟨b,c,_,e⟩:=d j a;unfold ix;rw[e];omega
 . obtain⟨b,c,_,e⟩:=d j a;unfold ix;rw[e];omega
 . obtain⟨b,c,g,k⟩:=d i f;obtain⟨f,s,o,r⟩:=d j a;unfold ix at e;rw[k,r]at e;have:b=f:=by omega
   rw[<-g, <-o,this]
 . have o:(b:Int)∈place:=by
    have a:=h.pl b c;have j:ix Q b<place.length:=by rw[h.lpl];exact h.elim.qlt b c
    rw[<-a, <-l _ j];exact wM j
   have a:=yJ o;have c:place[List.idxOf (b:Int) place]=(b:Int):=g0t a;obtain⟨f,s,g,k⟩:=d (List.idxOf (b:Int) place) (by rw[<-h.lpl];exact a);rw[l _ a,k]at c;have:f=b:=by omega
   rw[<-g,this]
def EI.done (h:EI n n S A rest P Q place rows lower cols) (M:n<=16384) {L U:List (List D6)} (B:L.length=n) (D:U.length=n)
 (u:∀a,a<n->L.getD a []=lower.getD (ix P a) []++ [((a:Int),rc 1)])
 (v:∀a,a<n->VO (fun i=>if 0<=i/\i<(n:Int)then A5 (rows.getD (ix P a) []) ((List.idxOf i place:Nat):Int)else 0) (U.getD a [])):
 Bz (P,Q,((n:Int),(n:Int),L),((n:Int),(n:Int),U)) (n:Int)/\∀i j,i<n->j<n->luM (P,Q,((n:Int),(n:Int),L),((n:Int),(n:Int),U)) n i j=A (ix P i) (ix Q j):=by
 obtain⟨_,y⟩:=h.places;have o:∀a m,a<n->el ((n:Int),(n:Int),L) a m=Am lower (ix P a) m+if m=a then 1 else 0:=fun a m d=>by
  show A5 (L.getD a []) (m:Int)=A5 (lower.getD (ix P a) []) (m:Int)+ _;rw[u a d,Ha];congr 1;by_cases l:m=a
  . rw[qP l,qP (by omega)]
  . rw[qL l,qL (by omega)]
 have r:∀a g,a<n->g<n->el ((n:Int),(n:Int),U) a g=Am rows (ix P a) (ix Q g):=fun a g d hb=>by
  show A5 (U.getD a []) (g:Int)=A5 (rows.getD (ix P a) []) _;rw[(v a d).2, <-y g hb];exact qP ⟨qD _,by omega⟩
 have x:=h.elim.plt;have F:∀a,a<n->N0 (L.getD a []) (n:Int):=fun a d=>by
  rw[u a d];obtain⟨k,s⟩:=h.lcan _ (x a d);have z:∀e∈lower.getD (ix P a) [],e.1<(a:Int):=fun e b=>by
   refine qQ fun H=>(k.2 e b).1 ?_
   have G:=s e b;have:=h.elim.low a e.1.toNat d (by omega) (by omega);unfold Am at this;rw[show((e.1.toNat:Nat):Int)=e.1 from by omega,R9 k.1 b]at this;exact this
  have w:=Nc (q:=1) k (by decide) z;refine⟨w.1,fun e b=>⟨?_, ?_,(w.2 e b).1⟩⟩
  . rcases rA.1 b with b|b
    . exact(s e b).1
    . rw[qR]at b;subst b;exact qD _
  . rcases rA.1 b with b|b
    . exact(s e b).2
    . rw[qR]at b;subst b;simp only;omega
 have vU:∀a,a<n->N0 (U.getD a []) (n:Int):=fun a d=>by
  obtain⟨k,w⟩:=v a d;have s:∀e∈U.getD a [],0<=e.1/\e.1<(n:Int):=fun e b=>qQ fun hh=>(k.2 e b).1 (by rw[<-R9 k.1 b,w];exact qL hh)
  exact⟨k.1,fun e b=>⟨(s e b).1,(s e b).2,(k.2 e b).1⟩⟩
 refine⟨⟨A4c h.lP h.P0 h.elim.plt h.elim.pinj,A4c h.lQ h.Q0 h.elim.qlt h.elim.qinj,⟨rfl,rfl,qD _,by show(n:Int)<=16384;omega,qD _,by show(n:Int)<=16384;omega,by show(L.length:Int)=(n:Int);omega,fun E t=> ?_⟩,⟨rfl,rfl,qD _,by show(n:Int)<=16384;omega,qD _,by show(n:Int)<=16384;omega,by show(U.length:Int)=(n:Int);omega,fun E t=> ?_⟩,fun i j c f=> ?_⟩,fun i j c f=> ?_⟩
 . obtain⟨a,d,rfl⟩:=P3 [] t;exact F a (by rw[<-B];exact d)
 . obtain⟨a,d,rfl⟩:=P3 [] t;exact vU a (by rw[<-D];exact d)
 . have c:i<n:=by omega
   have f:j<n:=by omega
   refine⟨fun I=> ?_, ?_,fun J=> ?_, ?_⟩
   . show el ((n:Int),(n:Int),L) i j=0;rw[o i j c,h.elim.low i j c f (by omega),qL (by omega),rL]
   . show el ((n:Int),(n:Int),L) i i=1;rw[o i i c,h.elim.low i i c c (qZ _),qP rfl,tG]
   . show el ((n:Int),(n:Int),U) i j=0;rw[r i j c f];exact h.elim.zero j (ix P i) f (x i c) fun a d e=>by have:=h.elim.pinj i a c (by omega) e;omega
   . show el ((n:Int),(n:Int),U) i i≠0;rw[r i i c c];exact h.elim.piv i c
 . rw[h.elim.prod c f];unfold luM;refine B6 fun m l=> ?_
   show el ((n:Int),(n:Int),L) i m*el ((n:Int),(n:Int),U) m j= _;rw[o i m c,r m j l f]
def EI.sizes (h:EI n n S A rest P Q place rows lower cols) (b:∀a,1<=S a) {L U:List (List D6)}
 (d:∀a,a<n->L.getD a []=lower.getD (ix P a) []++ [((a:Int),rc 1)])
 (f:∀a,a<n->VO (fun i=>if 0<=i/\i<(n:Int)then A5 (rows.getD (ix P a) []) ((List.idxOf i place:Nat):Int)else 0) (U.getD a [])) {R C:Int} {i:Nat} (hi:i<n) (j:Nat):qs (S n) (el (R,C,L) i j)/\qs (S i) (el (R,C,U) i j):=by
 constructor
 . show qs (S n) (A5 (L.getD i []) (j:Int));rw[d i hi,Ha];by_cases g:i=j
   . subst g;have c:A5 (lower.getD (ix P i) []) (i:Int)=0:=h.elim.low i i hi hi (qZ _);rw[qP rfl,c,tG];exact aX (b n)
   . rw[qL (by omega),rL];exact h.lq _ (h.elim.plt i hi) _
 . show qs (S i) (A5 (U.getD i []) (j:Int));rw[(f i hi).2];dsimp only;split
   . exact h.fin i hi _
   . exact N3 (b i)
def EI.cans (h:EI n n S A rest P Q place rows lower cols) {L U:List (List D6)} (l:L.length=n) (o:U.length=n)
 (j:∀a,a<n->L.getD a []=lower.getD (ix P a) []++ [((a:Int),rc 1)])
 (k:∀a,a<n->VO (fun i=>if 0<=i/\i<(n:Int)then A5 (rows.getD (ix P a) []) ((List.idxOf i place:Nat):Int)else 0) (U.getD a [])):(∀v∈L,Ae v)/\∀v∈U,Ae v:=by
 constructor
 . intro v f;obtain⟨a,b,rfl⟩:=P3 [] f;have b:a<n:=by rw[<-l];exact b
   rw[j a b];obtain⟨c,g⟩:=h.lcan _ (h.elim.plt a b);refine Nc c (by decide) fun e d=>qQ fun s=>(c.2 e d).1 ?_
   have r:=g e d;have:=h.elim.low a e.1.toNat b (by omega) (by omega);unfold Am at this;rw[show((e.1.toNat:Nat):Int)=e.1 from by omega,R9 c.1 d]at this;exact this
 . intro v f;obtain⟨a,b,rfl⟩:=P3 [] f;exact(k a (by rw[<-o];exact b)).1
variable {n:Nat} {S:Nat->Nat} {rest P Q place:Xr} {rows lower:List (List D6)} {cols:List T6}
def kH (t:Int) (F:Nat->Int->Rat) (v:List D6) (j:Int) (es:T6):Prop:=(R8 es).Nodup/\∀i:Int,i∈R8 es↔(0<=i/\i<t/\F i.toNat j≠0)\/(i=t/\∃e∈v,e.1=j)
def B2s {t j:Int} {F:Nat->Int->Rat} {v:List D6} {es:T6} {b:Bool} {e:D6} (h:kH t F v j es) (d:e.1=j):kH t F (v++ [e]) j (Gr (.int .i64) t b es):=by
 obtain⟨a,c⟩:=gJ t b es h.1;refine⟨a,fun i=> ?_⟩;rw[c,h.2];constructor
 . rintro(hh|hh| ⟨hh,x,a,c⟩)
   . exact .inr ⟨hh,e,by simp,d⟩
   . exact .inl hh
   . exact .inr ⟨hh,x,sM _ a,c⟩
 . rintro(hh| ⟨hh,x,a,c⟩)
   . exact .inr (.inl hh)
   . exact .inl hh
def A8i {t j:Int} {F:Nat->Int->Rat} {v:List D6} {es:T6} {e:D6} (h:kH t F v j es) (b:e.1≠j):kH t F (v++ [e]) j es:=by
 refine⟨h.1,fun i=> ?_⟩;rw[h.2];refine g3f yH (g4v yH ⟨fun⟨x,a,hxj⟩=>⟨x,sM _ a,hxj⟩,fun⟨x,a,hxj⟩=> ?_⟩);rcases rA.1 a with a|a
 . exact⟨x,a,hxj⟩
 . rw[qR]at a;subst a;exact absurd hxj b
def A8h {t j:Int} {F:Nat->Int->Rat} {v:List D6} {es:T6} {m:Int} (h:kH t F v j es) (l:0<=t) (f:N0 v m) (d:F t.toNat=A5 v):kH (t+1) F [] j es:=by
 refine⟨h.1,fun i=> ?_⟩;rw[h.2];constructor
 . rintro(⟨c,g,a⟩ | ⟨rfl,e,b,rfl⟩)
   . exact .inl ⟨c,by omega,a⟩
   . refine .inl ⟨l,by omega, ?_⟩;rw[d,R9 f.1 b];exact(f.2 e b).2.2
 . rintro(⟨c,g,a⟩ | ⟨_,e,b,_⟩)
   . by_cases k:i=t
     . subst k;rw[d]at a;exact .inr ⟨rfl,GD a⟩
     . exact .inl ⟨c,by omega,a⟩
   . cases b
def EI.start {F:Nat->Int->Rat} {A:Nat->Nat->Rat} (E:∀i j,i<n->j<n->A i j=F i (j:Int)) (V:rest.length=n) (G:∀i,i<n->rest.getD i 0=(i:Int))
 (M:P.length=n) (N:Q.length=n) (O:place.length=n) (H:rows.length=n) (I:lower.length=n) (J:cols.length=n)
 (w:∀i,i<n->VO (F i) (rows.getD i [])) (R:∀i (j:Int),i<n->F i j≠0->0<=j/\j<(n:Int)) (D:∀i j,i<n->qs (S 0) (F i j)) (B:∀i,i<n->lower.getD i []= [])
 (T:∀j:Int,0<=j->j<(n:Int)->kH (n:Int) F [] j (cols.getD j.toNat [])):EI n 0 S A rest P Q place rows lower cols:=by
 have d:∀a,¬a<0:=fun a=>uY a
 have r:∀i (b:i<rest.length),rest[i]=(i:Int):=fun i b=>by
  rw[<-G i (by omega),qF,qO b];rfl
 refine⟨⟨rM _,fun a h=>absurd h (d a),fun a h=>absurd h (d a),fun a _ h=>absurd h (d a),fun a _ h=>absurd h (d a),fun i j b s=> ?_,fun a _ h=>absurd h (d a),fun a h=>absurd h (d a),fun a _ h=>absurd h (d a)⟩,M,N,O,H,I,J,fun a h=>absurd h (d a),fun a h=>absurd h (d a),fun a h=>absurd h (d a),tZ.2 fun i j b s U e=> ?_,fun c=>⟨fun v=> ?_,fun v=> ?_⟩,fun i b=> ?_,fun i b=> ?_,fun i b j=> ?_,fun a o=>absurd o (d a),fun j s=> ?_⟩
 . rw[B7,tG,E i j b s];exact((w i b).2 _).symm
 . rw[r i b,r j s]at e;omega
 . obtain⟨i,b,rfl⟩:=uA.1 v;rw[r i b];exact⟨qD _,by omega,fun a o=>absurd o (d a)⟩
 . obtain⟨f,g,_⟩:=v;have z:c.toNat<rest.length:=by omega
   have:=r _ z;rw[show((c.toNat:Nat):Int)=c from by omega]at this;rw[<-this];exact wM z
 . obtain⟨l,t⟩:=w i b;exact⟨l,fun e k=>R i e.1 b (by rw[<-t,R9 l.1 k];exact(l.2 e k).1),fun j=>by rw[t];exact D i j b⟩
 . rw[B i b];exact⟨BQ,fun e k=>by cases k⟩
 . rw[B i b,Tn];exact N3 (A4f (D i j b))
 . have y:0<=j/\j<(n:Int):=by
    obtain⟨i,b,rfl⟩:=uA.1 s;rw[r i b];omega
   obtain⟨l,t⟩:=T j y.1 y.2;refine⟨l,fun i=> ?_⟩;rw[t];have x:∀i:Int,0<=i->i<(n:Int)->Am rows i.toNat j.toNat=F i.toNat j:=fun i f g=>by
    show A5 (rows.getD i.toNat []) ((j.toNat:Nat):Int)= _;rw[(w i.toNat (by omega)).2,show((j.toNat:Nat):Int)=j from by omega]
   constructor
   . rintro(⟨f,g,u⟩ | ⟨_,e,k,_⟩)
     . exact⟨f,g,fun a o=>absurd o (d a),by rw[x i f g];exact u⟩
     . cases k
   . rintro⟨f,g,_,u⟩;exact .inl ⟨f,g,by rw[x i f g]at u;exact u⟩
def oE (Bs:Int->Int->Prop) (i:Int) (vs:List D6) (j:Int) (es:T6):Prop:=(R8 es).Nodup/\∀x:Int,x∈R8 es↔Bs j x/\¬(x=i/\∃e∈vs,e.1=j)
def oD (Bs:Int->Int->Prop) (i:Int) (vs:List D6) (j:Int) (es:T6):Prop:=(R8 es).Nodup/\∀x:Int,x∈R8 es↔Bs j x\/(x=i/\∃e∈vs,e.1=j)
variable {Bs:Int->Int->Prop} {i j:Int} {vs:List D6} {es:T6} {e:D6}
def oF (h:(R8 es).Nodup/\∀x,x∈R8 es↔Bs j x):oE Bs i [] j es:=⟨h.1,fun x=>by rw[h.2];exact⟨fun a=>⟨a,fun⟨_,e,he,_⟩=>by cases he⟩,fun a=>a.1⟩⟩
def B2p (h:(R8 es).Nodup/\∀x,x∈R8 es↔Bs j x):oD Bs i [] j es:=⟨h.1,fun x=>by rw[h.2];exact⟨.inl,fun a=>a.elim id fun⟨_,e,he,_⟩=>by cases he⟩⟩
def Ws (a:e.1=j):∃y∈vs++ [e],y.1=j:=⟨e,by simp,a⟩
def YR (b:e.1≠j):(∃y∈vs++ [e],y.1=j)↔∃y∈vs,y.1=j:=
 ⟨fun⟨y,a,hyj⟩=>by
  rcases rA.1 a with a|a
  . exact⟨y,a,hyj⟩
  . rw[qR]at a;subst a;exact absurd hyj b,fun⟨y,a,hyj⟩=>⟨y,sM _ a,hyj⟩⟩
def B2r (h:oE Bs i vs j es) (c:e.1=j):oE Bs i (vs++ [e]) j (Sb (.int .i64) i es):=by
 obtain⟨a,b⟩:=gI i es h.1;refine⟨a,fun x=> ?_⟩;rw[b,h.2];exact⟨fun a=>⟨a.2.1,fun b=>a.1 b.1⟩,fun a=>⟨fun d=>a.2 ⟨d,Ws c⟩,a.1,fun b=>a.2 ⟨b.1,Ws c⟩⟩⟩
def A8g (h:oE Bs i vs j es) (a:e.1≠j):oE Bs i (vs++ [e]) j es:=⟨h.1,fun x=>by rw[h.2,YR a]⟩
def B2q {b:Bool} (h:oD Bs i vs j es) (d:e.1=j):oD Bs i (vs++ [e]) j (Gr (.int .i64) i b es):=by
 obtain⟨a,c⟩:=gJ i b es h.1;refine⟨a,fun x=> ?_⟩;rw[c,h.2];exact⟨fun a=>a.elim (fun c=> .inr ⟨c,Ws d⟩) fun a=>a.elim .inl fun c=> .inr ⟨c.1,Ws d⟩,fun a=>a.elim (fun a=> .inr (.inl a)) fun c=> .inl c.1⟩
def A8f (h:oD Bs i vs j es) (a:e.1≠j):oD Bs i (vs++ [e]) j es:=⟨h.1,fun x=>by rw[h.2,YR a]⟩
def B2t {O N:Int->Prop} {pv nw:List D6} {d:T6} (g:oD (fun _ x=>Bs j x/\¬(x=i/\∃e∈pv,e.1=j)) i nw j d)
 (l:Bs j i↔O j) (n:(∃e∈pv,e.1=j)\/(O j↔N j)) (k:(∃e∈nw,e.1=j)↔N j):(R8 d).Nodup/\∀x,x∈R8 d↔(x≠i/\Bs j x)\/(x=i/\N j):=by
 refine⟨g.1,fun x=> ?_⟩;rw[g.2,k];by_cases c:x=i
 . subst c;rcases n with f|f
   . exact⟨fun b=>b.elim (fun a=>absurd ⟨rfl,f⟩ a.2) .inr,fun b=>b.elim (fun a=>absurd rfl a.1) .inr⟩
   . exact⟨fun b=>b.elim (fun a=> .inr ⟨rfl,f.1 (l.1 a.1)⟩) .inr,fun b=>b.elim (fun a=>absurd rfl a.1) .inr⟩
 . exact⟨fun b=>b.elim (fun a=> .inl ⟨c,a.1⟩) fun a=>absurd a.1 c,fun b=>b.elim (fun a=> .inl ⟨a.2,fun h=>c h.1⟩) fun a=>absurd a.1 c⟩
def Xo {s:Nat} :∀ {a b:Nat},a<=b->sK s a<=sK s b
 |a,0,h=>by have:a=0:=by omega
            subst this;exact qZ _
 |a,b+1,h=>by
  by_cases c:a=b+1
  . subst c;exact qZ _
  . have:=Xo (s:=s) (a:=a) (b:=b) (by omega);simp only[sK];omega
def D0a {s:Nat} (k:Nat):s<=sK s k:=Xo (rM k)
def B9t {s:Nat} {x f r c:Rat} (h:qs s x) (d:qs s f) (g:qs s r) (b:qs s c):qs (4*s+1) (x-f/r*c):=by
 have a:=Si h (Ju (mD d g) b);rwa[show s+(s+s+s)+1=4*s+1 from by omega]at a
def inC (cols:List T6) (j x:Int):Prop:=x∈R8 (cols.getD j.toNat [])
structure CI (n k s:Nat) (rest P:Xr) (rows0 lower0:List (List D6)) (r c:Int) (D:Xr) (rows lower:List (List D6)) (cols:List T6):Prop where
 lrows:rows.length=n
 llow:lower.length=n
 lcols:cols.length=n
 rd:∀i:Nat,i<n->(i:Int)∈D->Ae (rows.getD i [])/\(∀e∈rows.getD i [],0<=e.1/\e.1<(n:Int))/\(∀j,qs (4*s+1) (A5 (rows.getD i []) j))/\∀j,A5 (rows.getD i []) j=A5 (rows0.getD i []) j-AB k (ix P) (Am rows0) r.toNat c.toNat i*A5 (rows0.getD r.toNat []) j
 ru:∀i:Nat,i<n->(i:Int)∉D->rows.getD i []=rows0.getD i []
 lo:∀i:Nat,i<n->lower.getD i []=if(i:Int)∈D then lower0.getD i []++ [((k:Int),rc (AB k (ix P) (Am rows0) r.toNat c.toNat i))]else lower0.getD i []
 col:∀j:Int,j∈rest->(R8 (cols.getD j.toNat [])).Nodup/\∀x:Int,x∈R8 (cols.getD j.toNat [])↔x≠r/\0<=x/\x<(n:Int)/\(∀a,a<k->x.toNat≠ix P a)/\Am rows x.toNat j.toNat≠0
variable {n k s:Nat} {S:Nat->Nat} {A:Nat->Nat->Rat} {rest P Q place:Xr} {rows lower rows1 lower1:List (List D6)} {cols cols1 cols2:List T6} {r c:Int}
def A5v {v:List D6} (h:Ae v) (j:Int):(∃e∈v,e.1=j)↔A5 v j≠0:=
 ⟨fun⟨e,he,hj⟩=>by rw[<-hj,R9 h.1 he];exact(h.2 e he).1,GD⟩
def EI.row (h:EI n k S A rest P Q place rows lower cols) (b:c∈rest) (d:r∈R8 (cols.getD c.toNat [])):0<=r/\r<(n:Int)/\(∀a,a<k->r.toNat≠ix P a)/\Am rows r.toNat c.toNat≠0:=((h.col c b).2 r).1 d
def EI.crange (h:EI n k S A rest P Q place rows lower cols) (a:c∈rest):0<=c/\c<(n:Int):=⟨((h.rmem c).1 a).1,((h.rmem c).1 a).2.1⟩
def CI.init (h:EI n k S A rest P Q place rows lower cols) (u:c∈rest) (x:r∈R8 (cols.getD c.toNat [])) (z:cols1.length=n)
 (v:∀j:Int,j∈rest->oE (inC cols) r (rows.getD r.toNat []) j (cols1.getD j.toNat [])):CI n k s rest P rows lower r c [] rows lower cols1:=by
 obtain⟨F,G,H,_⟩:=h.row u x;refine⟨h.lrows,h.llow,z,fun i _ w=>(by cases w),fun i _ _=>rfl,fun i _=>(qL (by simp)).symm,fun j hj=> ?_⟩;obtain⟨D,E⟩:=h.crange hj;obtain⟨l,o⟩:=v j hj;refine⟨l,fun B=> ?_⟩;rw[o];have t:=(h.col j hj).2 B;unfold inC;rw[t,A5v (h.can r.toNat (by omega)).1];constructor
 . rintro⟨⟨d,f,g,a⟩,b⟩;refine⟨fun e=>b ⟨e, ?_⟩,d,f,g,a⟩;subst e;unfold Am at a;rwa[show((j.toNat:Nat):Int)=j from by omega]at a
 . rintro⟨y,d,f,g,a⟩;exact⟨⟨d,f,g,a⟩,fun b=>y b.1⟩
def CI.next (h:EI n k S A rest P Q place rows lower cols) (hc:c∈rest) (hr:r∈R8 (cols.getD c.toNat [])) {D:Xr} (g:CI n k (S k) rest P rows lower r c D rows1 lower1 cols1) {i:Int}
 (a1:0<=i) (a2:i<(n:Int)) (W:i≠r) (B:∀a,a<k->i.toNat≠ix P a) (T:i∉D) {nw:List D6} {q:Rat}
 (Z:q=Am rows i.toNat c.toNat/Am rows r.toNat c.toNat)
 (u:VO (fun j=>A5 (rows.getD i.toNat []) j-q*A5 (rows.getD r.toNat []) j) nw) (a7:cols2.length=n)
 (a5:∀j:Int,j∈rest->oD (fun j x=>inC cols1 j x/\¬(x=i/\∃e∈rows.getD r.toNat [],e.1=j)) i nw j (cols2.getD j.toNat [])):
 CI n k (S k) rest P rows lower r c (D++ [i]) (rows1.set i.toNat nw) (lower1.set i.toNat (lower1.getD i.toNat []++ [((k:Int),rc q)])) cols2:=by
 obtain⟨ac,ad,ae,af⟩:=h.row hc hr;obtain⟨a8,c1⟩:=h.crange hc;have o:i.toNat<n:=by omega
 have V:((i.toNat:Nat):Int)=i:=by omega
 have U:AB k (ix P) (Am rows) r.toNat c.toNat i.toNat=q:=by rw[YS (by omega) B,Z]
 have s:∀x:Nat,(x:Int)∈D++ [i]↔(x:Int)∈D\/x=i.toNat:=fun x=>by
  rw[rA,qR];exact g3f yH (by omega)
 have w:∀j,A5 nw j=A5 (rows.getD i.toNat []) j-q*A5 (rows.getD r.toNat []) j:=u.2;have a6:∀e∈nw,0<=e.1/\e.1<(n:Int):=fun e he=>qQ fun b=>by
  refine(u.1.2 e he).1 ?_;rw[<-R9 u.1.1 he,w,E3 (v:=rows.getD i.toNat []) fun M F G=>b (by rw[<-G];exact(h.can _ o).2.1 M F),E3 (v:=rows.getD r.toNat []) fun M F G=>b (by rw[<-G];exact(h.can r.toNat (by omega)).2.1 M F),uX,tH,wP,rL]
 refine⟨by rw[qJ];exact g.lrows,by rw[qJ];exact g.llow,a7,fun x d f=> ?_,fun x d f=> ?_,fun x d=> ?_,fun j E=> ?_⟩
 . by_cases l:x=i.toNat
   . subst l;rw[A9 (by rw[g.lrows];exact o),U];refine⟨u.1,a6,fun j=> ?_,w⟩;rw[w,Z];have:=B9t ((h.can _ o).2.2 j) ((h.can _ o).2.2 (c.toNat:Int)) ((h.can r.toNat (by omega)).2.2 (c.toNat:Int)) ((h.can r.toNat (by omega)).2.2 j);exact this
   . rw[C9 l];exact g.rd x d (((s x).1 f).resolve_right l)
 . have l:x≠i.toNat:=fun e=>f ((s x).2 (.inr e))
   rw[C9 l];exact g.ru x d fun b=>f ((s x).2 (.inl b))
 . by_cases l:x=i.toNat
   . subst l;rw[A9 (by rw[g.llow];exact o),qP ((s _).2 (.inr rfl)),g.lo _ o,qL (by rw[V];exact T),U]
   . rw[C9 l,g.lo x d];by_cases f:(x:Int)∈D
     . rw[qP f,qP ((s x).2 (.inl f))]
     . rw[qL f,qL fun b=>f (((s x).1 b).resolve_right l)]
 . obtain⟨aa,ab⟩:=h.crange E;obtain⟨a9,R⟩:=g.col j E;have X:((j.toNat:Nat):Int)=j:=by omega
   have a4:inC cols1 j i↔A5 (rows.getD i.toNat []) j≠0:=by
    unfold inC;rw[R];have F:Am rows1 i.toNat j.toNat=A5 (rows.getD i.toNat []) j:=by
     unfold Am;rw[g.ru _ o (by rw[V];exact T),X]
    rw[F];exact⟨fun b=>b.2.2.2.2,fun b=>⟨W,a1,a2,B,b⟩⟩
   have a0:=B2t (Bs:=inC cols1) (O:=fun j=>A5 (rows.getD i.toNat []) j≠0) (N:=fun j=>A5 nw j≠0) (pv:=rows.getD r.toNat []) (nw:=nw) (a5 j E) a4 ?_ (A5v u.1 j)
   . refine⟨a0.1,fun x=> ?_⟩;rw[a0.2];unfold inC;rw[R];by_cases d:x=i
     . subst d;have:Am (rows1.set x.toNat nw) x.toNat j.toNat=A5 nw j:=by
        unfold Am;rw[A9 (by rw[g.lrows];exact o),X]
       rw[this];exact⟨fun b=>b.elim (fun z=>absurd rfl z.1) fun z=>⟨W,a1,a2,B,z.2⟩,fun b=> .inr ⟨rfl,b.2.2.2.2⟩⟩
     . constructor
       . rintro(⟨_,t,H,I,J,y⟩ | ⟨t,_⟩)
         . refine⟨t,H,I,J, ?_⟩;unfold Am at y⊢;rwa[C9 (by omega)]
         . exact absurd t d
       . rintro⟨t,H,I,J,y⟩;refine .inl ⟨d,t,H,I,J, ?_⟩;unfold Am at y⊢;rwa[C9 (by omega)]at y
   . by_cases Y:∃e∈rows.getD r.toNat [],e.1=j
     . exact .inl Y
     . refine .inr ?_;have a3:A5 (rows.getD r.toNat []) j=0:=qQ fun b=>Y (GD b)
       show A5 _ j≠0↔A5 nw j≠0;rw[w,a3,uX,tH,wP,rL]
def CI.done (h:EI n k S A rest P Q place rows lower cols) (z:c∈rest) (O:r∈R8 (cols.getD c.toNat [])) {D:Xr} (g:CI n k (S k) rest P rows lower r c D rows1 lower1 cols1)
 (I:S (k+1)=4*S k+1) (U:∀x:Int,x∈D↔x≠r/\0<=x/\x<(n:Int)/\(∀a,a<k->x.toNat≠ix P a)/\Am rows x.toNat c.toNat≠0) {G:Xr} (X:G.Nodup) (R:∀x,x∈G↔x∈rest/\x≠c):
 EI n (k+1) S A G (P.set k r) (Q.set k c) (place.set c.toNat k) rows1 lower1 cols1:=by
 obtain⟨Z,a0,a1,W⟩:=h.row z O;have E:k<P.length:=by
  rw[h.lP];refine Nat.lt_of_le_of_ne h.elim.kn fun E=> ?_
  obtain⟨M,c1,F⟩:=(h.rmem c).1 z;obtain⟨a,l,e⟩:=Ft (n:=n) (q:=ix Q) (fun a l=>h.elim.qlt a (by omega)) (fun a b l hb=>h.elim.qinj a b (by omega) (by omega)) (show c.toNat<n by omega);exact absurd e.symm (F a (by omega))
 have B:∀i:Nat,i<n->((i:Int)∈D↔AB k (ix P) (Am rows) r.toNat c.toNat i≠0):=fun i d=>by
  rw[U,qH];constructor
  . rintro⟨Y,_,_,t,u⟩;rw[YS (by omega) t,xB];exact fun o=>(g0e.1 o).elim u fun o=>by
     have:=g0z _ W;rw[o,uX]at this;exact absurd this (by decide)
  . intro M;have F:¬(i=r.toNat\/∃a,a<k/\i=ix P a):=fun s=>M (qP s)
    refine⟨fun e=>F (.inl (by omega)),by omega,by omega,fun a l e=>F (.inr ⟨a,l,e⟩),fun o=>M ?_⟩;unfold AB;rw[qL F,o,xB,sZ]
 refine h.step z O X R g.lrows g.llow g.lcols (fun i d=> ?_) (fun i d=> ?_) (by omega) (fun i d=> ?_) fun j V=> ?_
 . rw[I];by_cases f:(i:Int)∈D
   . exact g.rd i d f
   . have o:AB k (ix P) (Am rows) r.toNat c.toNat i=0:=qQ fun s=>f ((B i d).2 s)
     rw[g.ru i d f,o];obtain⟨w,y,T⟩:=h.can i d;exact⟨w,y,fun j=>F8 (T j) (by omega),fun j=>by rw[sZ,tH,wP,rL]⟩
 . rw[g.lo i d];by_cases f:(i:Int)∈D
   . rw[qP f,qL ((B i d).1 f)]
   . rw[qL f,qP (qQ fun s=>f ((B i d).2 s))]
 . have N:=(h.can i d).2.2 (c.toNat:Int);rw[I];unfold AB;split
   . exact N3 (by have:=A4f N;omega)
   . exact F8 (mD N ((h.can r.toNat (by omega)).2.2 (c.toNat:Int))) (by omega)
 . obtain⟨w,y⟩:=g.col j ((R j).1 V).1;refine⟨w,fun x=> ?_⟩;rw[y];constructor
   . rintro⟨Y,t,u,v,H⟩;refine⟨t,u,fun a l=> ?_,H⟩;by_cases J:a=k
     . subst J;rw[Sa E];omega
     . rw[Cv J];exact v a (by omega)
   . rintro⟨t,u,v,H⟩;refine⟨fun e=> ?_,t,u,fun a l=> ?_,H⟩
     . have:=v k (rW _);rw[Sa E,e]at this;exact this rfl
     . have:=v a (by omega);rwa[Cv (tS l)]at this
def EI.two (h:EI n k S A rest P Q place rows lower cols) {i j:Nat} (b:i<n) (c:j<n) (o:i≠j) (g:∀a,a<k->i≠ix P a) (l:∀a,a<k->j≠ix P a):k+2<=n:=by
 refine qQ fun b=> ?_
 have b:=h.elim.kn;obtain⟨a,f,c,d,b⟩:=aS n (fun a=>if a<k then ix P a else if a=k then i else j) fun a _=>by
  split
  . rename_i c;exact h.elim.plt a c
  . split<;>assumption
 by_cases c:a<k
 . rw[qP c]at b;by_cases d:f<k
   . rw[qP d]at b;have:=h.elim.pinj a f c d b;omega
   . rw[qL d]at b;split at b
     . exact g a c b.symm
     . exact l a c b.symm
 . have d:¬f<k:=by omega
   rw[qL c,qL d]at b;have:a=k:=by omega
   rw[qP this,qL (by omega)]at b;exact o b
def OI {a:Type} (l:List a) (i:Nat) (d:a):l.set i (l.getD i d)=l:=by
 refine yQ (by rw[qJ]) fun j c b=> ?_
 rw[g4h];split
 . rename_i e;subst e;rw[G5 _ _ b]
 . rfl
def Fj {a:Type} {d:a} {l:List a} {t:Int} (b:0<=t) (c:t<(l.length:Int)):l.take (t+1).toNat=l.take t.toNat++ [gx d l t]:=by
 rw[show(t+1).toNat=t.toNat+1 from by omega,rP,H1 (d:=d) b c];rfl
def GR {l:Xr} {n:Nat} (h:l.Nodup) (f:∀x∈l,0<=x/\x<(n:Int)):l.length<=n:=by
 refine qQ fun a=> ?_
 have b:∀a,a<n+1->a<l.length:=fun a ha=>by omega
 obtain⟨a,c,i,g,j⟩:=aS n (fun a=>(l.getD a 0).toNat) fun a ha=>by
  have:=f _ (B4 (d:=0) (b a ha));omega
 have i:=f _ (B4 (d:=0) (b a (by omega)));have i:=f _ (B4 (d:=0) (b c g));have f:l.getD a 0=l.getD c 0:=by omega
 rw[G5 _ _ (b a (by omega)),G5 _ _ (b c g)]at f;have:=(wL h).1 f;omega
def B4o (es:T6):(R8 es).length=es.length:=sL ..
def pM {es:T6} {y:Int×Bool} (h:y∈es):y.1∈R8 es:=vB (f:=fun e:Int×Bool=>e.1) h
def mX (n:Nat) (dd:List Nat):Prop:=∀i,i<n->i∉dd
abbrev NB:=List T6×List Nat
abbrev NR:=List (List D6)×List Nat
variable {n k:Nat} {S:Nat->Nat} {A:Nat->Nat->Rat} {rest P Q place:Xr} {rows lower:List (List D6)} {cols:List T6}
def A4z {v:List D6} {m j:Int} (h:N0 v m) (b:A5 v j≠0):0<=j/\j<m:=qQ fun a=>b (B0w h a)
def EI.more (h:EI n k S A rest P Q place rows lower cols) (u:k<n):0<rest.length:=by
 refine qQ fun v=> ?_
 have o:rest= []:=qS (by omega);have g:∀c,c<n->∃a,a<k/\c=ix Q a:=fun c b=>qQ fun hh=>by
  have:=(h.rmem (c:Int)).2 ⟨by omega,by omega,fun a ha e=>hh ⟨a,ha,by omega⟩⟩;rw[o]at this;cases this
 obtain⟨f,d⟩:∃f:Nat->Nat,∀c,c<n->f c<k/\c=ix Q (f c):=by
  refine⟨fun c=>if b:c<n then(g c b).choose else 0,fun c b=> ?_⟩;simp only[dif_pos b];exact(g c b).choose_spec
 obtain⟨a,i,s,t,l⟩:=aS k f fun a ha=>(d a (by omega)).1
 have j:=(d a (by omega)).2;have r:=(d i (by omega)).2;rw[l]at j;omega
def EI.okRow (h:EI n k S A rest P Q place rows lower cols) (d:S k<=K1) (a:n<=16384) {i:Nat} (f:i<n):KP K1 (rows.getD i []):=by
 obtain⟨a,b,c⟩:=h.can i f;have:=Gk (n:=(n:Int)) (v:=rows.getD i []) ⟨a.1,fun e he=>⟨(b e he).1,(b e he).2,(a.2 e he).1⟩⟩;exact⟨a.1,NI a fun j=>F8 (c j) d,by omega⟩
def EI.lowLen (h:EI n k S A rest P Q place rows lower cols) {i:Nat} (c:i<n):(lower.getD i []).length<=k:=by
 obtain⟨a,b⟩:=h.lcan i c;have:=Gk (n:=(k:Int)) (v:=lower.getD i []) ⟨a.1,fun e he=>⟨(b e he).1,(b e he).2,(a.2 e he).1⟩⟩;omega
def EI.colLen (h:EI n k S A rest P Q place rows lower cols) {c:Int} (b:c∈rest):(cols.getD c.toNat []).length<=n:=by
 obtain⟨d,a⟩:=h.col c b;rw[<-B4o];exact GR d fun x b=>⟨((a x).1 b).1,((a x).1 b).2.1⟩
def EI.pick (h:EI n k S A rest P Q place rows lower cols) {b:Nat} (a:b<rest.length):(rest.take b++rest.drop (b+1)).Nodup/\∀x,x∈rest.take b++rest.drop (b+1)↔x∈rest/\x≠rest.getD b 0:=by
 have j:rest=rest.take b++rest.getD b 0::rest.drop (b+1):=by
  rw[G5 _ _ a, <-xI a,uG]
 have d:=h.rnd;generalize rest.getD b 0=c at*;generalize rest.take b=u at*;generalize rest.drop (b+1)=v at*;subst j;rw[sX]at d;obtain⟨s,t,f⟩:=d;obtain⟨o,r⟩:=sG.1 t;refine⟨sX.2 ⟨s,r,fun g i b a=>f g i b (qM _ a)⟩,fun x=> ?_⟩;rw[rA,rA,qI];constructor
 . rintro(hx|hx)
   . exact⟨.inl hx,fun e=>f x hx c rB e⟩
   . exact⟨.inr (.inr hx),fun e=>o (e▸hx)⟩
 . rintro⟨hx|hx|hx,l⟩
   . exact .inl hx
   . exact absurd hx l
   . exact .inr hx
def KL (n:Nat) (rest:Xr) (Bs:Int->Int->Prop) (i:Int) (v:List D6) (p:Int×NB×Unit):Prop:=0<=p.1/\p.1<=(v.length:Int)/\p.2.1.1.length=n/\mX n p.2.1.2/\∀j:Int,j∈rest->(0<=j/\j<(n:Int))/\oE Bs i (v.take p.1.toNat) j (p.2.1.1.getD j.toNat [])
def gG (n:Nat) (rest:Xr) (Bs:Int->Int->Prop) (i:Int) (v:List D6) (p:Int×NB×Unit):Prop:=0<=p.1/\p.1<=(v.length:Int)/\p.2.1.1.length=n/\mX n p.2.1.2/\∀j:Int,j∈rest->(0<=j/\j<(n:Int))/\oD Bs i (v.take p.1.toNat) j (p.2.1.1.getD j.toNat [])
def TG (n:Nat) (F:Nat->Int->Rat) (i:Int) (v:List D6) (p:Int×NB×Unit):Prop:=0<=p.1/\p.1<=(v.length:Int)/\p.2.1.1.length=n/\mX n p.2.1.2/\∀j:Int,0<=j->j<(n:Int)->kH i F (v.take p.1.toNat) j (p.2.1.1.getD j.toNat [])
variable {Bs:Int->Int->Prop} {i t:Int} {v:List D6} {dd:List Nat} {F:Nat->Int->Rat}
def KL.rng (h:KL n rest Bs i v (t,(cols,dd),())) (c:∀e∈v,0<=e.1/\e.1<(n:Int)) (b:t<(v.length:Int)):(0<=t/\t<(v.length:Int))/\(0<=(gx F3 v t).1/\(gx F3 v t).1<((cols.length:Nat):Int))/\(gx F3 v t).1.toNat∉dd:=by
 have a:=c (gx F3 v t) (H6 (d:=F3) (i:=t) h.1 b);have c:cols.length=n:=h.2.2.1;exact⟨⟨h.1,b⟩,⟨a.1,by rw[c];exact a.2⟩,h.2.2.2.1 _ (by omega)⟩
def KL.next (h:KL n rest Bs i v (t,(cols,dd),())) (hv:∀e∈v,0<=e.1/\e.1<(n:Int)) (ht:t<(v.length:Int)):KL n rest Bs i v (t+1,(cols.set (gx F3 v t).1.toNat (Sb (.int .i64) i (cols.getD (gx F3 v t).1.toNat [])),dd),()):=by
 obtain⟨b,_,c,f,g⟩:=h;simp only at b c f g;refine⟨by simp only;omega,by simp only;omega,by simp only;rw[qJ];exact c,f,fun j a=> ?_⟩;obtain⟨⟨l,o⟩,k⟩:=g j a;refine⟨⟨l,o⟩, ?_⟩;have r:=hv _ (H6 (d:=F3) b ht);simp only;rw[Fj (d:=F3) b ht];generalize gx F3 v t=e at*;by_cases a:e.1=j
 . subst a;rw[A9 (by omega)];exact B2r k rfl
 . rw[C9 (by omega)];exact A8g k a
def gG.rng (h:gG n rest Bs i v (t,(cols,dd),())) (c:∀e∈v,0<=e.1/\e.1<(n:Int)) (b:t<(v.length:Int)):(0<=t/\t<(v.length:Int))/\(0<=(gx F3 v t).1/\(gx F3 v t).1<((cols.length:Nat):Int))/\(gx F3 v t).1.toNat∉dd:=by
 have a:=c (gx F3 v t) (H6 (d:=F3) (i:=t) h.1 b);have c:cols.length=n:=h.2.2.1;exact⟨⟨h.1,b⟩,⟨a.1,by rw[c];exact a.2⟩,h.2.2.2.1 _ (by omega)⟩
def gG.next {b:Bool} (h:gG n rest Bs i v (t,(cols,dd),())) (hv:∀e∈v,0<=e.1/\e.1<(n:Int)) (ht:t<(v.length:Int)):gG n rest Bs i v (t+1,(cols.set (gx F3 v t).1.toNat (Gr (.int .i64) i b (cols.getD (gx F3 v t).1.toNat [])),dd),()):=by
 obtain⟨c,_,f,g,k⟩:=h;simp only at c f g k;refine⟨by simp only;omega,by simp only;omega,by simp only;rw[qJ];exact f,g,fun j a=> ?_⟩;obtain⟨⟨o,r⟩,l⟩:=k j a;refine⟨⟨o,r⟩, ?_⟩;have s:=hv _ (H6 (d:=F3) c ht);simp only;rw[Fj (d:=F3) c ht];generalize gx F3 v t=e at*;by_cases a:e.1=j
 . subst a;rw[A9 (by omega)];exact B2q l rfl
 . rw[C9 (by omega)];exact A8f l a
def TG.rng (h:TG n F i v (t,(cols,dd),())) (c:∀e∈v,0<=e.1/\e.1<(n:Int)) (b:t<(v.length:Int)):(0<=t/\t<(v.length:Int))/\(0<=(gx F3 v t).1/\(gx F3 v t).1<((cols.length:Nat):Int))/\(gx F3 v t).1.toNat∉dd:=by
 have a:=c (gx F3 v t) (H6 (d:=F3) (i:=t) h.1 b);have c:cols.length=n:=h.2.2.1;exact⟨⟨h.1,b⟩,⟨a.1,by rw[c];exact a.2⟩,h.2.2.2.1 _ (by omega)⟩
def TG.next {b:Bool} (h:TG n F i v (t,(cols,dd),())) (hv:∀e∈v,0<=e.1/\e.1<(n:Int)) (ht:t<(v.length:Int)):TG n F i v (t+1,(cols.set (gx F3 v t).1.toNat (Gr (.int .i64) i b (cols.getD (gx F3 v t).1.toNat [])),dd),()):=by
 obtain⟨a,_,c,f,g⟩:=h;simp only at a c f g;refine⟨by simp only;omega,by simp only;omega,by simp only;rw[qJ];exact c,f,fun j o r=> ?_⟩;have s:=hv _ (H6 (d:=F3) a ht);simp only;rw[Fj (d:=F3) a ht];have k:=g j o r;generalize gx F3 v t=e at*;by_cases l:e.1=j
 . subst l;rw[A9 (by omega)];exact B2s k rfl
 . rw[C9 (by omega)];exact A8i k l
def NS (n:Nat) (p:Int×NB×Xr×Unit):Prop:=0<=p.1/\p.1<=(n:Int)/\p.2.1.1.length=n/\(∀j,p.2.1.1.getD j []= [])/\(∀i∈p.2.1.2,p.1<=(i:Int))/\p.2.2.1.length=n/\∀i:Nat,(i:Int)<p.1->p.2.2.1.getD i 0=(i:Int)
def NS.init:NS n (0,(List.replicate n [],Sd (Ty.mp false (Ty.int i64) false Ty.bool) n),List.replicate n 0,()):=by
 refine⟨by simp only;omega,by simp only;omega,by simp only;rw[rC],fun j=> ?_,fun i _=>qD i,by simp only;rw[rC],fun i a=> ?_⟩
 . simp only;rw[qF,tX];split<;>rfl
 . simp only at a;omega
def NS.next {left:Xr} (h:NS n (t,(cols,dd),left,())) (ht:t<(n:Int)):NS n (t+1,(cols.set t.toNat [],SS t.toNat dd),left.set t.toNat t,()):=by
 obtain⟨o,_,c,d,f,g,k⟩:=h;simp only at o c d f g k;refine⟨by simp only;omega,by simp only;omega,by simp only;rw[qJ];exact c,fun j=> ?_,fun i b=> ?_,by simp only;rw[qJ];exact g,fun i b=> ?_⟩
 . simp only;by_cases a:j=t.toNat
   . subst a;rw[A9 (by omega)]
   . rw[C9 a];exact d j
 . simp only at b⊢;obtain⟨l,r⟩:=bW.1 b;have:=f i l;omega
 . simp only at b⊢;by_cases a:i=t.toNat
   . subst a;rw[A9 (by omega)];omega
   . rw[C9 a];exact k i (by omega)
def JA (n:Nat) (D:List (List D6)) (p:Int×List (List D6)×NB×Unit):Prop:=0<=p.1/\p.1<=(n:Int)/\p.2.1.length=n/\(∀i:Nat,(i:Int)<p.1->VO (A5 (D.getD i [])) (p.2.1.getD i []))/\p.2.2.1.1.length=n/\mX n p.2.2.1.2/\∀j:Int,0<=j->j<(n:Int)->kH p.1 (fun i=>A5 (D.getD i [])) [] j (p.2.2.1.1.getD j.toNat [])
def JA.init {left:Xr} {D:List (List D6)} (h:NS n (t,(cols,dd),left,())) (s:(n:Int)<=t):JA n D (0,List.replicate n [],(cols,dd),()):=by
 obtain⟨g,_,b,c,d,k,l⟩:=h;simp only at g b c d k l;refine⟨by simp only;omega,by simp only;omega,by simp only;rw[rC],fun i f=>by simp only at f;omega,b,fun i f r=>by have:=d i r;omega,fun j u v=> ?_⟩;simp only;rw[c];refine⟨xU,fun x=>⟨fun a=>(by cases a),fun a=> ?_⟩⟩;rcases a with⟨w,y,_⟩ | ⟨_,e,o,_⟩
 . omega
 . cases o
def JA.row {D:List (List D6)} {rs:List (List D6)} (h:JA n D (t,rs,(cols,dd),())):TG n (fun i=>A5 (D.getD i [])) t (D.getD t.toNat []) (0,(cols,dd),()):=by
 obtain⟨d,_,f,g,a,b,c⟩:=h;exact⟨qG _,qD _,a,b,fun j d f=>c j d f⟩
def JA.next {D:List (List D6)} {rs:List (List D6)} {cols2:List T6} {dd2:List Nat} {u:Int} {w:List D6} (h:JA n D (t,rs,(cols,dd),())) (ht:t<(n:Int)) {m:Int} (hv:N0 (D.getD t.toNat []) m) (hw:VO (A5 (D.getD t.toNat [])) w) (hf:TG n (fun i=>A5 (D.getD i [])) t (D.getD t.toNat []) (u,(cols2,dd2),())) (hu:((D.getD t.toNat []).length:Int)<=u):JA n D (t+1,rs.set t.toNat w,(cols2,dd2),()):=by
 obtain⟨d,_,f,g,r,s,v⟩:=h;obtain⟨o,_,a,b,c⟩:=hf;simp only at d f g r s v o a b c;refine⟨by simp only;omega,by simp only;omega,by simp only;rw[qJ];exact f,fun i x=> ?_,a,b,fun j y z=> ?_⟩
 . simp only at x⊢;by_cases l:i=t.toNat
   . subst l;rw[A9 (by omega)];exact hw
   . rw[C9 l];exact g i (by omega)
 . simp only;have k:=c j y z;rw[D4 hu]at k;exact A8h k d hv rfl
def B9p (n:Nat) (M:Dn) (p:Int×Xr×Xr×Xr×Xr×List (List D6)×NR×NB×Unit):Prop:=0<=p.1/\p.1<=(n:Int)/\(∀s,1<=s->X0 s M->EI n p.1.toNat (sK s) (el M) p.2.1 p.2.2.1 p.2.2.2.1 p.2.2.2.2.1 p.2.2.2.2.2.1 p.2.2.2.2.2.2.1.1 p.2.2.2.2.2.2.2.1.1)/\mX n p.2.2.2.2.2.2.1.2/\mX n p.2.2.2.2.2.2.2.1.2
def B9p.init {M:Dn} {left:Xr} {cols2:List T6} {z:List Nat} {rs:List (List D6)} {u:Int} (f:D1 M) (P:dW M) (N:M.1=(n:Int)) (J:M.2.1=(n:Int)) (h:NS n (t,(cols2,z),left,())) (U:(n:Int)<=t) (g:JA n M.2.2 (u,rs,(cols,dd),())) (y:(n:Int)<=u):B9p n M (0,left,List.replicate n 0,List.replicate n 0,List.replicate n 0,rs,(List.replicate n [],Sd (Ty.sl (.pair (.int .i64) (.pair (.pair .bool (.sl (.int .u32))) (.sl (.int .u32))))) n),(cols,dd),()):=by
 obtain⟨D,E,G,H,I,w,x⟩:=h;obtain⟨A,B,k,l,o,r,v⟩:=g;simp only at D E G H I w x A B k l o r v;have y:u=(n:Int):=by omega
 subst y;refine⟨qG _,qD _,fun s R Q=> ?_,fun i a b=>(by cases b),r⟩;have T:(M.2.2.length:Int)=(n:Int):=by rw[f.2.2.2.2.1,N]
 have c:∀i,i<n->N0 (M.2.2.getD i []) (n:Int)/\KP s (M.2.2.getD i [])/\CK (M.2.2.getD i []):=fun i a=>by
  have b:=B4 (d:=([]:List D6)) (show i<M.2.2.length by omega);exact⟨J▸f.2.2.2.2.2 _ b,mK f Q b,P _ b⟩
 exact EI.start (F:=fun i=>A5 (M.2.2.getD i [])) (fun i j _ _=>rfl) w (fun i a=>x i (by omega)) rC rC rC k rC o (fun i a=>l i (by omega)) (fun i j a O=>A4z (c i a).1 O) (fun i j a=>NJ (c i a).1.1 (c i a).2.2 (c i a).2.1.2.1 R j) (fun i a=>by rw[qF,tX,qP a];rfl) v
def Tg:An:= {loop:= [(5,⟨[1,5,14,15],[],[(16,false,vI)],[],[(0, .row .bool 4)]⟩)]}
def XF:An:= {plan:= [(3,[0,1,2],[5],true,(.q 0 (.q 1 (.q 2 (.e 3 (.e 4 (.e 5 .done)))))))]}
def Wn:An:= {}
def Hf:A2 N8.args->Prop:=fun(x:WB)=>let b:=(x.1.length:Int);let a:=(0:Int);(iB (decide (b≠x.2.1)) (false=decide (N4 x.1 x.2.1)) ((a<=x.2.1/\x.2.1<=x.2.1/\(↑(1:Nat):Int)*x.2.1<=281474976710656/\x.2.1<=9223372036854775807)/\∃(I:C0r->Prop),∃(d: _->Nat),I (a,List.replicate x.2.1.toNat false,())/\∀(p:C0r),let h:=(decide (gx a x.1 p.1<a));let g:=(p.2.1.length:Int);let f:=(decide (x.2.1<=gx a x.1 p.1));let e:=(List.getD p.2.1 (gx a x.1 p.1).toNat false);let i:=(L8 h true f);let c:=(i64.wrap (p.1+1),List.set p.2.1 (gx a x.1 p.1).toNat true,());(Ty.int i64).wf p.1/\(List.length p.2.1<=9223372036854775807/\∀(x:Bool),x∈p.2.1->True)/\True->I p->(iB (decide (p.1<b)) ((a<=p.1/\p.1<b)/\(L8 h true f=false->a<=gx a x.1 p.1/\gx a x.1 p.1<g)/\(iB (L8 i true e) (false=decide (N4 x.1 x.2.1)) ((a<=gx a x.1 p.1/\gx a x.1 p.1<g)/\I c/\d c<d p))) (true=decide (N4 x.1 x.2.1)))))
def EM:A2 Fx.args->Prop:=fun(x:jE)=>let a:=(rv x.1-rv x.2.1*rv x.2.2.1);True/\Cw fun r=>r.1=(rv x.2.2.1).num.sign->(iB (decide (r.1=0)) ((rv x.2.2.1=(0:Rat)->x.1=x.1)/\(rv x.2.2.1≠(0:Rat)->x.1=rc a)) ((D8 x.2.1/\D8 x.2.2.1)/\H4 fun r=>r.1=rc (rv x.2.1*rv x.2.2.1)->(D8 x.1/\D8 r.1)/\H4 fun b=>b.1=rc (rv x.1-rv r.1)->(rv x.2.2.1=(0:Rat)->b.1=x.1)/\(rv x.2.2.1≠(0:Rat)->b.1=rc a)))
def Il:A2 P4.args->Prop:=fun(x:OM)=>let b:=(decide (x.1.1=x.2.1));let a:=(decide (x.1.2.1=x.2.1));(L8 b a false=true->True)/\∀(r:V4),(L8 b a false=true->(True/\True)/\r.1=decide (D1 x.1))->L8 (L8 b a false) r.1 false=decide (sqr x.1 x.2.1)
def PI (l:Xr) (n t:Int) (s:List Bool):Prop:=0<=t/\t<=(l.length:Int)/\(s.length:Int)=n/\(∀i∈l.take t.toNat,0<=i/\i<n)/\(l.take t.toNat).Nodup/\∀k:Nat,(k:Int)<n->(s.getD k false=true↔(k:Int)∈l.take t.toNat)
def PI0 {l:Xr} {n:Int} (b:0<=n):PI l n 0 (List.replicate n.toNat false):=by
 refine⟨qG _,qD _,by rw[rC];omega,fun i a=>(by cases a),xU,fun k _=> ?_⟩;rw[qF,tX];constructor
 . intro h;split at h<;>cases h
 . intro h;cases h
def WX {l:Xr} {t:Int} (a:0<=t) (b:t<(l.length:Int)):l.take (t+1).toNat=l.take t.toNat++ [gx 0 l t]:=by
 rw[show(t+1).toNat=t.toNat+1 from by omega,rP,H1 (d:=(0:Int)) a b];rfl
def B1p {l:Xr} {n t:Int} {s:List Bool} (h:PI l n t s) (b:t<(l.length:Int)) (hb:gx 0 l t<0\/n<=gx 0 l t\/s.getD (gx 0 l t).toNat false=true):¬N4 l n:=by
 rintro⟨_,f,g⟩;obtain⟨c,_,_,_,_,j⟩:=h;have i:=H6 (d:=(0:Int)) c b;obtain⟨k,o⟩:=f _ i;rcases hb with hb|hb|hb
 . omega
 . omega
 . have:=(j (gx 0 l t).toNat (by omega)).1 hb;rw[show(((gx 0 l t).toNat:Nat):Int)=gx 0 l t from by omega]at this;have a:(l.take (t+1).toNat).Nodup:=g.take;rw[WX c b,sX]at a;exact a.2.2 _ this _ (qR.2 rfl) rfl
def A5f {l:Xr} {n t:Int} {s:List Bool} (h:PI l n t s) (b:t<(l.length:Int)) (j:0<=gx 0 l t) (o:gx 0 l t<n) (A:s.getD (gx 0 l t).toNat false=false):PI l n (t+1) (s.set (gx 0 l t).toNat true):=by
 obtain⟨c,E,w,z,x,g⟩:=h;have y:gx 0 l t∉l.take t.toNat:=fun hm=>by
  have:=(g (gx 0 l t).toNat (by omega)).2 (by rw[show(((gx 0 l t).toNat:Nat):Int)=gx 0 l t from by omega];exact hm);rw[A]at this;cases this
 refine⟨by omega,by omega,by rw[qJ];exact w,fun i a=> ?_, ?_,fun k v=> ?_⟩
 . rw[WX c b,rA,qR]at a;rcases a with a|rfl
   . exact z i a
   . exact⟨j,o⟩
 . rw[WX c b,sX];refine⟨x,by simp,fun B r D d u=> ?_⟩;rw[qR]at d;subst d u;exact y r
 . rw[WX c b,rA,qR, <-g k v];by_cases f:(gx 0 l t).toNat=k
   . rw[f,qF,tC (by omega)];exact⟨fun _=> .inr (by omega),fun _=>rfl⟩
   . rw[qF,tI f, <-qF];exact⟨.inl,fun h=>h.resolve_right (by omega)⟩
def Po (x:A2 N8.args) (r:awf N8.args x) (i:N8.pre x):Hf x:=by
 obtain⟨l,n,_⟩:=x;change Xr at l;change Int at n;obtain⟨g,o⟩:0<=n/\n<=16384:=i;simp only[Hf,iB];refine⟨fun h=> ?_,fun h=>⟨⟨g,qG _,by omega,by omega⟩, ?_⟩⟩
 . have h:=qA h;exact(rE fun a=>h a.1).symm
 . have h:=uN.1 (qB h);refine⟨fun p=>PI l n p.1 p.2.1,fun p=>((l.length:Int)-p.1).toNat,PI0 g, ?_⟩;rintro⟨t,s,_⟩ _ c;change Int at t;change List Bool at s;simp only at c⊢;obtain⟨j,u,k,_⟩:=id c;refine⟨fun b=> ?_,fun b=> ?_⟩
   . have b:=qA b;rw[J1,J1];refine⟨⟨j,b⟩,fun a=> ?_,fun a=> ?_,fun a=> ?_⟩
     . simp only[rK,rR]at a;omega
     . simp only[uC,rT]at a;exact(rE (B1p c b (by rcases a with(a|a) |a;exact .inl a;exact .inr (.inl a);exact .inr (.inr a)))).symm
     . simp only[rK,rR]at a;rw[wv (by omega)];exact⟨by omega,A5f c b (by omega) (by omega) a.2,by omega⟩
   . have b:=qB b;obtain⟨_,_,_,d,f,_⟩:=c;rw[D4 (by omega)]at d f;exact(rD ⟨h,d,f⟩).symm
def Px (x:A2 O0.args) (k:awf O0.args x) (g:O0.pre x):Hh x:=by
 obtain⟨l,_⟩:=x;change Xr at l;have j:l.length<=100000:=g;simp only[Hh,iB];refine⟨⟨qD _,qG _,by omega,by omega⟩,fun p=>PI l (l.length:Int) p.1 p.2.1,fun p=>((l.length:Int)-p.1).toNat,PI0 (qD _), ?_⟩;rintro⟨t,s,_⟩ _ c;change Int at t;change List Bool at s;simp only at c⊢;obtain⟨h,n,i,_⟩:=id c;refine⟨fun b=> ?_,fun b=> ?_⟩
 . have b:=qA b;rw[J1,J1];refine⟨⟨h,b⟩,fun a=> ?_,fun a=> ?_,fun a=> ?_⟩
   . simp only[rK,rR]at a;omega
   . simp only[uC,rT]at a;exact(rE (B1p c b (by rcases a with(a|a) |a;exact .inl a;exact .inr (.inl a);exact .inr (.inr a)))).symm
   . simp only[rK,rR]at a;rw[wv (by omega)];exact⟨by omega,A5f c b (by omega) (by omega) a.2,by omega⟩
 . have b:=qB b;obtain⟨_,_,_,d,f,_⟩:=c;rw[D4 (by omega)]at d f;exact(rD ⟨rfl,d,f⟩).symm
def OR (x:A2 Fx.args) (j:awf Fx.args x) (u:Fx.pre x):EM x:=by
 obtain⟨k,l,d,_⟩:=x;obtain⟨o,i,g⟩:sz K1 k/\sz K1 l/\sz K1 d:=u;have t:=N7 j.2.1;have s:=N7 j.2.2.1;simp only[EM,iB,Cw,H4];refine⟨trivial, ?_⟩;rintro⟨r,_⟩ _ b;change Int at r;simp only at b⊢;refine⟨fun h=> ?_,fun h=>⟨⟨J8 i (by decide),J8 g (by decide)⟩, ?_⟩⟩
 . have h:=qA h;rw[b,B6l]at h;exact⟨fun _=>by trivial,fun a=>absurd h a⟩
 . have c:rv d≠0:=fun c=>qB h (by rw[b,B6l];exact c)
   rintro⟨p,_⟩ _ f;simp only at f⊢;subst f;refine⟨⟨J8 o (by decide),J7 (Ju (U4 t i (by decide)) (U4 s g (by decide))) (by decide)⟩, ?_⟩;rintro⟨q,_⟩ _ a;simp only at a⊢;refine⟨fun n=>absurd n c,fun _=> ?_⟩;rw[a,D7]
def mvE (p:Xr) (e:D6):D6:=(p.getD e.1.toNat 0,e.2)
def A6w {p:Xr} (h:N4 p (p.length:Int)) {a i:Int} (b:0<=a) (f:a<(p.length:Int)) (g:0<=i) (j:i<(p.length:Int)):p.getD a.toNat 0=i↔a=((List.idxOf i p:Nat):Int):=by
 have b:a.toNat<p.length:=by omega
 constructor
 . intro g;have l:i∈p:=g▸B4 b;have j:=yJ l;have k:p[List.idxOf i p]=i:=g0t j;rw[G5 _ _ b, <-k]at g;have:=(wL h.2.2).1 g;omega
 . intro g;have l:i∈p:=by
    obtain⟨b,f,r⟩:=Ft (n:=p.length) (q:=fun b=>(p.getD b 0).toNat) (fun b f=>by have:=h.2.1 _ (B4 (d:=0) f);omega) (fun b c f s o=>by
     have t:=h.2.1 _ (B4 (d:=0) f);have u:=h.2.1 _ (B4 (d:=0) s);have o:(p.getD b 0).toNat=(p.getD c 0).toNat:=o;have e:p.getD b 0=p.getD c 0:=by omega
     rw[G5 _ _ f,G5 _ _ s]at e;exact(wL h.2.2).1 e) (show i.toNat<p.length by omega)
    have t:=h.2.1 _ (B4 (d:=0) f);have r:(p.getD b 0).toNat=i.toNat:=r;rw[show i=p.getD b 0 from by omega];exact B4 f
   have j:=yJ l;have k:p[List.idxOf i p]=i:=g0t j;rw[g,qH,G5 _ _ j,k]
def A5s {p:Xr} (h:N4 p (p.length:Int)):∀ {c:List D6},(∀e∈c,0<=e.1/\e.1<(p.length:Int))->∀i,A5 (c.map (mvE p)) i=if 0<=i/\i<(p.length:Int)then A5 c ((List.idxOf i p:Nat):Int)else 0
 | [],_,i=>by split<;>rfl
 |e::c,a,i=>by
  obtain⟨f,g⟩:=a e (rB ..);have b:=A5s h (fun x hx=>a x (qM _ hx)) i;rw[rZ,A5,A5,b];have k:=h.2.1 _ (B4 (d:=0) (show e.1.toNat<p.length by omega));by_cases a:0<=i/\i<(p.length:Int)
  . rw[qP a,qP a];congr 1;show(if p.getD e.1.toNat 0=i then rv e.2 else 0)= _;by_cases b:p.getD e.1.toNat 0=i
    . rw[qP b,qP ((A6w h f g a.1 a.2).1 b)]
    . rw[qL b,qL fun j=>b ((A6w h f g a.1 a.2).2 j)]
  . rw[qL a,qL a,rL];exact qL fun b=>a (by rw[<-b];exact k)
def FP (x:A2 V3.args) (a7:awf V3.args x) (V:V3.pre x):Rs x:=by
 obtain⟨v,p,_⟩:=x;change List D6 at v;change Xr at p;have B:KP K1 v/\p.length<=100000:=V;obtain⟨B,W⟩:=B;simp only[Rs,iB,Ni,mE];refine⟨W, ?_⟩;rintro⟨r,_⟩ _ E;change Bool at r;simp only at E⊢;refine⟨fun n w=> ?_,fun n=>⟨.inl B, ?_⟩⟩
 . rw[E,rD w]at n;cases n
 have w:N4 p (p.length:Int):=by
  refine qQ fun O=> ?_
  rw[E,rE O]at n;cases n
 rintro⟨c,_⟩ ⟨⟨y,_⟩,_⟩ b;change List D6 at c;simp only at b y⊢;have y:c.length<=9223372036854775807:=y;refine⟨fun q=>0<=q.1/\q.1<=(c.length:Int)/\q.2.1=(c.take q.1.toNat).map (mvE p)++c.drop q.1.toNat/\∀e∈c.take q.1.toNat,0<=e.1/\e.1<(p.length:Int),fun q=>((c.length:Int)-q.1).toNat,⟨qG _,qD _,rfl,fun e a=>(by cases a)⟩, ?_⟩;rintro⟨i,u,_⟩ _ ⟨N,Z,g,d⟩;change Int at i;change List D6 at u;simp only at N Z g d⊢;refine⟨fun k=> ?_,fun k=> ?_⟩
 . have k:=qA k;have o:i.toNat<c.length:=by omega
   have U:u.length=c.length:=by rw[g,rN,sL,qU,sN];omega
   have J:((c.take i.toNat).map (mvE p)).length=i.toNat:=by rw[sL,qU];omega
   have H:c.drop i.toNat=c.getD i.toNat F3::c.drop (i.toNat+1):=by rw[G5 _ _ o];exact xI o
   have T:u.getD i.toNat F3=c.getD i.toNat F3:=by
    rw[g,H,qF,uF (by omega),J,xO];rfl
   have F:c.getD i.toNat F3∈c:=B4 o;have G:0<=i/\i<(u.length:Int):=⟨N,by rw[U];exact k⟩;rw[T];refine⟨G,fun h _ l=> ?_,fun h=> ?_⟩
   . exfalso;rw[J1]at h;simp only[uC,rT]at h;have:=l (c.getD i.toNat F3).1 (by rw[<-b.2,R9 b.1.1 F];exact(b.1.2 _ F).1);omega
   . rw[J1]at h;simp only[rK,rR]at h;have l:0<=(c.getD i.toNat F3).1/\(c.getD i.toNat F3).1<(p.length:Int):=⟨by omega,by omega⟩;rw[wv (by omega),E5 l.1 l.2];have I:c.take (i+1).toNat=c.take i.toNat++ [c.getD i.toNat F3]:=by
      rw[show(i+1).toNat=i.toNat+1 from by omega];rw[rP,qO o,G5 _ _ o];rfl
     refine⟨l,G,⟨by omega,by omega, ?_,fun e a=> ?_⟩,by omega⟩
     . rw[I,g,H,uM,uD,g2n _ _ (by omega),J,xO,show(i+1).toNat=i.toNat+1 from by omega];rfl
     . rw[I]at a;rcases rA.1 a with a|a
       . exact d e a
       . rw[qR]at a;subst a;exact l
 . have k:=qB k;rw[D4 (by omega)]at g d;rw[sD (by omega),vV]at g;subst g;have R:N0 c (p.length:Int):=⟨b.1.1,fun e a=>⟨(d e a).1,(d e a).2,(b.1.2 e a).1⟩⟩;refine⟨?_,fun a0 _ D X _ _=>⟨⟨⟨?_,fun e a=> ?_⟩,fun j=> ?_⟩,by trivial⟩⟩
   . have:=Gk R;have M:∀z:Nat,z=c.length->z<=100000:=fun z M=>by omega
     exact M _ (sL ..)
   . have A:(a0.map fun e:D6=>e.1).Nodup:=by
      rw[(D.map fun e:D6=>e.1).nodup_iff,List.map_map];have f:(c.map fun e:D6=>e.1).Nodup:=by
       unfold List.Nodup;rw[vO];exact b.1.1.imp fun h=>by omega
      unfold List.Nodup at f⊢;rw[vO]at f⊢;refine List.Pairwise.imp_of_mem (fun {s t} O Q P a=>P ?_) f;obtain⟨a2,a3⟩:=d s O;obtain⟨a4,a5⟩:=d t Q;have a:p.getD s.1.toNat 0=p.getD t.1.toNat 0:=a;rw[G5 _ _ (by omega),G5 _ _ (by omega)]at a;have:=(wL w.2.2).1 a;omega
     unfold List.Nodup at A;rw[vO]at A;refine g3n ?_ X A;intro s t f a6;have:s.1<=t.1:=by
      unfold M0 at f;split at f
      . omega
      . split at f<;>omega
     omega
   . obtain⟨a1,Y,rfl⟩:=sQ.1 (D.mem_iff.1 a);exact b.1.2 a1 Y
   . rw[YG D,A5s w d];simp only[b.2]
def BG:An:= {loop:= [(8,⟨[2,6,36],[0,2],[(37,false,vI)],[],[]⟩)],plan:= [(10,[2,5,8,11],[],true,(.p 0 (.p 1 (.q 2 (.p 3 (.p 4 (.q 5 (.p 6 (.p 7 (.q 8 (.p 9 (.p 10 (.q 11 (.p 12 (.p 13 .done))))))))))))))),(11,[10,21,22],[],true,(pZ9 0 10 (.q 10 (pZ9 11 10 (.q 21 (.q 22 (.e 23 (.p 24 (.p 25 .done)))))))))]}
abbrev C4r:=(Xr×Xr×MM×Int×Int×List (List EE))×Int×Unit
def Lb:A2 S6.args->Prop:=fun(x:C4r)=>let h:=(1:Int);let e:Prop:=(false=true↔Bz x.1 x.2.1);let d:=(0:Int);(d<=x.2.1/\x.2.1<=16384)/\Ni fun r=>r.1=decide (N4 x.1.1 x.2.1)->((!r.1)=false->d<=x.2.1/\x.2.1<=16384)/\∀(q:V4),((!r.1)=false->(True/\True)/\q.1=decide (N4 x.1.2.1 x.2.1))->(iB ((L8 (!r.1) true !q.1)) (e) (True/\Ni fun n=>n.1=decide (sqr x.1.2.2.1 x.2.1)->((!n.1)=false->True)/\∀(s:V4),((!n.1)=false->(True/\True)/\s.1=decide (sqr x.1.2.2.2 x.2.1))->(iB ((L8 (!n.1) true !s.1)) (e) (True/\H4 fun r=>r.1=ri h->∃(I:C8->Prop),∃(t: _->Nat),I (d,())/\∀(p:C8),let l:=(i64.wrap (p.1+h),());let j:=(gx [] x.1.2.2.1.2.2 p.1);let c:=(gx [] x.1.2.2.2.2.2 p.1);let k:=(decide ((gx F3 c d).1≠p.1));let i:=(↑c.length:Int);let a:=(↑j.length:Int);let g:=(decide (a=d));let b:=(gx F3 j (i64.wrap (a-h)));let f:=(decide (b.1≠p.1));(Ty.int i64).wf p.1/\True->I p->(iB (decide (p.1<x.2.1)) ((d<=p.1/\p.1<(x.1.2.2.1.2.2.length:Int))/\(d<=p.1/\p.1<(x.1.2.2.2.2.2.length:Int))/\(decide (a=d)=false->d<=i64.wrap (a-h)/\i64.wrap (a-h)<a)/\(L8 g true f=false->d<=i64.wrap (a-h)/\i64.wrap (a-h)<a)/\(L8 g true f=false->D8 b.2/\D8 r.1)/\∀(o:C8),let m:=(decide (o.1≠d));(L8 g true f=false->(I2 o.1/\True)/\o.1=YD (rv b.2) (rv r.1))->(iB (L8 (L8 g true f) true m) (e) ((decide (i=d)=false->d<=d/\d<i)/\(iB (L8 (decide (i=d)) true k) (e) (I l/\t l<t p))))) ((true=true↔Bz x.1 x.2.1)))))))
def Qh (x:A2 P4.args) (d:awf P4.args x) (_:P4.pre x):Il x:=by
 obtain⟨m,n,_⟩:=x;change Dn at m;change Int at n;simp only[Il,J6];refine⟨fun _=>trivial, ?_⟩;rintro⟨r,_⟩ c;change Bool at r;simp only at c⊢;by_cases a:m.1=n
 . by_cases b:m.2.1=n
   . rw[(c (by rw[rD a,rD b];rfl)).2,rD a,rD b,zX,zX];exact vL.2 ⟨fun h=>⟨a,b,h⟩,fun h=>h.2.2⟩
   . rw[rE b,Bool.and_false,g0n];exact(rE fun h=>b h.2.1).symm
 . rw[rE a,g0n,g0n];exact(rE fun h=>a h.1).symm
def pP {v:List D6} (h:Ir v) (g:v≠ []):gx F3 v ((v.length:Int)-1)∈v/\∀x∈v,x.1<=(gx F3 v ((v.length:Int)-1)).1:=by
 have n:0<v.length:=vA.2 g;have a:=H1 (d:=F3) (l:=v) (i:=(v.length:Int)-1) (by omega) (by omega);refine⟨H6 (by omega) (by omega),fun x j=> ?_⟩;obtain⟨k,c,rfl⟩:=uA.1 j;rw[show((v.length:Int)-1).toNat=v.length-1 from by omega]at a;have b:v[v.length-1]'(by omega)=gx F3 v ((v.length:Int)-1):=by
  rw[qO (by omega)]at a;exact vX a
 rw[<-b];by_cases f:k=v.length-1
 . subst f;exact qG _
 . exact xM (tZ.1 h k (v.length-1) c (by omega) (by omega))
def A6k {v:List D6} {n:Int} (h:N0 v n) {i:Nat} (u:(i:Int)<n):(v≠ []/\(gx F3 v ((v.length:Int)-1)).1=(i:Int)/\rv (gx F3 v ((v.length:Int)-1)).2=1)↔(∀j:Nat,(j:Int)<n->i<j->A5 v (j:Int)=0)/\A5 v (i:Int)=1:=by
 constructor
 . rintro⟨c,f,a⟩;obtain⟨b,g⟩:=pP h.1 c;refine⟨fun j _ w=>E3 fun e d t=> ?_, ?_⟩
   . have:=g e d;omega
   . rw[<-f,R9 h.1 b,a]
 . rintro⟨f,a⟩;have c:v≠ []:=fun e=>by subst e;rw[Tn]at a;exact absurd a (by decide)
   obtain⟨b,g⟩:=pP h.1 c;obtain⟨x,l,z⟩:=GD (show A5 v (i:Int)≠0 from by rw[a];decide);have s:=g x l;obtain⟨o,r,k⟩:=h.2 _ b;have d:(gx F3 v ((v.length:Int)-1)).1=(i:Int):=by
    refine qQ fun y=>k ?_
    have:=f (gx F3 v ((v.length:Int)-1)).1.toNat (by omega) (by omega);rw[show(((gx F3 v ((v.length:Int)-1)).1.toNat:Nat):Int)=(gx F3 v ((v.length:Int)-1)).1 from by omega,R9 h.1 b]at this;exact this
   refine⟨c,d, ?_⟩;rw[<-R9 h.1 b,d,a]
def B7g {v:List D6} {n:Int} (h:N0 v n) {i:Nat} :(v≠ []/\(gx F3 v 0).1=(i:Int))↔(∀j:Nat,j<i->A5 v (j:Int)=0)/\A5 v (i:Int)≠0:=by
 cases v with
 |nil=>exact⟨fun a=>absurd rfl a.1,fun a=>absurd (Tn _) a.2⟩
 |cons e r=>
  have g:gx F3 (e::r) 0=e:=rfl;rw[g];have c:=(h.2 e rB);constructor
  . rintro⟨_,a⟩;exact⟨fun j k=>GC h.1 (by omega),by rw[<-a,O1 h.1];exact c.2.2⟩
  . rintro⟨a,d⟩;refine⟨by simp,qQ fun f=> ?_⟩;rcases Int.lt_or_gt_of_ne f with b|b
    . refine c.2.2 ?_;rw[<-O1 h.1];have:=a e.1.toNat (by omega);rwa[show((e.1.toNat:Nat):Int)=e.1 from by omega]at this
    . exact d (GC h.1 b)
def A0p (L U:Dn) (n:Int) (i:Nat):Prop:=(∀j:Nat,(j:Int)<n->i<j->el L i j=0)/\el L i i=1/\(∀j:Nat,j<i->el U i j=0)/\el U i i≠0
def A9g {P Q:Xr} {L U:Dn} {n:Int} (d:N4 P n) (f:N4 Q n) (g:sqr L n) (k:sqr U n):Bz (P,Q,L,U) n↔∀i:Nat,(i:Int)<n->A0p L U n i:=by
 constructor
 . rintro⟨_,_,_,_,h⟩ i a;exact⟨fun j b c=>(h i j a b).1 c,(h i i a a).2.1,fun j b=>(h i j a (by omega)).2.2.1 b,(h i i a a).2.2.2⟩
 . intro h;exact⟨d,f,g,k,fun i j a b=>⟨fun c=>(h i a).1 j b c,(h i a).2.1,fun b=>(h i a).2.2.1 j b,(h i a).2.2.2⟩⟩
def A5r {p q:Rat} :YD p q=0↔p=q:=by
 unfold YD;by_cases a:p<q
 . rw[qP a];exact⟨fun h=>by omega,fun h=>by subst h;exact absurd a (g3l)⟩
 . rw[qL a];by_cases b:q<p
   . rw[qP b];exact⟨fun h=>by omega,fun h=>by subst h;exact absurd b (g3l)⟩
   . rw[qL b];exact⟨fun _=>Rat.le_antisymm (Rat.not_lt.1 b) (Rat.not_lt.1 a),fun _=>rfl⟩
def RV {p:Prop} (h:¬p):(false=true↔p):=⟨fun a=>(by cases a),fun hp=>absurd hp h⟩
def Vs (x:A2 S6.args) (ar:awf S6.args x) (a9:S6.pre x):Lb x:=by
 obtain⟨⟨P,Q,L,U⟩,n,_⟩:=x;change Dn at L;change Dn at U;change Int at n;obtain⟨M,W,a7,am⟩:0<=n/\n<=16384/\X0 K1 L/\X0 K1 U:=a9;simp only[Lb,iB,H4,Ni,J1];refine⟨⟨M,W⟩, ?_⟩;rintro⟨af,_⟩ _ E;change Bool at af;simp only at E⊢;refine⟨fun _=>⟨M,W⟩, ?_⟩;rintro⟨ag,_⟩ l;change Bool at ag;simp only at l⊢;by_cases y:N4 P n
 case neg=>
  rw[E,rE y];exact⟨fun _=>RV fun h=>y h.1,fun h=>by simp at h⟩
 have l:=(l (by rw[E,rD y];rfl)).2;by_cases H:N4 Q n
 case neg=>
  rw[l,rE H];exact⟨fun _=>RV fun h=>H h.2.1,fun h=>by simp at h⟩
 rw[E,l,rD y,rD H];refine⟨fun h=>by simp at h,fun _=>⟨trivial, ?_⟩⟩;rintro⟨ah,_⟩ _ F;change Bool at ah;simp only at F⊢;refine⟨fun _=>trivial, ?_⟩;rintro⟨ai,_⟩ o;change Bool at ai;simp only at o⊢;by_cases k:sqr L n
 case neg=>
  rw[F,rE k];exact⟨fun _=>RV fun h=>k h.2.2.1,fun h=>by simp at h⟩
 have o:=(o (by rw[F,rD k];rfl)).2;by_cases z:sqr U n
 case neg=>
  rw[o,rE z];exact⟨fun _=>RV fun h=>z h.2.2.2.1,fun h=>by simp at h⟩
 rw[F,o,rD k,rD z];refine⟨fun h=>by simp at h,fun _=>⟨trivial, ?_⟩⟩;rintro⟨one,_⟩ _ N;change C0 at one;simp only at N⊢;have V:=A9g y H k z;obtain⟨ad,ae,Z⟩:=k;obtain⟨aj,ak,a1⟩:=z;have ao:(L.2.2.length:Int)=n:=Z.2.2.2.2.1.trans ad;have aq:(U.2.2.length:Int)=n:=a1.2.2.2.2.1.trans aj;have X:rv one=1:=by rw[N];exact C6z 1
 have aa:D8 one:=by rw[N, <-aZ];exact J7 (B6d (by decide)) (by decide)
 refine⟨fun p=>0<=p.1/\p.1<=n/\∀i:Nat,(i:Int)<p.1->A0p L U n i,fun p=>(n-p.1).toNat,⟨qG _,M,fun i T=>by omega⟩, ?_⟩;rintro⟨t,_⟩ _ r;change Int at t;simp only at r⊢;obtain⟨A,au,r⟩:=r;refine⟨fun u=> ?_,fun u=> ?_⟩
 . have u:=qA u;have Y:N0 (gx [] L.2.2 t) n:=by have:=Z.2.2.2.2.2 _ (H6 (d:= []) A (show t<(L.2.2.length:Int)by omega));rwa[ae]at this
   have ac:N0 (gx [] U.2.2 t) n:=by have:=a1.2.2.2.2.2 _ (H6 (d:= []) A (show t<(U.2.2.length:Int)by omega));rwa[ak]at this
   have ab:=a7 _ (H6 (d:= []) A (show t<(L.2.2.length:Int)by omega));have R:((t.toNat:Nat):Int)=t:=by omega
   have a0:=A6k Y (i:=t.toNat) (by omega);have a2:=B7g ac (i:=t.toNat);rw[R]at a0 a2;have G:A0p L U n t.toNat↔((∀j:Nat,(j:Int)<n->t.toNat<j->A5 (gx [] L.2.2 t) (j:Int)=0)/\A5 (gx [] L.2.2 t) t=1)/\(∀j:Nat,j<t.toNat->A5 (gx [] U.2.2 t) (j:Int)=0)/\A5 (gx [] U.2.2 t) t≠0:=by
    unfold A0p el;rw[R];exact(and_assoc (a:=∀j:Nat,(j:Int)<n->t.toNat<j->A5 (L.2.2.getD t.toNat []) (j:Int)=0)).symm
   rw[<-a0, <-a2]at G;have O:¬A0p L U n t.toNat->¬Bz (P,Q,L,U) n:=fun h hh=>h (V.1 hh t.toNat (by omega))
   have f:∀ {v:List D6},((v.length:Int)=0)↔v= []:=fun {v} =>⟨fun h=>qS (by omega),fun h=>by rw[h];rfl⟩
   have an:=Gk Y;have w:(gx [] L.2.2 t)≠ []->i64.wrap (((gx [] L.2.2 t).length:Int)-1)=((gx [] L.2.2 t).length:Int)-1:=fun h=>by
    have:=vA.2 h;exact wv (by omega)
   refine⟨⟨A,by omega⟩,⟨A,by omega⟩,fun h=> ?_,fun h=> ?_,fun h=> ?_, ?_⟩
   . have h:=mt f.2 (qB h);have:=vA.2 h;rw[w h];omega
   . simp only[rK]at h;have h:=mt f.2 (qB h.1);have:=vA.2 h;rw[w h];omega
   . simp only[rK]at h;have h:=mt f.2 (qB h.1);have ap:=vA.2 h;rw[w h];exact⟨J8 (ab _ (H6 (by omega) (by omega))) (by decide),aa⟩
   rintro⟨c,_⟩ b;change Int at c;simp only at b⊢;refine⟨fun h=>RV (O fun s=> ?_),fun h=>⟨fun g=>⟨qG _, ?_⟩,fun g=>RV (O fun s=> ?_),fun g=> ?_⟩⟩
   . obtain⟨⟨D,J,a6⟩,_⟩:=G.1 s;rw[w D]at b h;have B:decide (((gx [] L.2.2 t).length:Int)=0)=false:=rE (mt f.1 D);have I:decide ((gx F3 (gx [] L.2.2 t) (((gx [] L.2.2 t).length:Int)-1)).1≠t)=false:=rE (by rw[uN];exact J);rw[B,I]at b h;have b:=(b rfl).2;rw[X,a6]at b;rw[b,A5r.2 rfl]at h;simp at h
   . have:=mt f.2 (qB g);have:=vA.2 this;omega
   . obtain⟨_,D,J⟩:=G.1 s;rw[rE (mt f.1 D),rE (by rw[uN];exact J)]at g;simp at g
   . simp only[rK]at h g;have B:=mt f.2 (qB h.1.1);rw[w B]at b h;have I:=uN.1 (qB h.1.2);have a3:=uN.1 (qB h.2);have b:=(b (by rw[h.1.1,h.1.2];rfl)).2;rw[a3,X]at b;have a4:=mt f.2 (qB g.1);have a5:=uN.1 (qB g.2);have s:=G.2 ⟨⟨B,I,A5r.1 b.symm⟩,a4,a5⟩;rw[wv (by omega)];refine⟨⟨by omega,by omega,fun i T=> ?_⟩,by omega⟩;by_cases a8:i=t.toNat
     . subst a8;exact s
     . exact r i (by omega)
 . have u:=qB u;exact⟨fun _=>V.2 fun i T=>r i (by omega),fun _=>trivial⟩
noncomputable def HV:H8:= [(72,Da)]
def HF:An:= {loop:= [(3,⟨[1,3,24],[0,1,2,3,4,5,6,7,8,9,10,13],[(25,false,vI)],[],[(11, .nest (.mp false (.int .i64) false .bool) 174 4),(12, .row (.int .i64) 3)]⟩),(13,⟨[3,5,44,45,46,59,60],[0,1,2,3,4,5,6,7,9,10,12,13],[(61,false,vI)],[],[(11, .nest (.mp false (.int .i64) false .bool) 174 4)]⟩),(9,⟨[3,44,45],[0,1,2,3,4,5,6,7,10,12,13],[(46,false,vI)],[],[(9, .row (.sl tE) 79),(11, .nest (.mp false (.int .i64) false .bool) 174 4)]⟩)],plan:= [(1,[1,4,7,10],[],true,(.p 0 (.q 1 (.p 3 (.q 4 (.p 6 (.q 7 (.p 9 (.q 10 (.al [2,5,8,11] [12] (.e 13 (.p 14 .done)))))))))))),(11,[3],[8],true,(pZ9 0 3 (.q 3 (.p 4 (.p 5 (.e 6 (.p 7 (.e 8 .done)))))))),(15,[3,5],[9],false,(pZ9 0 3 (.q 3 (.p 4 (.q 5 (.p 6 (.p 8 (.e 7 (.e 9 .done)))))))))]}
noncomputable def Xv:H8:= []
def Wi:An:= {plan:= [(1,[0,3,4,7,10],[],false,(.q 0 (.p 1 (.p 2 (.q 3 (.q 4 (.p 5 (.p 6 (.q 7 (.p 8 (.p 9 (.q 10 (.p 11 (.e 12 (.e 13 (.p 14 .done))))))))))))))))]}
noncomputable def Xw:H8:= []
def Wj:An:= {plan:= [(1,[0,3,4,7,10],[],false,(.q 0 (.p 1 (.p 2 (.q 3 (.q 4 (.p 5 (.p 6 (.q 7 (.p 8 (.p 9 (.q 10 (.p 11 (.e 12 (.e 13 (.p 14 .done))))))))))))))))]}
noncomputable def Xx:H8:= []
def Wk:An:= {plan:= [(1,[0,3,4,7,10],[],false,(.q 0 (.p 1 (.p 2 (.q 3 (.q 4 (.p 5 (.p 6 (.q 7 (.p 8 (.p 9 (.q 10 (.p 11 (.e 12 (.e 13 (.p 14 .done))))))))))))))))]}
noncomputable def Xy:H8:= []
def Wl:An:= {plan:= [(1,[0,3,4,7,10],[],false,(.q 0 (.p 1 (.p 2 (.q 3 (.q 4 (.p 5 (.p 6 (.q 7 (.p 8 (.p 9 (.q 10 (.p 11 (.e 12 (.e 13 (.p 14 .done))))))))))))))))]}
noncomputable def HW:H8:= [(158,Hq (TN ⟨prog,WC⟩ [(20,Xv,Wi),(23,Xw,Wj),(28,Xx,Wk),(33,Xy,Wl)] f158.results.toList (f158.body.getD .skip) f158.ntmps))]
def HG:An:= {join:= [(8,⟨[1,6,14,15],[1,2,3,4,5,6,7,9,10,13,14,15],[(5,false,vI)],[],[(11, .nest (.mp false (.int .i64) false .bool) 174 4)]⟩),(10,⟨[1,6],[1,2,3,4,5,6,7,9,10,13,14,15],[(5,false,vI)],[],[(11, .nest (.mp false (.int .i64) false .bool) 174 4)]⟩),(14,⟨[1,3],[1,2,3,4,5,6,7,15],[],[(13,155,[.fix 9, .fix 10, .fix 11, .own (.int .i64) 3])],[(9, .row (.sl tE) 79),(10, .nest (.sl tE) 79 106),(11, .nest (.mp false (.int .i64) false .bool) 174 4)]⟩),(20,⟨[3],[1,2,3,4,5,6,7,9,10,13,17],[(2,false,vI)],[],[(11, .nest (.mp false (.int .i64) false .bool) 174 4)]⟩)],loop:= [(4,⟨[1,6,14],[1,2,3,4,5,6,7,9,10,13,14,15],[(5,false,vI),(15,false,vI)],[],[(11, .nest (.mp false (.int .i64) false .bool) 174 4)]⟩),(16,⟨[1,3,66],[1,2,3,4,5,6,7,9,10,11,13,15,17],[(2,false,vI)],[],[(19, .itM false (.int .i64) false .bool 18)]⟩)],plan:= [(13,[1,4,7,10],[14,17],false,(.q 1 (.p 2 (.p 3 (.q 4 (.p 5 (.p 6 (.q 7 (.p 8 (.p 9 (.q 10 (pZ9 11 3 (.or 0 (.e 14 (.p 15 (.p 16 (.e 17 .done)))) (.e 14 (.e 0 (.p 15 (.p 16 (.e 17 .done)))))))))))))))))),(18,[3,6,9,11,14,17,22,25,28,30,33,36],[],true,(pZ9 0 3 (.q 3 (.p 4 (.p 5 (.q 6 (.p 7 (.p 8 (.q 9 (.p 10 (.q 11 (.p 12 (.p 13 (.q 14 (.p 15 (.p 16 (.q 17 (pZ9 18 4 (.q 22 (.p 23 (.p 24 (.q 25 (.p 26 (.p 27 (.q 28 (.p 29 (.q 30 (.p 31 (.p 32 (.q 33 (.p 34 (.p 35 (.q 36 (pZ9 37 8 .done))))))))))))))))))))))))))))))))))]}
noncomputable def Xz:H8:= []
def Wm:An:= {loop:= [(1,⟨[0,2,6,7],[1,2,3,4,5,6,7,9,10,13,15,16,17],[(8,false,vI)],[],[(11, .nest (.mp false (.int .i64) false .bool) 174 4)]⟩)],plan:= [(3,[0,3,5],[9],false,(.q 0 (.p 1 (.p 2 (.q 3 (.p 4 (.q 5 (.p 6 (.p 8 (.e 7 (.e 9 .done)))))))))))]}
noncomputable def Vk:H8:= []
def Tf:An:= {loop:= [(1,⟨[0,2,6,7],[1,2,3,4,5,6,7,9,10,13,15,16,17,18,19],[(8,false,vI)],[],[(11, .nest (.mp false (.int .i64) false .bool) 174 4)]⟩)],plan:= [(3,[0,3,5],[9],false,(.q 0 (.p 1 (.p 2 (.q 3 (.p 4 (.q 5 (.p 6 (.p 8 (.e 7 (.e 9 .done)))))))))))]}
noncomputable def HX:H8:= [(45,Fi),(67,W4),(71,Bi),(160,Bh),(161,P8),(159,Hq (TN ⟨prog,WC⟩ [(29,Xz,Wm),(107,Vk,Tf)] f159.results.toList (f159.body.getD .skip) f159.ntmps))]
def HH:An:= {join:= [(10,⟨[1,3,4,8,9,10],[1,2,3,4,5,6,7,9,10,13,15,16,17,18],[(12,false,[.own (.int .i64) 3])],[],[(11, .nest (.mp false (.int .i64) false .bool) 174 4)]⟩),(14,⟨[1,3,4,8,9,10,15,53,54,55],[1,2,3,4,5,6,7,9,10,11,13,15,16,17,18,19],[(16,false,[.fixB 20])],[(20,43,[.val .bool, .val (.sl (.int .u32)), .val (.sl (.int .u32))])],[]⟩),(15,⟨[1,3,4,8,9,10,15,16,53,54,55],[1,2,3,4,5,6,7,9,11,13,15,16,17,18,19,20],[],[],[(10, .nest (.sl tE) 79 106)]⟩)],loop:= [(7,⟨[1,3,4,8,9,10,44],[1,2,3,4,5,6,7,9,10,11,13,15,16,17,18],[(12,false,[.own (.int .i64) 3])],[],[(20, .itM false (.int .i64) false .bool 19)]⟩),(18,⟨[1,3,4,8,9,10,15,53,54,55,114,115],[1,2,3,4,5,6,7,9,10,13,15,16,17,18,19],[(116,false,vI)],[],[(11, .nest (.mp false (.int .i64) false .bool) 174 4)]⟩),(11,⟨[1,3,4,8,9,10,53,54],[1,2,3,4,5,6,7,13,15,16,17,18,19],[(55,false,vI)],[],[(9, .row (.sl tE) 79),(10, .nest (.sl tE) 79 106),(11, .nest (.mp false (.int .i64) false .bool) 174 4)]⟩)],plan:= [(13,[0,3,6,9],[12],true,(.q 0 (.p 1 (.p 2 (.q 3 (.p 4 (.p 5 (.q 6 (.p 7 (.q 9 (.or 8 (.or 10 (.e 11 (.e 12 .done)) (.e 11 (.e 10 (.e 12 .done)))) (.e 11 (.e 8 (.e 10 (.e 12 .done))))))))))))))),(14,[5,8,13],[16,18],false,(.p 4 (.q 5 (.p 6 (.p 7 (.q 8 (.p 9 (.p 10 (.p 12 (.q 13 (.p 14 (.or 0 (.p 1 (.p 2 (.or 3 (.or 11 (.e 15 (.e 16 (.p 17 (.e 18 .done)))) (.e 15 (.e 11 (.e 16 (.p 17 (.e 18 .done)))))) (.or 11 (.or 3 (.e 15 (.e 16 (.p 17 (.e 18 .done)))) (.e 15 (.or 3 (.e 16 (.p 17 (.e 18 .done))) (.e 16 (.e 3 (.p 17 (.e 18 .done))))))) (.e 15 (.or 3 (.e 11 (.e 16 (.p 17 (.e 18 .done)))) (.e 11 (.or 3 (.e 16 (.p 17 (.e 18 .done))) (.e 16 (.e 3 (.p 17 (.e 18 .done)))))))))))) (.or 11 (.or 0 (.p 1 (.p 2 (.or 3 (.e 15 (.e 16 (.p 17 (.e 18 .done)))) (.e 15 (.or 3 (.e 16 (.p 17 (.e 18 .done))) (.e 16 (.e 3 (.p 17 (.e 18 .done))))))))) (.e 15 (.or 0 (.p 1 (.p 2 (.or 3 (.e 16 (.p 17 (.e 18 .done))) (.e 16 (.e 3 (.p 17 (.e 18 .done))))))) (.e 16 (.e 0 (.p 1 (.p 2 (.e 3 (.p 17 (.e 18 .done)))))))))) (.e 15 (.or 0 (.p 1 (.p 2 (.or 3 (.e 11 (.e 16 (.p 17 (.e 18 .done)))) (.e 11 (.or 3 (.e 16 (.p 17 (.e 18 .done))) (.e 16 (.e 3 (.p 17 (.e 18 .done))))))))) (.e 11 (.or 0 (.p 1 (.p 2 (.or 3 (.e 16 (.p 17 (.e 18 .done))) (.e 16 (.e 3 (.p 17 (.e 18 .done))))))) (.e 16 (.e 0 (.p 1 (.p 2 (.e 3 (.p 17 (.e 18 .done)))))))))))))))))))))))),(15,[0,3,5,8,11,12,14],[17],true,(.q 0 (.p 1 (.p 2 (.q 3 (.p 4 (.q 5 (.p 6 (.p 7 (.q 8 (.p 9 (.p 10 (.q 11 (.q 12 (.q 14 (.e 13 (.e 15 (.p 16 (.e 17 .done))))))))))))))))))),(20,[0,3,5],[9],false,(.q 0 (.p 1 (.p 2 (.q 3 (.p 4 (.q 5 (.p 6 (.p 8 (.e 7 (.e 9 .done)))))))))))]}
def Te:An:= {join:= [(13,⟨[2,5,6,7,8,45,46],[1,2,3,4,5,6,7],[(9,false,vI),(10,false,vI),(11,false,[.val .bool])],[(13,155,[.fix 9, .fix 10, .fix 11, .own (.int .i64) 3])],[(9, .row (.sl tE) 79),(10, .nest (.sl tE) 79 106),(11, .nest (.mp false (.int .i64) false .bool) 174 4)]⟩),(16,⟨[2,5,6,7,8,9,10,45,46],[1,4,5,6,9,10,11,13,15],[],[],[(2, .row (.int .i64) 3),(3, .row (.int .i64) 3),(7, .row (.int .i64) 3)]⟩),(22,⟨[2,5,6,7,12,13,79,80,81],[1,2,3,5,6,9,11,13,14],[],[],[(4, .row (.sl tE) 79),(10, .nest (.sl tE) 79 106)]⟩)],loop:= [(10,⟨[2,5,6,7,45],[1,4,5,6],[(46,false,vI)],[(13,155,[.fix 9, .fix 10, .fix 11, .own (.int .i64) 3])],[(2, .row (.int .i64) 3),(3, .row (.int .i64) 3),(7, .row (.int .i64) 3),(9, .row (.sl tE) 79),(10, .nest (.sl tE) 79 106),(11, .nest (.mp false (.int .i64) false .bool) 174 4)]⟩),(19,⟨[2,5,7,79,80],[1,2,3,6,9,11,13,14],[(6,false,[.val (.sl (.int .i64))]),(81,false,vI)],[],[(4, .row (.sl tE) 79),(5, .row (.sl tE) 79),(10, .nest (.sl tE) 79 106)]⟩)],plan:= [(6,[],[16],true,(.p 0 (.p 2 (pZ9 4 3 (pZ9 9 3 (.al [1,3,7,12,15] [8,13,14] (.e 16 .done))))))),(15,[1],[12,14,16],false,(.p 0 (.q 1 (.p 2 (.p 3 (pZ9 5 7 (.or 4 (.e 12 (.p 13 (.e 14 (.p 15 (.e 16 .done))))) (.e 12 (.e 4 (.p 13 (.e 14 (.p 15 (.e 16 .done))))))))))))),(21,[7],[15,17],false,(.p 0 (.p 1 (pZ9 3 4 (.q 7 (.p 8 (.p 9 (.p 11 (.or 2 (.or 10 (.e 12 (.p 13 (.e 14 (.e 15 (.p 16 (.e 17 .done)))))) (.e 12 (.p 13 (.or 10 (.e 14 (.e 15 (.p 16 (.e 17 .done)))) (.e 14 (.e 10 (.e 15 (.p 16 (.e 17 .done))))))))) (.or 10 (.or 2 (.e 12 (.p 13 (.e 14 (.e 15 (.p 16 (.e 17 .done)))))) (.e 12 (.p 13 (.or 2 (.e 14 (.e 15 (.p 16 (.e 17 .done)))) (.e 14 (.or 2 (.e 15 (.p 16 (.e 17 .done))) (.e 15 (.e 2 (.p 16 (.e 17 .done)))))))))) (.e 12 (.p 13 (.or 2 (.or 10 (.e 14 (.e 15 (.p 16 (.e 17 .done)))) (.e 14 (.e 10 (.e 15 (.p 16 (.e 17 .done)))))) (.or 10 (.or 2 (.e 14 (.e 15 (.p 16 (.e 17 .done)))) (.e 14 (.or 2 (.e 15 (.p 16 (.e 17 .done))) (.e 15 (.e 2 (.p 16 (.e 17 .done))))))) (.e 14 (.or 2 (.e 10 (.e 15 (.p 16 (.e 17 .done)))) (.e 10 (.or 2 (.e 15 (.p 16 (.e 17 .done))) (.e 15 (.e 2 (.p 16 (.e 17 .done)))))))))))))))))))))),(22,[2,7,10],[17],true,(.p 0 (.p 1 (.q 2 (pZ9 3 4 (.q 7 (.p 8 (.p 9 (.q 10 (.p 11 (.e 12 (pZ9 13 4 (.e 17 .done)))))))))))))]}
noncomputable def Vj:H8:= [(79,M9),(85,W1),(125,V3),(122,Hq (TN ⟨prog,WC⟩ [(44,HV,HF)] f122.results.toList (f122.body.getD .skip) f122.ntmps)),(123,Hq (TN ⟨prog,WC⟩ [(51,HW,HG)] f123.results.toList (f123.body.getD .skip) f123.ntmps)),(124,Hq (TN ⟨prog,WC⟩ [(76,HX,HH)] f124.results.toList (f124.body.getD .skip) f124.ntmps))]
abbrev C7e:=(List (List EE)×List Nat)×Unit
abbrev C7r:=Int×(List (Int×Bool)×List (Int×Bool))×Unit
abbrev C7s:=Int×(List (List (Int×Bool))×List Nat)×Xr×Unit
abbrev OO:=Int×(List (List (Int×Bool))×List Nat)×Unit
abbrev C7t:=Int×Int×(List (List (Int×Bool))×List Nat)×Unit
abbrev C7u:=Int×Int×Bool×Xr×List (List EE)×(List (List EE)×List Nat)×(List (List (Int×Bool))×List Nat)×Unit
abbrev C7y:=Int×List (List EE)×(List (List (Int×Bool))×List Nat)×Unit
abbrev C7z:=Int×List (List EE)×(List (List EE)×List Nat)×(List (List (Int×Bool))×List Nat)×Unit
abbrev C8c:=Int×Xr×Xr×Xr×Xr×List (List EE)×(List (List EE)×List Nat)×(List (List (Int×Bool))×List Nat)×Unit
abbrev C8f:=List (List EE)×(List (List EE)×List Nat)×Unit
abbrev C8i:=Xr×(List (Int×Bool)×List (Int×Bool))×Unit
abbrev C8j:=Xr×(List (List (Int×Bool))×List Nat)×Unit
abbrev C8l:=Xr×Int×List (List EE)×List (List EE)×(List (List EE)×List Nat)×Unit
abbrev C8m:=Xr×List (List EE)×(List (List EE)×List Nat)×(List (List (Int×Bool))×List Nat)×Unit
abbrev C8n:=Xr×Xr×Xr×Unit
def Kd:A2 O5.args->Prop:=fun(x:bU)=>let ai:=(64:Nat);let bd:=(281474976710656:Int);let bb:=x.1.2.1.toNat;let ac:=(6:Int);let ab:=(4:Int);let b7:=(9223372036854775807:Int);let ba:=(x.1.2.2.length:Int);let ad:=x.1.1.toNat;let X:=(140737488355328:Nat);let R:Prop:=(∀(v:List EE),v∈ []->Ae v);let E:=(1:Int);let d:=(0:Int);let V:Prop:=(d<=x.1.2.1/\x.1.2.1<=x.1.2.1/\(↑(8:Nat):Int)*x.1.2.1<=bd/\x.1.2.1<=b7);let G:Prop:=(d<=x.1.1/\x.1.1<=x.1.1/\(↑(8:Nat):Int)*x.1.1<=bd/\x.1.1<=b7);let D:Prop:=(∀(s:Nat),(1:Nat)<=s->X0 s x.1->∀(i j:Nat),i<x.1.1.toNat->qs (sK s x.1.1.toNat) (el (d,d,[]) i j)/\qs (sK s i) (el (d,d,[]) i j));let b5:Prop:=(d<=x.1.1/\x.1.1<=x.1.1/\(↑(24:Nat):Int)*x.1.1<=bd/\x.1.1<=b7);True/\∀(r:V4),True/\True->r.1=decide (D1 x.1)->((!r.1)=true->(¬D1 x.1->([],[],(d,d,[]),d,d,[])=fB/\E=E)/\(D1 x.1->(x.1.1≠x.1.2.1->([],[],(d,d,[]),d,d,[])=fB/\E=ab)/\(x.1.1=x.1.2.1->(¬nonsing x.1.1.toNat (el x.1)->([],[],(d,d,[]),d,d,[])=fB/\E=ac)/\(nonsing x.1.1.toNat (el x.1)->Bz ([],[],(d,d,[]),d,d,[]) x.1.1/\E=d/\R/\R/\D/\∀(i j:Nat),i<x.1.1.toNat->j<x.1.1.toNat->luM ([],[],(d,d,[]),d,d,[]) x.1.1.toNat i j=el x.1 (ix [] i) (ix [] j)))))/\((!r.1)=false->(decide (x.1.1≠x.1.2.1)=true->(¬D1 x.1->([],[],(d,d,[]),d,d,[])=fB/\ab=E)/\(D1 x.1->(x.1.1≠x.1.2.1->([],[],(d,d,[]),d,d,[])=fB/\ab=ab)/\(x.1.1=x.1.2.1->(¬nonsing x.1.1.toNat (el x.1)->([],[],(d,d,[]),d,d,[])=fB/\ab=ac)/\(nonsing x.1.1.toNat (el x.1)->Bz ([],[],(d,d,[]),d,d,[]) x.1.1/\ab=d/\R/\R/\D/\∀(i j:Nat),i<x.1.1.toNat->j<x.1.1.toNat->luM ([],[],(d,d,[]),d,d,[]) x.1.1.toNat i j=el x.1 (ix [] i) (ix [] j)))))/\(decide (x.1.1≠x.1.2.1)=false->G/\G/\b5/\b5/\G/\b5/\b5/\V/\V/\∃(I:C7s->Prop),∃(w: _->Nat),I (d,(List.replicate bb [],Sd (Ty.mp false (Ty.int i64) false Ty.bool) bb),List.replicate bb d,())/\∀(p:C7s),let ah:=p.1.toNat;(Ty.int i64).wf p.1/\p.2.1.1.length.le 9223372036854775807/\MK p.2.2.1/\True->I p->(decide (p.1<x.1.2.1)=true->(d<=p.1/\p.1<(↑p.2.1.1.length:Int))/\(d<=p.1/\p.1<(p.2.2.1.length:Int))/\I (i64.wrap (p.1+E),(p.2.1.1.set ah [],SS ah p.2.1.2),List.set p.2.2.1 ah p.1,())/\w (i64.wrap (p.1+E),(p.2.1.1.set ah [],SS ah p.2.1.2),List.set p.2.2.1 ah p.1,())<w p)/\(decide (p.1<x.1.2.1)=false->∃(I:C7y->Prop),∃(w: _->Nat),I (d,List.replicate ad [],p.2.1,())/\∀(z:C7y),let F:=(gx [] x.1.2.2 z.1);let bh:=(↑F.length:Int);(Ty.int i64).wf z.1/\Rw z.2.1/\z.2.2.1.1.length.le 9223372036854775807/\True->I z->(decide (z.1<ba)=true->(d<=z.1/\z.1<ba)/\Qq F/\∀(r:EH),UR r.1/\True->VO (A5 F) r.1->(d<=z.1/\z.1<(z.2.1.length:Int))/\∃(I_1:OO->Prop),∃(an: _->Nat),I_1 (d,z.2.2.1,())/\∀(p:OO),let b3:=(gx F3 F p.1);let al:=b3.1.toNat;let bm:=(i64.wrap (z.1+E),List.set z.2.1 z.1.toNat r.1,p.2.1,());(Ty.int i64).wf p.1/\p.2.1.1.length.le 9223372036854775807/\True->I_1 p->(decide (p.1<bh)=true->(d<=p.1/\p.1<bh)/\(d<=b3.1/\b3.1<(↑p.2.1.1.length:Int))/\¬Int.toNat b3.1∈p.2.1.2/\I_1 (i64.wrap (p.1+E),(p.2.1.1.set al (Gr (Ty.int i64) z.1 true (p.2.1.1.getD al [])),p.2.1.2),())/\an (i64.wrap (p.1+E),(p.2.1.1.set al (Gr (Ty.int i64) z.1 true (p.2.1.1.getD al [])),p.2.1.2),())<an p)/\(decide (p.1<bh)=false->I bm/\w bm<w z))/\(decide (z.1<ba)=false->∃(I:C8c->Prop),∃(w: _->Nat),I (d,p.2.2.1,List.replicate ad d,List.replicate ad d,List.replicate ad d,z.2.1,(List.replicate ad [],Sd tE.sl ad),z.2.2.1,())/\∀(b:C8c),let bq:Prop:=(d<=b.1/\b.1<(b.2.2.2.1.length:Int));let av:=(b.2.2.1.length:Int);let a3:=(↑b.2.1.length:Int);(Ty.int i64).wf b.1/\(Ty.int i64).sl.wf b.2.1/\MK b.2.2.1/\MK b.2.2.2.1/\MK b.2.2.2.2.1/\Rw b.2.2.2.2.2.1/\b.2.2.2.2.2.2.1.1.length.le 9223372036854775807/\b.2.2.2.2.2.2.2.1.1.length.le 9223372036854775807/\True->I b->(decide (b.1<x.1.1)=true->∃(J:C7u->Prop),(∃(J_1:OO->Prop),(∃(I:C7t->Prop),∃(w: _->Nat),I (d,d,b.2.2.2.2.2.2.2.1,())/\∀(a:C7t),let bv:=(↑a.2.2.1.1.length:Int);let Z:=a.1.toNat;let a2:=a.2.1.toNat;let K:Prop:=((↑(a.2.2.1.1.getD (b.2.1.getD a2 d).toNat []).length:Int)<(↑((a.2.2.1.1.set (b.2.1.getD a2 d).toNat (a.2.2.1.1.getD (b.2.1.getD a2 d).toNat [])).getD (b.2.1.getD Z d).toNat []).length:Int));(Ty.int i64).wf a.1/\(Ty.int i64).wf a.2.1/\a.2.2.1.1.length.le 9223372036854775807/\True->I a->(decide (a.2.1<a3)=true->∃(J:OO->Prop),((d<=a.2.1/\a.2.1<a3)/\(d<=b.2.1.getD a2 d/\b.2.1.getD a2 d<bv)/\¬(b.2.1.getD a2 d).toNat∈a.2.2.1.2/\(a.2.2.1.1.getD (b.2.1.getD a2 d).toNat []).length<=9223372036854775807/\(d<=a.1/\a.1<a3)/\(d<=b.2.1.getD Z d/\b.2.1.getD Z d<bv)/\¬(b.2.1.getD Z d).toNat∈a.2.2.1.2/\((a.2.2.1.1.set (b.2.1.getD a2 d).toNat (a.2.2.1.1.getD (b.2.1.getD a2 d).toNat [])).getD (b.2.1.getD Z d).toNat []).length<=9223372036854775807/\(decide K=true->J (a.2.1,((a.2.2.1.1.set (b.2.1.getD a2 d).toNat (a.2.2.1.1.getD (b.2.1.getD a2 d).toNat [])).set (b.2.1.getD Z d).toNat ((a.2.2.1.1.set (b.2.1.getD a2 d).toNat (a.2.2.1.1.getD (b.2.1.getD a2 d).toNat [])).getD (b.2.1.getD Z d).toNat []),a.2.2.1.2),()))/\(decide K=false->J (a.1,((a.2.2.1.1.set (b.2.1.getD a2 d).toNat (a.2.2.1.1.getD (b.2.1.getD a2 d).toNat [])).set (b.2.1.getD Z d).toNat ((a.2.2.1.1.set (b.2.1.getD a2 d).toNat (a.2.2.1.1.getD (b.2.1.getD a2 d).toNat [])).getD (b.2.1.getD Z d).toNat []),a.2.2.1.2),())))/\∀(h:OO),let Q:=h.1.toNat;let bo:Prop:=((↑(h.2.1.1.getD (b.2.1.getD Q d).toNat []).length:Int)<=E);(Ty.int i64).wf h.1/\h.2.1.1.length.le 9223372036854775807/\True->J h->(d<=h.1/\h.1<a3)/\(d<=b.2.1.getD Q d/\b.2.1.getD Q d<(↑h.2.1.1.length:Int))/\¬(b.2.1.getD Q d).toNat∈h.2.1.2/\(h.2.1.1.getD (b.2.1.getD Q d).toNat []).length<=9223372036854775807/\(decide bo=true->J_1 (h.1,(h.2.1.1.set (b.2.1.getD Q d).toNat (h.2.1.1.getD (b.2.1.getD Q d).toNat []),h.2.1.2),()))/\(decide bo=false->I (h.1,i64.wrap (a.2.1+E),(h.2.1.1.set (b.2.1.getD Q d).toNat (h.2.1.1.getD (b.2.1.getD Q d).toNat []),h.2.1.2),())/\w (h.1,i64.wrap (a.2.1+E),(h.2.1.1.set (b.2.1.getD Q d).toNat (h.2.1.1.getD (b.2.1.getD Q d).toNat []),h.2.1.2),())<w a))/\(decide (a.2.1<a3)=false->J_1 (a.1,a.2.2.1,())))/\∀(a:OO),let az:=(i64.wrap (a.1+E));let H:Prop:=((Int.toNat a.1+(List.drop az.toNat (List.take a3.toNat b.2.1)).length)*(8:Nat)<=X/\Int.toNat a.1+(List.drop az.toNat (List.take a3.toNat b.2.1)).length<=9223372036854775807);let B:=a.1.toNat;let bp:=(↑(a.2.1.1.getD (b.2.1.getD B d).toNat []).length:Int);(Ty.int i64).wf a.1/\a.2.1.1.length.le 9223372036854775807/\True->J_1 a->(d<=a.1/\a.1<a3)/\(d<=b.2.1.getD B d/\b.2.1.getD B d<(↑a.2.1.1.length:Int))/\¬(b.2.1.getD B d).toNat∈a.2.1.2/\(a.2.1.1.getD (b.2.1.getD B d).toNat []).length<=9223372036854775807/\(decide (bp=d)=true->J (d,d,false,b.2.1,b.2.2.2.2.2.1,b.2.2.2.2.2.2.1,(a.2.1.1.set (b.2.1.getD B d).toNat (a.2.1.1.getD (b.2.1.getD B d).toNat []),a.2.1.2),()))/\(decide (bp=d)=false->(d<=a.1/\a.1<a3)/\∃(J_2:C8m->Prop),((d<=d/\d<=a.1/\a.1<=a3)/\(d<=i64.wrap (a.1+E)/\i64.wrap (a.1+E)<=a3/\a3<=a3)/\(H/\J_2 (List.take B b.2.1++List.drop az.toNat (List.take a3.toNat b.2.1),b.2.2.2.2.2.1,b.2.2.2.2.2.2.1,(a.2.1.1.set (b.2.1.getD B d).toNat (a.2.1.1.getD (b.2.1.getD B d).toNat []),a.2.1.2),()))/\H/\J_2 (List.take B b.2.1++List.drop az.toNat (List.take a3.toNat b.2.1),b.2.2.2.2.2.1,b.2.2.2.2.2.2.1,(a.2.1.1.set (b.2.1.getD B d).toNat (a.2.1.1.getD (b.2.1.getD B d).toNat []),a.2.1.2),()))/\∀(h:C8m),let aw:=(h.2.1.length:Int);(Ty.int i64).sl.wf h.1/\Rw h.2.1/\h.2.2.1.1.length.le 9223372036854775807/\h.2.2.2.1.1.length.le 9223372036854775807/\True->J_2 h->∃(J_3:OO->Prop),((d<=b.2.1.getD B d/\b.2.1.getD B d<(↑h.2.2.2.1.1.length:Int))/\¬(b.2.1.getD B d).toNat∈h.2.2.2.1.2/\∃(I:C7r->Prop),∃(w: _->Nat),I ((-1:Int),(h.2.2.2.1.1.getD (b.2.1.getD B d).toNat [],h.2.2.2.1.1.getD (b.2.1.getD B d).toNat []),())/\∀(l:C7r),let ao:=(decide (l.1<d));let bs:=(↑(List.getD h.2.1 l.1.toNat []).length:Int);(Ty.int i64).wf l.1/\(∀(x:Int×Bool),x∈l.2.1.2->I2 x.1/\True)/\True->I l->(l.2.1.2= []->(false=true->False)/\(false=false->J_3 (l.1,(h.2.2.2.1.1.set (b.2.1.getD B d).toNat l.2.1.1,h.2.2.2.1.2),())))/\∀(ak:List (Int×Bool)) (a4:Int×Bool) (am:List (Int×Bool)),let bt:=(↑(List.getD h.2.1 a4.1.toNat []).length:Int);let b0:=(l.2.1.1,ak++am);let U:=(L8 (decide (bt=bs)) (decide (a4.1<l.1)) false);let A:=(decide (bt<bs));l.2.1.2=ak++a4::am->(true=true->(decide (l.1<d)=false->d<=a4.1/\a4.1<aw)/\(decide (l.1<d)=false->d<=l.1/\l.1<aw)/\(L8 ao true A=false->d<=a4.1/\a4.1<aw)/\(L8 ao true A=false->d<=l.1/\l.1<aw)/\(L8 (L8 ao true A) true U=true->I (a4.1,b0,())/\w (a4.1,b0,())<w l)/\(L8 (L8 ao true A) true U=false->I (l.1,b0,())/\w (l.1,b0,())<w l))/\(true=false->J_3 (l.1,(h.2.2.2.1.1,(b.2.1.getD B d).toNat::h.2.2.2.1.2),())))/\∀(p:OO),(Ty.int i64).wf p.1/\p.2.1.1.length.le 9223372036854775807/\True->J_3 p->J (p.1,b.2.1.getD B d,true,h.1,h.2.1,h.2.2.1,p.2.1,())))/\∀(a:C7u),let b1:=a.2.1.toNat;let bn:Prop:=(d<=a.2.1/\a.2.1<(b.2.2.2.2.1.length:Int));let S:=(List.set b.2.2.1 b.1.toNat a.1,List.set b.2.2.2.1 b.1.toNat a.2.1,List.set b.2.2.2.2.1 b1 b.1,());let af:=(List.getD a.2.2.2.2.1 a.1.toNat []);let ag:=(↑af.length:Int);(Ty.int i64).wf a.1/\(Ty.int i64).wf a.2.1/\Ty.bool.wf a.2.2.1/\(Ty.int i64).sl.wf a.2.2.2.1/\Rw a.2.2.2.2.1/\a.2.2.2.2.2.1.1.length.le 9223372036854775807/\a.2.2.2.2.2.2.1.1.length.le 9223372036854775807/\True->J a->((!a.2.2.1)=true->(¬D1 x.1->([],[],(d,d,[]),d,d,[])=fB/\ac=E)/\(D1 x.1->(x.1.1≠x.1.2.1->([],[],(d,d,[]),d,d,[])=fB/\ac=ab)/\(x.1.1=x.1.2.1->(¬nonsing x.1.1.toNat (el x.1)->([],[],(d,d,[]),d,d,[])=fB/\ac=ac)/\(nonsing x.1.1.toNat (el x.1)->Bz ([],[],(d,d,[]),d,d,[]) x.1.1/\ac=d/\R/\R/\D/\∀(i j:Nat),i<x.1.1.toNat->j<x.1.1.toNat->luM ([],[],(d,d,[]),d,d,[]) x.1.1.toNat i j=el x.1 (ix [] i) (ix [] j)))))/\((!a.2.2.1)=false->∃(J:C8n->Prop),((d<=b.1/\b.1<av)/\(bq/\bn/\J S)/\bq/\bn/\J S)/\∀(h:C8n),MK h.1/\MK h.2.1/\MK h.2.2.1/\True->J h->(d<=a.1/\a.1<(a.2.2.2.2.1.length:Int))/\∃(I_1:OO->Prop),∃(an: _->Nat),I_1 (d,a.2.2.2.2.2.2.1,())/\∀(l:OO),let bw:=(↑l.2.1.1.length:Int);let ay:=(gx F3 af l.1);let ar:=ay.1.toNat;(Ty.int i64).wf l.1/\l.2.1.1.length.le 9223372036854775807/\True->I_1 l->(decide (l.1<ag)=true->(d<=l.1/\l.1<ag)/\(d<=ay.1/\ay.1<bw)/\¬Int.toNat ay.1∈l.2.1.2/\I_1 (i64.wrap (l.1+E),(l.2.1.1.set ar (Sb (Ty.int i64) a.1 (l.2.1.1.getD ar [])),l.2.1.2),())/\an (i64.wrap (l.1+E),(l.2.1.1.set ar (Sb (Ty.int i64) a.1 (l.2.1.1.getD ar [])),l.2.1.2),())<an l)/\(decide (l.1<ag)=false->KP K1 af/\∀(a7:D5),Zr a7.1/\True->a7.1=rc (A5 af a.2.1)->D8 a7.1/\∀(a9:A7o),Zr a9.1/\True/\True->(rv a7.1=(0:Rat)->a9.2.1=false)/\(rv a7.1≠(0:Rat)->a9.1=rc (rv a7.1)⁻¹/\a9.2.1=true)->∃(J:C8j->Prop),((d<=a.2.1/\a.2.1<bw)/\¬Int.toNat a.2.1∈l.2.1.2/\∃(I:C8i->Prop),∃(w: _->Nat),I ([],(l.2.1.1.getD b1 [],l.2.1.1.getD b1 []),())/\∀(p:C8i),(Ty.int i64).sl.wf p.1/\(∀(x:Int×Bool),x∈p.2.1.2->I2 x.1/\True)/\True->I p->(p.2.1.2= []->(false=true->False)/\(false=false->J (p.1,(l.2.1.1.set b1 p.2.1.1,l.2.1.2),())))/\∀(ak:List (Int×Bool)) (a4:Int×Bool) (am:List (Int×Bool)),let bj:=(p.1++ [a4.1],(p.2.1.1,ak++am),());p.2.1.2=ak++a4::am->(true=true->((p.1.length+ [a4.1].length)*(8:Nat)<=X/\p.1.length+ [a4.1].length<=9223372036854775807)/\I bj/\w bj<w p)/\(true=false->J (p.1,(l.2.1.1,Int.toNat a.2.1::l.2.1.2),())))/\∀(f:C8j),let bc:=(↑f.1.length:Int);(Ty.int i64).sl.wf f.1/\f.2.1.1.length.le 9223372036854775807/\True->J f->∃(I_2:C7z->Prop),∃(bx: _->Nat),I_2 (d,a.2.2.2.2.1,a.2.2.2.2.2.1,f.2.1,())/\∀(g:C7z),let Y:=(i64.wrap (b.1+E),a.2.2.2.1,h.1,h.2.1,h.2.2.1,g.2.1,g.2.2.1,g.2.2.2.1,());let e:=g.1.toNat;let W:Prop:=(d<=f.1.getD e d/\f.1.getD e d<(g.2.1.length:Int));let L:=(List.getD g.2.1 (f.1.getD e d).toNat []);let a6:Prop:=(d<=f.1.getD e d/\f.1.getD e d<(↑g.2.2.1.1.length:Int));(Ty.int i64).wf g.1/\Rw g.2.1/\g.2.2.1.1.length.le 9223372036854775807/\g.2.2.2.1.1.length.le 9223372036854775807/\True->I_2 g->(decide (g.1<bc)=true->(d<=g.1/\g.1<bc)/\∃(J:HZ->Prop),(W/\(KP K1 L/\∀(r:D5),Zr r.1/\True->r.1=rc (A5 L a.2.1)->((D8 r.1/\D8 a9.1)/\∀(y:D5),Zr y.1/\True->y.1=rc (rv r.1*rv a9.1)->J (y.1.1.1,y.1.1.2,y.1.2,()))/\(D8 r.1/\D8 a9.1)/\∀(y:D5),Zr y.1/\True->y.1=rc (rv r.1*rv a9.1)->J (y.1.1.1,y.1.1.2,y.1.2,()))/\KP K1 L/\∀(r:D5),Zr r.1/\True->r.1=rc (A5 L a.2.1)->(D8 r.1/\D8 a9.1)/\∀(y:D5),Zr y.1/\True->y.1=rc (rv r.1*rv a9.1)->J (y.1.1.1,y.1.1.2,y.1.2,()))/\∀(aa:HZ),let be:=(aa.1,aa.2.1);let a5:=(b.1,be,aa.2.2.1);let a8:Prop:=(((g.2.2.1.1.getD (f.1.getD e d).toNat []).length+ [a5].length)*ai<=X/\(g.2.2.1.1.getD (f.1.getD e d).toNat []).length+ [a5].length<=9223372036854775807);Ty.bool.wf aa.1/\(Ty.int u32).sl.wf aa.2.1/\(Ty.int u32).sl.wf aa.2.2.1/\True->J aa->∃(J:C7e->Prop),let n:Prop:=(¬(f.1.getD e d).toNat∈g.2.2.1.2/\a8/\a6/\(f.1.getD e d).toNat=(f.1.getD e d).toNat/\J ((g.2.2.1.1.set (f.1.getD e d).toNat (g.2.2.1.1.getD (f.1.getD e d).toNat []++ [a5]),g.2.2.1.2),()));let c:Prop:=(a8/\a6/\(f.1.getD e d).toNat=(f.1.getD e d).toNat/\J ((g.2.2.1.1.set (f.1.getD e d).toNat (g.2.2.1.1.getD (f.1.getD e d).toNat []++ [a5]),g.2.2.1.2),()));let P:Prop:=(c/\a8/\a6/\(f.1.getD e d).toNat=(f.1.getD e d).toNat/\J ((g.2.2.1.1.set (f.1.getD e d).toNat (g.2.2.1.1.getD (f.1.getD e d).toNat []++ [a5]),g.2.2.1.2),()));(a6/\((n/\¬(f.1.getD e d).toNat∈g.2.2.1.2/\a8/\a6/\(f.1.getD e d).toNat=(f.1.getD e d).toNat/\J ((g.2.2.1.1.set (f.1.getD e d).toNat (g.2.2.1.1.getD (f.1.getD e d).toNat []++ [a5]),g.2.2.1.2),()))/\(¬(f.1.getD e d).toNat∈g.2.2.1.2/\c/\c/\a8/\a6/\(f.1.getD e d).toNat=(f.1.getD e d).toNat/\J ((g.2.2.1.1.set (f.1.getD e d).toNat (g.2.2.1.1.getD (f.1.getD e d).toNat []++ [a5]),g.2.2.1.2),()))/\n/\¬(f.1.getD e d).toNat∈g.2.2.1.2/\c/\a8/\a6/\(f.1.getD e d).toNat=(f.1.getD e d).toNat/\J ((g.2.2.1.1.set (f.1.getD e d).toNat (g.2.2.1.1.getD (f.1.getD e d).toNat []++ [a5]),g.2.2.1.2),()))/\(¬(f.1.getD e d).toNat∈g.2.2.1.2/\(c/\c/\a8/\a6/\(f.1.getD e d).toNat=(f.1.getD e d).toNat/\J ((g.2.2.1.1.set (f.1.getD e d).toNat (g.2.2.1.1.getD (f.1.getD e d).toNat []++ [a5]),g.2.2.1.2),()))/\P/\a8/\a6/\(f.1.getD e d).toNat=(f.1.getD e d).toNat/\J ((g.2.2.1.1.set (f.1.getD e d).toNat (g.2.2.1.1.getD (f.1.getD e d).toNat []++ [a5]),g.2.2.1.2),()))/\(n/\¬(f.1.getD e d).toNat∈g.2.2.1.2/\c/\a8/\a6/\(f.1.getD e d).toNat=(f.1.getD e d).toNat/\J ((g.2.2.1.1.set (f.1.getD e d).toNat (g.2.2.1.1.getD (f.1.getD e d).toNat []++ [a5]),g.2.2.1.2),()))/\¬(f.1.getD e d).toNat∈g.2.2.1.2/\P/\a8/\a6/\(f.1.getD e d).toNat=(f.1.getD e d).toNat/\J ((g.2.2.1.1.set (f.1.getD e d).toNat (g.2.2.1.1.getD (f.1.getD e d).toNat []++ [a5]),g.2.2.1.2),()))/\∀(bi:C7e),bi.1.1.length.le 9223372036854775807/\True->J bi->W/\D8 (be,aa.2.2.1)/\∀(y:D5),Zr y.1/\True->y.1=rc (-rv (be,aa.2.2.1))->(KP K1 L/\sz K1 y.1/\KP K1 af)/\∀(b4:EH),let O:=(List.set g.2.1 (f.1.getD e d).toNat b4.1);let b8:=(↑(O.getD (f.1.getD e d).toNat []).length:Int);UR b4.1/\True->VO (fun(i:Int)=>A5 L i+rv y.1*A5 af i) b4.1->W/\∃(I:OO->Prop),∃(w: _->Nat),I (d,g.2.2.2.1,())/\∀(a0:OO),let ax:=(gx F3 af a0.1);let au:=ax.1.toNat;(Ty.int i64).wf a0.1/\a0.2.1.1.length.le 9223372036854775807/\True->I a0->(decide (a0.1<ag)=true->(d<=a0.1/\a0.1<ag)/\(d<=ax.1/\ax.1<(↑a0.2.1.1.length:Int))/\¬Int.toNat ax.1∈a0.2.1.2/\I (i64.wrap (a0.1+E),(a0.2.1.1.set au (Sb (Ty.int i64) (f.1.getD e d) (a0.2.1.1.getD au [])),a0.2.1.2),())/\w (i64.wrap (a0.1+E),(a0.2.1.1.set au (Sb (Ty.int i64) (f.1.getD e d) (a0.2.1.1.getD au [])),a0.2.1.2),())<w a0)/\(decide (a0.1<ag)=false->(d<=f.1.getD e d/\f.1.getD e d<(↑O.length:Int))/\∃(I:OO->Prop),∃(w: _->Nat),I (d,a0.2.1,())/\∀(a1:OO),let bk:=(i64.wrap (g.1+E),List.set g.2.1 (f.1.getD e d).toNat b4.1,bi.1,a1.2.1,());let m:=(gx F3 (O.getD (f.1.getD e d).toNat []) a1.1);let b2:=m.1.toNat;(Ty.int i64).wf a1.1/\a1.2.1.1.length.le 9223372036854775807/\True->I a1->(decide (a1.1<b8)=true->(d<=a1.1/\a1.1<b8)/\(d<=m.1/\m.1<(↑a1.2.1.1.length:Int))/\¬Int.toNat m.1∈a1.2.1.2/\I (i64.wrap (a1.1+E),(a1.2.1.1.set b2 (Gr (Ty.int i64) (f.1.getD e d) true (a1.2.1.1.getD b2 [])),a1.2.1.2),())/\w (i64.wrap (a1.1+E),(a1.2.1.1.set b2 (Gr (Ty.int i64) (f.1.getD e d) true (a1.2.1.1.getD b2 [])),a1.2.1.2),())<w a1)/\(decide (a1.1<b8)=false->I_2 bk/\bx bk<bx g)))/\(decide (g.1<bc)=false->I Y/\w Y<w b))))/\(decide (b.1<x.1.1)=false->∃(I:C8l->Prop),∃(w: _->Nat),I (b.2.2.2.2.1,d,List.replicate ad [],List.replicate ad [],b.2.2.2.2.2.2.1,())/\∀(a:C8l),let bu:=(x.1.1,x.1.1,a.2.2.1);let b6:=(a.1.length:Int);let t:=a.2.1.toNat;let o:=(b.2.2.1,b.2.2.2.1,bu,x.1.1,x.1.1,a.2.2.2.1);let k:Prop:=(d<=a.2.1/\a.2.1<(a.2.2.1.length:Int));let u:=(List.getD b.2.2.1 t d);let b9:=(List.getD b.2.2.2.2.2.1 u.toNat []);(Ty.int i64).sl.wf a.1/\(Ty.int i64).wf a.2.1/\Rw a.2.2.1/\Rw a.2.2.2.1/\a.2.2.2.2.1.1.length.le 9223372036854775807/\True->I a->(decide (a.2.1<av)=true->(d<=a.2.1/\a.2.1<av)/\∃(J:C8f->Prop),((d<=List.getD b.2.2.1 t d/\List.getD b.2.2.1 t d<(↑a.2.2.2.2.1.1.length:Int))/\((¬u.toNat∈a.2.2.2.2.1.2/\True/\∀(r:D5),let bf:=(a.2.1,r.1);Zr r.1/\True->r.1=ri E->(((a.2.2.2.2.1.1.getD u.toNat []).length+ [bf].length)*ai<=X/\(a.2.2.2.2.1.1.getD u.toNat []).length+ [bf].length<=9223372036854775807)/\k/\J (List.set a.2.2.1 t (a.2.2.2.2.1.1.getD u.toNat []++ [bf]),(a.2.2.2.2.1.1,u.toNat::a.2.2.2.2.1.2),()))/\True/\∀(r:D5),let ap:=(a.2.1,r.1);let M:Prop:=(((a.2.2.2.2.1.1.getD u.toNat []).length+ [ap].length)*ai<=X/\(a.2.2.2.2.1.1.getD u.toNat []).length+ [ap].length<=9223372036854775807);Zr r.1/\True->r.1=ri E->(¬u.toNat∈a.2.2.2.2.1.2/\M/\k/\J (List.set a.2.2.1 t (a.2.2.2.2.1.1.getD u.toNat []++ [ap]),(a.2.2.2.2.1.1,u.toNat::a.2.2.2.2.1.2),()))/\¬u.toNat∈a.2.2.2.2.1.2/\M/\k/\J (List.set a.2.2.1 t (a.2.2.2.2.1.1.getD u.toNat []++ [ap]),(a.2.2.2.2.1.1,u.toNat::a.2.2.2.2.1.2),()))/\(¬u.toNat∈a.2.2.2.2.1.2/\(True/\∀(r:D5),let bg:=(a.2.1,r.1);Zr r.1/\True->r.1=ri E->(((a.2.2.2.2.1.1.getD u.toNat []).length+ [bg].length)*ai<=X/\(a.2.2.2.2.1.1.getD u.toNat []).length+ [bg].length<=9223372036854775807)/\k/\J (List.set a.2.2.1 t (a.2.2.2.2.1.1.getD u.toNat []++ [bg]),(a.2.2.2.2.1.1,u.toNat::a.2.2.2.2.1.2),()))/\True/\∀(r:D5),let aq:=(a.2.1,r.1);let q:Prop:=(((a.2.2.2.2.1.1.getD u.toNat []).length+ [aq].length)*ai<=X/\(a.2.2.2.2.1.1.getD u.toNat []).length+ [aq].length<=9223372036854775807);let T:Prop:=(q/\k/\J (List.set a.2.2.1 t (a.2.2.2.2.1.1.getD u.toNat []++ [aq]),(a.2.2.2.2.1.1,u.toNat::a.2.2.2.2.1.2),()));Zr r.1/\True->r.1=ri E->T/\T/\q/\k/\J (List.set a.2.2.1 t (a.2.2.2.2.1.1.getD u.toNat []++ [aq]),(a.2.2.2.2.1.1,u.toNat::a.2.2.2.2.1.2),()))/\True/\∀(r:D5),let ae:=(a.2.1,r.1);let aj:Prop:=(((a.2.2.2.2.1.1.getD u.toNat []).length+ [ae].length)*ai<=X/\(a.2.2.2.2.1.1.getD u.toNat []).length+ [ae].length<=9223372036854775807);let N:Prop:=(¬u.toNat∈a.2.2.2.2.1.2/\aj/\k/\J (List.set a.2.2.1 t (a.2.2.2.2.1.1.getD u.toNat []++ [ae]),(a.2.2.2.2.1.1,u.toNat::a.2.2.2.2.1.2),()));let C:Prop:=(aj/\k/\J (List.set a.2.2.1 t (a.2.2.2.2.1.1.getD u.toNat []++ [ae]),(a.2.2.2.2.1.1,u.toNat::a.2.2.2.2.1.2),()));Zr r.1/\True->r.1=ri E->(N/\¬u.toNat∈a.2.2.2.2.1.2/\aj/\k/\J (List.set a.2.2.1 t (a.2.2.2.2.1.1.getD u.toNat []++ [ae]),(a.2.2.2.2.1.1,u.toNat::a.2.2.2.2.1.2),()))/\(¬u.toNat∈a.2.2.2.2.1.2/\C/\C/\aj/\k/\J (List.set a.2.2.1 t (a.2.2.2.2.1.1.getD u.toNat []++ [ae]),(a.2.2.2.2.1.1,u.toNat::a.2.2.2.2.1.2),()))/\N/\¬u.toNat∈a.2.2.2.2.1.2/\C/\aj/\k/\J (List.set a.2.2.1 t (a.2.2.2.2.1.1.getD u.toNat []++ [ae]),(a.2.2.2.2.1.1,u.toNat::a.2.2.2.2.1.2),()))/\∀(h:C8f),Rw h.1/\h.2.1.1.length.le 9223372036854775807/\True->J h->(d<=List.getD b.2.2.1 t d/\List.getD b.2.2.1 t d<(b.2.2.2.2.2.1.length:Int))/\(KP K1 b9/\List.length a.1<=100000)/\∀(a7:List EE×Bool×Unit),let bl:=(a.1,i64.wrap (a.2.1+E),h.1,List.set a.2.2.2.1 t a7.1,h.2.1,());UR a7.1/\True/\True->(N4 a.1 b6->(∀(j:Int),A5 b9 j≠(0:Rat)->d<=j/\j<b6)->VO (fun(i:Int)=>if d<=i/\i<b6 then A5 b9 (↑(List.idxOf i a.1):Int)else(0:Rat)) a7.1/\a7.2.1=true)->(d<=a.2.1/\a.2.1<(a.2.2.2.1.length:Int))/\I bl/\w bl<w a)/\(decide (a.2.1<av)=false->(¬D1 x.1->o=fB/\d=E)/\(D1 x.1->(x.1.1≠x.1.2.1->o=fB/\d=ab)/\(x.1.1=x.1.2.1->(¬nonsing x.1.1.toNat (el x.1)->o=fB/\d=ac)/\(nonsing x.1.1.toNat (el x.1)->Bz o x.1.1/\d=d/\(∀(v:List EE),v∈a.2.2.1->Ae v)/\(∀(v:List EE),v∈a.2.2.2.1->Ae v)/\(∀(s:Nat),(1:Nat)<=s->X0 s x.1->∀(i j:Nat),i<x.1.1.toNat->qs (sK s x.1.1.toNat) (el bu i j)/\qs (sK s i) (el (x.1.1,x.1.1,a.2.2.2.1) i j))/\∀(i j:Nat),i<x.1.1.toNat->j<x.1.1.toNat->luM o x.1.1.toNat i j=el x.1 (ix b.2.2.1 i) (ix b.2.2.2.1 j))))))))))
def ID (x:A2 O5.args):C0e prog WC Vj Te O5 f78 x=Kd x:=by kernel_rfl
end Go.Proofs.YtiflhbllbgajeaaGreat
