/- Part. -/
import Derived.Test.YthclcjfodjhmlaaGreatKLG
set_option linter.all false
namespace Go.Proofs.YthclcjfodjhmlaaGreat
open Go.Proofs.Tryz
open Go.Vc Go.Gw
open Go.IntKind (i64 u64 u32)
def Ik (x:A2 I2.args) (hw:awf I2.args x) (hp:I2.pre x):Ce x:=by
 obtain⟨l,⟨ok,φ⟩,_⟩:=x;have hl:l.length<=9223372036854775807:=hw.1.1;change List Int at l;have hp:∀i∈l,ok (i,()):=hp;simp only[Ce,iB];refine⟨fun p=>0<=p.1/\p.1<=(l.length:Int)/\∀y∈l.take p.1.toNat,φ (y,())=false,fun p=>((l.length:Int)-p.1).toNat,⟨qG _,qD _,by simp⟩, ?_⟩;rintro⟨i,_⟩ _ ⟨u,h1,h2⟩;change Int at i;simp only at u h1 h2⊢;refine⟨fun h=> ?_,fun h=> ?_⟩
 . have h:=qA h;refine⟨⟨u,h⟩,by trivial,hp _ (H1 u h),fun _=>⟨fun ht=> ?_,fun hf=> ?_⟩⟩
   . have a1:l.findIdx? (fun i=>φ (i,()))=some i.toNat:=by
      rw[vY];have hg:=G9 (d:=(0:Int)) u h;have a0:i.toNat<l.length:=by omega
      rw[qM a0]at hg;refine⟨a0,by rw[wI hg];exact ht,fun j hj=> ?_⟩;have:=h2 l[j] (uB.2 ⟨j,by rw[qW];omega,by simp⟩);simp[this]
     unfold nE;rw[a1];show i=((i.toNat:Nat):Int);omega
   . rw[wv (by omega)];exact⟨⟨by omega,by omega,Ge u h h2 hf⟩,by omega⟩
 . have h:=qB h;rw[D8 (by omega)]at h2;unfold nE;have:l.findIdx? (fun i=>φ (i,()))=none:=by
    rw[xK];exact h2
   rw[this]
def B6o (p:Int->Bool) (l:List Int):0<=nE p l↔∃i,i∈l/\p i=true:=by
 unfold nE;cases h:l.findIdx? p with
 |none=>
  rw[xK]at h;constructor
  . intro h2;simp at h2
  . rintro⟨i,hi,u⟩;have:=h i hi;rw[this]at u;cases u
 |some k=>
  rw[vY]at h;obtain⟨hk,u,_⟩:=h;exact⟨fun _=>⟨_,vV hk,u⟩,fun _=>qD _⟩
def Gd (x:A2 F4.args) (hw:awf F4.args x) (u:F4.pre x):Z8 x:=by
 obtain⟨l,⟨ok,φ⟩,_⟩:=x;change List Int at l;have u:∀i∈l,ok (i,()):=u;simp only[Z8,Bq];refine⟨by trivial,by trivial,u, ?_⟩;rintro⟨r,_⟩ _ hr;simp only at hr⊢;rw[hr];exact uZ.2 (B6o _ _)
def Tn (x:A2 J4.args) (u:awf J4.args x) (_:J4.pre x):Kk x:=by
 simp only[Kk];rw[J5,Bool.decide_or]
def cS {a b:List D3} (h:a.Perm b) (j:Int):A8 a j=A8 b j:=by
 induction h with
 |nil=>rfl
 |cons e _ ih=>rw[A8,A8,ih]
 |swap e f l=>simp only[A8];rw[<-xR, <-xR,g2l (if f.1=j then rv f.2 else 0)]
 |trans _ _ h1 u=>rw[h1,u]
def B5z {a b:Int} (h:¬K8 b a<0):a<=b:=by
 unfold K8 at h;split at h
 . omega
 . split at h<;>omega
def FB (x:A2 Bx.args) (hw:awf Bx.args x) (hp:Bx.pre x):Tm x:=by
 obtain⟨⟨R,C,D⟩,rows,cols,_⟩:=x;have bj:A7o (R,C,D):=TK hw.1.2.2.2;change Int at R C;change List (List D3)at D;change List Int at rows cols;obtain⟨⟨hs,bk,bi⟩,ay⟩:(Gx K1 (R,C,D)/\rows.length<=1000/\cols.length<=1000)/\cols.Nodup:=by
  obtain⟨a,b,c,d⟩:=hp;exact⟨⟨a,b,c⟩,d⟩
 simp only[Tm,iB,G4,Tv];refine⟨trivial, ?_⟩;rintro⟨r,_⟩ _ hr;simp only at hr⊢;by_cases hv:G3 (R,C,D)
 . have hr:r=true:=by rw[hr];exact rD hv
   rw[hr];obtain⟨v1,v2,v3,v4,_,_⟩:=id hv;have v5:(D.length:Int)=R:=hv.2.2.2.2.1;have v6:∀w∈D,M0 w C:=hv.2.2.2.2.2;simp only at v1 v2 v3 v4;refine⟨fun h=>(by cases h),fun _=>⟨by trivial,by trivial,fun _ _=>trivial, ?_⟩⟩;rintro⟨b1,_⟩ _ a9;simp only at a9⊢;refine⟨by trivial,by trivial,fun _ _ _=>trivial, ?_⟩;rintro⟨b2,_⟩ a2;simp only at a2⊢;rw[J5];have key:(b1||b2)=true↔((∃i,i∈rows/\(i<0\/R<=i))\/∃i,i∈cols/\(i<0\/C<=i)):=by
    by_cases h1:∃i,i∈rows/\(i<0\/R<=i)
    . have:b1=true:=by
       rw[a9];obtain⟨i,hi,hc⟩:=h1;exact rD ⟨i,hi,rD hc⟩
      rw[this];exact⟨fun _=> .inl h1,fun _=>rfl⟩
    . have am:b1=false:=by
       rw[a9];exact rI fun⟨i,hi,hc⟩=>h1 ⟨i,hi,qA hc⟩
      have a2:=(a2 am).2;rw[am,wO,a2];constructor
      . intro h;obtain⟨i,hi,hc⟩:=qA h;exact .inr ⟨i,hi,qA hc⟩
      . rintro(h| ⟨i,hi,hc⟩)
        . exact absurd h h1
        . exact rD ⟨i,hi,rD hc⟩
   refine⟨fun h=> ?_,fun h=>⟨trivial, ?_⟩⟩
   . have h:=key.1 h;exact⟨fun h2=>absurd hv h2,fun _=>⟨fun _=>⟨rfl,by trivial⟩,fun h2=>absurd h h2⟩⟩
   have a6:¬((∃i,i∈rows/\(i<0\/R<=i))\/∃i,i∈cols/\(i<0\/C<=i)):=fun h2=>by rw[key.2 h2]at h;cases h
   have ai:∀i∈rows,0<=i/\i<R:=fun i hi=>rB fun hn=>a6 (.inl ⟨i,hi,by omega⟩)
   have ae:∀i∈cols,0<=i/\i<C:=fun i hi=>rB fun hn=>a6 (.inr ⟨i,hi,by omega⟩)
   rintro⟨b3,_⟩ _ ac;simp only at ac⊢;refine⟨fun _=>trivial, ?_⟩;rintro⟨b4,_⟩ ad;simp only at ad⊢;have h3:b3=true:=by rw[ac];exact rD ⟨by omega,by omega⟩
   have h4:b4=true:=by rw[(ad (by rw[h3];rfl)).2];exact rD ⟨by omega,by omega⟩
   rw[h3,h4];refine⟨fun h=>(by cases h),fun _=> ?_⟩;clear a9 a2 ac ad key h;refine⟨fun p=>0<=p.1/\p.1<=(cols.length:Int)/\(∀k:Nat,k<p.1.toNat->L2 (.int .i64) (cols.getD k 0) p.2.1=some [(k:Int)])/\∀c,c∉cols.take p.1.toNat->L2 (.int .i64) c p.2.1=Option.none,fun p=>((cols.length:Int)-p.1).toNat,⟨qG _,qD _,fun k hk=>by simp at hk,fun _ _=>rfl⟩, ?_⟩;rintro⟨i,es,_⟩ _ ⟨i0,i1,aa,a3⟩;change Int at i;change List (Int×List Int)at es;simp only at i0 i1 aa a3⊢;refine⟨fun hi=> ?_,fun hi=> ?_⟩
   . have hi:=qA hi;have hg:=E5 (d:=(0:Int)) i0 hi;have aw:i.toNat<cols.length:=by omega
     have b8:cols.take (i+1).toNat=cols.take i.toNat++ [cols.getD i.toNat 0]:=by
      rw[show(i+1).toNat=i.toNat+1 from by omega,rS,qM aw,I0 _ _ aw];rfl
     have ab:cols.getD i.toNat 0∉cols.take i.toNat:=fun af=>by
      have h1:(cols.take (i+1).toNat).Nodup:=ay.take;rw[b8,sQ]at h1;exact h1.2.2 _ af _ (qP.2 rfl) rfl
     rw[hg,wv (by omega)];refine⟨⟨i0,hi⟩,a3 _ ab,⟨by simp only[qZ];omega,by simp only[qZ];omega⟩,⟨by omega,by omega,fun k hk=> ?_,fun c hc=> ?_⟩,by omega⟩
     . show L2 (.int .i64) (cols.getD k 0) (Fz (.int .i64) (cols.getD i.toNat 0) [i] es)= _;rw[DC];by_cases av:k=i.toNat
       . rw[qY (by rw[av]),av,show((i.toNat:Nat):Int)=i from by omega]
       . have bb:k<i.toNat:=by have hk:k<(i+1).toNat:=hk;omega
         rw[qO,aa k bb];intro he;apply ab;rw[<-he,I0 _ _ (show k<cols.length by omega)];exact uB.2 ⟨k,by rw[qW];omega,by simp⟩
     . show L2 (.int .i64) c (Fz (.int .i64) (cols.getD i.toNat 0) [i] es)= _;have hc:c∉cols.take (i+1).toNat:=hc;rw[b8,qU,qP,g5f]at hc;rw[DC,qO hc.2,a3 c hc.1]
   . have hi:=qB hi;rw[D8 (by omega)]at a3;have af:i.toNat=cols.length:=by omega
     rw[af]at aa;rw[qK];refine⟨⟨by omega,qG _,by omega,by omega⟩,fun p=>0<=p.1/\p.1<=(rows.length:Int)/\mJ rows.length p.1.toNat (fun i=>isV cols.length fun j=>el (R,C,D) (rows.getD i 0).toNat (cols.getD j 0).toNat) p.2.1,fun p=>((rows.length:Int)-p.1).toNat,⟨qG _,qD _,C0i rJ⟩, ?_⟩;rintro⟨k,out,_⟩ _ ⟨k0,k1,hf⟩;change Int at k;change List (List D3)at out;simp only at k0 k1 hf⊢;have bm:=hf.1;refine⟨fun hk=> ?_,fun hk=> ?_⟩
     . have hk:=qA hk;have hg:=E5 (d:=(0:Int)) k0 hk;have ah:=ai _ (H1 (d:=(0:Int)) k0 hk);rw[hg]at ah⊢;have ba:∀ {w:List D3},isV cols.length (fun j=>el (R,C,D) (rows.getD k.toNat 0).toNat (cols.getD j 0).toNat) w->mJ rows.length (k+1).toNat (fun i=>isV cols.length fun j=>el (R,C,D) (rows.getD i 0).toNat (cols.getD j 0).toNat) (out.set k.toNat w):=fun {w} hw2=>A6z hf k0 hk hw2
       generalize rows.getD k.toNat 0=a8 at*;have b6:a8<(D.length:Int):=by omega
       rw[iD ah.1 b6];have ax:D.getD a8.toNat []∈D:=B9 (by omega);have a7:=A2y hv hs ax;have be:=v6 _ ax;have ar:∀c:Int,0<=c->A8 (D.getD a8.toNat []) c=el (R,C,D) a8.toNat c.toNat:=fun c hc=>B0u _ _ hc
       generalize D.getD a8.toNat []=row at*;have bn:=a7.2.2;refine⟨⟨k0,hk⟩,⟨ah.1,b6⟩,fun p=>0<=p.2.1/\p.2.1<=(row.length:Int)/\p.1.length<=p.2.1.toNat/\(p.1.map fun e=>e.1).Nodup/\(∀x∈p.1,∃q:Nat,q<cols.length/\x.1=(q:Int)/\(∃y∈row.take p.2.1.toNat,y.1=cols.getD q 0)/\rv x.2≠0/\x.2=rc (rv x.2))/\∀j:Nat,j<cols.length->A8 p.1 (j:Int)=A8 (row.take p.2.1.toNat) (cols.getD j 0),fun p=>((row.length:Int)-p.2.1).toNat,⟨qG _,qD _,rC _,yP,fun _ h=>(by cases h),fun j _=>rfl⟩, ?_⟩;rintro⟨o,t,_⟩ _ ⟨t0,t1,o1,o2,o3,o4⟩;change List D3 at o;change Int at t;simp only at t0 t1 o1 o2 o3 o4⊢;refine⟨fun ht=> ?_,fun ht=> ?_⟩
       . have ht:=qA ht;have au:=H1 (d:=F5) t0 ht;obtain⟨e0,e1,ez⟩:=be.2 _ au;have bd:=a7.2.1 _ au;have b9:=A6u (d:=F5) t0 ht;have ap:∀y∈row.take t.toNat,y.1≠(gx F5 row t).1:=fun x hx hxe=>by
          have h1:(row.take (t+1).toNat).Pairwise (fun a b=>a.1<b.1):=a7.1.take;rw[show(t+1).toNat=t.toNat+1 from by omega,rS,G9 (d:=F5) t0 ht,tO]at h1;have:=h1.2.2 x hx (gx F5 row t) (by simp);omega
         have b7:∀y∈row.take t.toNat,y∈row.take (t+1).toNat:=fun y hy=>by
          rw[show(t+1).toNat=t.toNat+1 from by omega,rS];exact qU.2 (.inl hy)
         have az:gx F5 row t∈row.take (t+1).toNat:=by
          rw[show(t+1).toNat=t.toNat+1 from by omega,rS,G9 (d:=F5) t0 ht];simp
         generalize gx F5 row t=e at*;have hL:(L2 (.int .i64) e.1 es).getD []= []/\e.1∉cols\/∃q:Nat,q<cols.length/\cols.getD q 0=e.1/\(L2 (.int .i64) e.1 es).getD []= [(q:Int)]:=by
          by_cases hc:e.1∈cols
          . obtain⟨q,hq,a1⟩:=P3 0 hc;have:=aa q hq;rw[a1]at this;exact .inr ⟨q,hq,a1,by rw[this];rfl⟩
          . exact .inl ⟨by rw[a3 _ hc];rfl,hc⟩
         generalize (L2 (.int .i64) e.1 es).getD []=L at*;have bg:L.length<=1:=by
          rcases hL with⟨h,_⟩ | ⟨q,_,_,h⟩<;>rw[h]<;>simp
         refine⟨⟨t0,ht⟩,fun p=>0<=p.2.1/\p.2.1<=(L.length:Int)/\p.1=o++(L.take p.2.1.toNat).map fun q=>(q,rc (rv e.2)),fun p=>((L.length:Int)-p.2.1).toNat,⟨qG _,qD _,by simp⟩, ?_⟩;rintro⟨o',u,_⟩ _ ⟨u0,u1,a0⟩;change List D3 at o';change Int at u;simp only at u0 u1 a0⊢;have bf:o'.length<=o.length+1:=by
          rw[a0,rM,sD,qW];omega
         refine⟨fun hu=> ?_,fun hu=> ?_⟩
         . have hu:=qA hu;refine⟨⟨u0,hu⟩,H7 bd (by decide), ?_⟩;rintro⟨q,_⟩ _ hq;simp only at hq⊢;rw[wv (by omega)];refine⟨⟨by simp only[qZ];omega,by simp only[qZ];omega⟩,⟨by omega,by omega, ?_⟩,by omega⟩;rw[a0,hq,show(u+1).toNat=u.toNat+1 from by omega,rS,G9 (d:=(0:Int)) u0 hu,uE,uD];rfl
         . have hu:=qB hu;rw[D8 (l:=L) (i:=u) (by omega)]at a0;rw[wv (by omega)];have aq:∀j:Nat,j<cols.length->A8 (row.take (t+1).toNat) (cols.getD j 0)=A8 (row.take t.toNat) (cols.getD j 0)+if e.1=cols.getD j 0 then rv e.2 else 0:=fun j _=>b9 _
           have a4:∀x∈o,∃q:Nat,q<cols.length/\x.1=(q:Int)/\(∃y∈row.take (t+1).toNat,y.1=cols.getD q 0)/\rv x.2≠0/\x.2=rc (rv x.2):=fun x hx=>by
            obtain⟨q,h1,h2,⟨y,hy,h3⟩,h4,h5⟩:=o3 x hx;exact⟨q,h1,h2,⟨y,b7 y hy,h3⟩,h4,h5⟩
           rcases hL with⟨hL,bc⟩ | ⟨q,hq,a1,hL⟩
           . rw[hL,g0y,vQ]at a0;subst a0;refine⟨⟨by omega,by omega,by omega,o2,a4,fun j hj=> ?_⟩,by omega⟩;rw[o4 j hj,aq j hj,qO (fun h=>bc (by rw[h];exact B9 hj)),rO]
           . rw[hL,rU,g0y]at a0;subst a0;refine⟨⟨by omega,by omega,by omega, ?_,fun x hx=> ?_,fun j hj=> ?_⟩,by omega⟩
             . show((o++ [((q:Int),rc (rv e.2))]).map fun e:D3=>e.1).Nodup;rw[uE,sQ];refine⟨o2,by simp,fun a ha b hb bh=> ?_⟩;obtain⟨x,hx,rfl⟩:=rZ.1 ha;simp only[rU,g0y,qP]at hb;obtain⟨q',h1,h2,⟨y,hy,h3⟩,_⟩:=o3 x hx;have:q'=q:=by omega
               subst this;exact ap y hy (by rw[h3,a1])
             . rcases qU.1 hx with hx|hx
               . exact a4 x hx
               . rw[qP.1 hx];exact⟨q,hq,rfl,⟨e,az,a1.symm⟩,by rw[F9];exact ez,by rw[F9]⟩
             . show A8 (o++ [((q:Int),rc (rv e.2))]) (j:Int)= _;rw[Lw,o4 j hj,aq j hj];congr 1;by_cases b5:q=j
               . subst b5;rw[qY rfl,qY a1.symm]
               . rw[qO (by omega),qO];intro h6;apply b5;have h7:cols.getD q 0=cols.getD j 0:=a1.trans h6;rw[I0 _ _ hq,I0 _ _ hj]at h7;exact(wN ay).1 h7
       . have ht:=qB ht;rw[D8 (by omega)]at o4;refine⟨by omega,fun l' _ ag aj=> ?_⟩;have aj:l'.Pairwise fun a b:D3=>¬K8 b.1 a.1<0:=aj
         rw[wv (by omega)];refine⟨⟨k0,by omega⟩,⟨by omega,by omega,ba ?_⟩,by omega⟩;have a5:(l'.map fun e:D3=>e.1).Nodup:=(ag.map _).nodup_iff.2 o2;have ao:Ie l':=by
          unfold List.Nodup at a5;rw[wU]at a5;refine g3y ?_ aj a5;intro a b h1 h2;have:=B5z h1;omega
         have hx:∀x∈l',∃q:Nat,q<cols.length/\x.1=(q:Int)/\rv x.2≠0/\x.2=rc (rv x.2):=fun x hx=>by
          obtain⟨q,h1,h2,_,h4,h5⟩:=o3 x (ag.mem_iff.1 hx);exact⟨q,h1,h2,h4,h5⟩
         refine⟨⟨ao,fun x ak=> ?_⟩,fun x ak=> ?_,fun j hj=> ?_⟩
         . obtain⟨q,_,_,h4,h5⟩:=hx x ak;exact⟨h4,h5⟩
         . obtain⟨q,h1,h2,_⟩:=hx x ak;omega
         . rw[cS ag,o4 j hj];exact ar _ (ae _ (B9 hj)).1
     . have hk:=qB hk;exact⟨fun h=>absurd hv h,fun _=>⟨fun h2=>absurd h2 a6,fun _=>⟨fun h2=>absurd h2 (by omega),fun _=>⟨⟨rfl,rfl,hf.1,fun i hi=>hf.2 i (by omega)⟩,by trivial⟩⟩⟩⟩
 . have hr:r=false:=by rw[hr];exact rI hv
   rw[hr];exact⟨fun _=>⟨fun _=>⟨rfl,by trivial⟩,fun h=>absurd h hv⟩,fun h=>(by cases h)⟩
def kP:An:= {}
def kQ:An:= {}
def JH:An:= {plan:= [(1,[3,7],[],true,(pZ9 0 3 (.q 3 (pZ9 4 3 (.q 7 (.p 8 (.p 9 .done))))))),(4,[3,7,10],[],true,(pZ9 0 3 (.q 3 (pZ9 4 3 (.q 7 (.p 8 (.p 9 (.q 10 (.p 11 (.e 12 (.p 13 .done)))))))))))]}
def MX:An:= {}
def JI:An:= {loop:= [(3,⟨[0,1],[],[(5,false,[.own tQ 45]),(6,false,vI)],[(0,61,[.val (.sl (.int .i64)), .val (.int .i64)])],[]⟩)]}
def Xf:An:= {}
def QU:A2 Mw.args->Prop:=fun(x:Cu)=>let b:=(u64.wrap x.2.1);let a:=(u64.wrap x.1);u64.wrap x.2.1≠0/\(0<x.2.1->(0:Int)<=i64.wrap (a.tmod b)/\i64.wrap (a.tmod b)<x.2.1/\i64.wrap (a.tmod b)=a.tmod x.2.1)
def pR:A2 Mx.args->Prop:=fun(x:Lt)=>(x.1,(0:Int))=(x.1,(0:Int))
abbrev C4b:=(List Int×Int)×Int×Unit
def Pm:A2 Aj.args->Prop:=fun(x:C4b)=>let e:=(1:Int);let d:=(↑x.1.1.length:Int);let c:=(x.1.1.length:Int);let b:=(0:Int);let a:=(i64.wrap (x.1.2+e)-e);(iB (decide (c<=x.1.2)) ((b<=b/\b<x.2.1)/\x.1.1=x.1.1/\b<=x.1.2/\x.1.2<=d) ((b<=i64.wrap a/\i64.wrap a<c)/\b<x.2.1/\Bq fun r=>(b<x.2.1->b<=r.1/\r.1<x.2.1/\r.1=(u64.wrap (gx b x.1.1 (i64.wrap a))).tmod x.2.1)->(b<=r.1/\r.1<x.2.1)/\x.1.1=x.1.1/\b<=i64.wrap (x.1.2+e)/\i64.wrap (x.1.2+e)<=d))
abbrev Nn:=(List Int×Int)×Unit
def Tl:A2 Bw.args->Prop:=fun(x:Nn)=>let b:=(x.1.1.length:Int);let a:=(0:Int);(a<(13:Int)/\a<=x.1.2/\x.1.2<=b)/\∀(r:C8) (o:Nn),let c:=(o.1.1.length:Int);H8 r.1/\True->((Ty.int i64).sl.pair (Ty.int i64)).wf o.1/\True->a<=r.1/\r.1<13->o.1.1=x.1.1/\a<=o.1.2/\o.1.2<=b->(a<(4:Int)/\a<=o.1.2/\o.1.2<=c)/\∀(e:C8) (d:Nn),H8 e.1/\True->((Ty.int i64).sl.pair (Ty.int i64)).wf d.1/\True->a<=e.1/\e.1<4->d.1.1=o.1.1/\a<=d.1.2/\d.1.2<=c->True/\G4 fun f=>f.1=rc (Rat.divInt (i64.wrap (r.1-6)) (i64.wrap (1+e.1)))->Mf f.1/\d.1.1=x.1.1/\a<=d.1.2/\d.1.2<=(↑x.1.1.length:Int)
abbrev C5i:=List QQ×Int×List Int×Int×Unit
def Pn:A2 Ak.args->Prop:=fun(x:C4b)=>let c:=(0:Int);∃(I:C5i->Prop),∃(μ: _->Nat),I ([],c,x.1.1,x.1.2,())/\∀(p:C5i),let b:=(p.2.2.1.length:Int);tQ.sl.wf p.1/\(Ty.int i64).wf p.2.1/\(Ty.int i64).sl.wf p.2.2.1/\(Ty.int i64).wf p.2.2.2.1/\True->I p->(iB (decide (p.2.1<x.2.1)) ((c<=p.2.2.2.1/\p.2.2.2.1<=b)/\∀(r:C9) (o:Nn),let a:=(p.1++ [r.1],i64.wrap (p.2.1+1),o.1.1,o.1.2,());Qb r.1/\True->((Ty.int i64).sl.pair (Ty.int i64)).wf o.1/\True->Mf r.1->o.1.1=p.2.2.1/\c<=o.1.2/\o.1.2<=b->((p.1.length+ [r.1].length)*(56:Nat)<=(140737488355328:Nat)/\p.1.length+ [r.1].length<=9223372036854775807)/\I a/\μ a<μ p) (((↑p.1.length:Int)=Max.max x.2.1 c/\∀(e:QQ),e∈p.1->Mf e)/\p.2.2.1=x.1.1/\c<=p.2.2.2.1/\p.2.2.2.1<=(↑x.1.1.length:Int)))
def Ip:A2 P6.args->Prop:=fun(x:Nn)=>let b:=(x.1.1.length:Int);let a:=(0:Int);(a<(9:Int)/\a<=x.1.2/\x.1.2<=b)/\∀(r:C8) (o:Nn),let c:=(o.1.1.length:Int);H8 r.1/\True->((Ty.int i64).sl.pair (Ty.int i64)).wf o.1/\True->a<=r.1/\r.1<9->o.1.1=x.1.1/\a<=o.1.2/\o.1.2<=b->(a<(4:Int)/\a<=o.1.2/\o.1.2<=c)/\∀(e:C8) (d:Nn),H8 e.1/\True->((Ty.int i64).sl.pair (Ty.int i64)).wf d.1/\True->a<=e.1/\e.1<4->d.1.1=o.1.1/\a<=d.1.2/\d.1.2<=c->True/\G4 fun f=>f.1=rc (Rat.divInt (i64.wrap (1+r.1)) (i64.wrap (1+e.1)))->(Mf f.1/\(0:Rat)<rv f.1)/\d.1.1=x.1.1/\a<=d.1.2/\d.1.2<=(↑x.1.1.length:Int)
def grown (n m i j:Nat) (f:Nat->Nat->Rat) (rows:List (List B7)):Prop:=rows.length=n/\∀k,k<n->rows.getD k []=(List.range (if k<i then m else if k=i then j else 0)).map fun l=>rc (f k l)
def ZB (x:A2 Mx.args) (_:awf Mx.args x) (_:Mx.pre x):pR x:=rfl
def BC (x:A2 Aj.args) (hw:awf Aj.args x) (hp:Aj.pre x):Pm x:=by
 obtain⟨⟨l,i⟩,n,_⟩:=x;have hl:l.length<=9223372036854775807:=hw.1.1.1;change Int at i n;change List Int at l;obtain⟨u,p1,p2⟩:0<n/\0<=i/\i<=(l.length:Int):=hp;simp only[Pm,iB,Bq];refine⟨fun h=>⟨⟨by omega,u⟩,by trivial,p1,p2⟩,fun h=> ?_⟩;have h:=qB h;rw[wv (a:=i+1) (by omega),wv (a:=i+1-1) (by omega)];refine⟨⟨by omega,by omega⟩,u, ?_⟩;rintro⟨r,_⟩ _ hr;exact⟨⟨(hr u).1,(hr u).2.1⟩,by trivial,by omega,by omega⟩
def ZA (x:A2 Mw.args) (hw:awf Mw.args x) (hp:Mw.pre x):QU x:=by
 obtain⟨a,b,_⟩:=x;change Int at a b;have hb:0<b:=hp;have h1:NU .i64 b:=hw.2.1;unfold NU at h1;rw[show i64.min= -9223372036854775808 from by decide,show i64.max=9223372036854775807 from by decide]at h1;simp only[QU];have e:u64.wrap b=b:=by simp[IntKind.wrap,IntKind.bits,IntKind.signed];omega
 have u:0<=u64.wrap a:=by simp[IntKind.wrap,IntKind.bits,IntKind.signed];omega
 rw[e];have h3:0<=(u64.wrap a).tmod b:=zJ _ u;have h4:(u64.wrap a).tmod b<b:=Int.tmod_lt_of_pos _ hb;rw[wv (by omega)];exact⟨by omega,fun _=>⟨h3,h4,rfl⟩⟩
def PW {a b:Int} (ha:a.natAbs<4294967296) (u:0<b) (hb:b.natAbs<4294967296):Mf (rc (Rat.divInt a b)):=by
 refine⟨_, ?_,rfl⟩;rw[GV u];exact YB (by omega) (He (by simpa using ha)) (He (by simpa using hb))
def FA (x:A2 Bw.args) (hw:awf Bw.args x) (hp:Bw.pre x):Tl x:=by
 obtain⟨⟨l,i⟩,_⟩:=x;change Int at i;change List Int at l;obtain⟨p1,p2⟩:0<=i/\i<=(l.length:Int):=hp;simp only[Tl,G4];refine⟨⟨by omega,p1,p2⟩, ?_⟩;rintro⟨a,_⟩ ⟨⟨l1,i1⟩,_⟩ _ _ ha ho;change Int at i1 a;change List Int at l1;simp only at ha ho⊢;obtain⟨rfl,h1,u⟩:=ho;refine⟨⟨by omega,h1,u⟩, ?_⟩;rintro⟨b,_⟩ ⟨⟨l2,i2⟩,_⟩ _ _ hb ho;change Int at i2 b;change List Int at l2;simp only at hb ho⊢;obtain⟨rfl,h1,u⟩:=ho;refine⟨trivial, ?_⟩;rintro⟨q,_⟩ _ hq;simp only at hq⊢;rw[wv (by omega),wv (by omega)]at hq;exact⟨by rw[hq];exact PW (by omega) (by omega) (by omega),by trivial,h1,u⟩
def BD (x:A2 Ak.args) (hw:awf Ak.args x) (hp:Ak.pre x):Pn x:=by
 obtain⟨⟨l,i⟩,n,_⟩:=x;change Int at i n;change List Int at l;obtain⟨p0,p1,p2⟩:n<=1000/\0<=i/\i<=(l.length:Int):=hp;simp only[Pn,iB];refine⟨fun p=>0<=p.2.1/\p.2.1<=max n 0/\(p.1.length:Int)=p.2.1/\(∀e∈p.1,Mf e)/\p.2.2.1=l/\0<=p.2.2.2.1/\p.2.2.2.1<=(l.length:Int),fun p=>(n-p.2.1).toNat,⟨qG _,by show 0<=max n 0;omega,rfl,fun e u=>(by cases u),rfl,p1,p2⟩, ?_⟩;rintro⟨o,k,l1,i1,_⟩ _ ⟨h0,h1,h2,h3,h4,h5,h6⟩;change Int at k i1;change List Int at l1;change List B7 at o;simp only at h0 h1 h2 h3 h4 h5 h6⊢;subst h4;refine⟨fun h=> ?_,fun h=> ?_⟩
 . have h:=qA h;refine⟨⟨h5,h6⟩, ?_⟩;rintro⟨q,_⟩ ⟨⟨l2,i2⟩,_⟩ _ _ hq ho;change Int at i2;change List Int at l2;simp only at hq ho⊢;obtain⟨rfl,g1,g2⟩:=ho;rw[wv (by omega)];refine⟨⟨by rw[qZ];omega,by rw[qZ];omega⟩,⟨by omega,by omega,by rw[rM,qZ];omega,fun e u=> ?_,by trivial,g1,g2⟩,by omega⟩;rcases qU.1 u with u|u
   . exact h3 e u
   . rw[qP.1 u];exact hq
 . have h:=qB h;exact⟨⟨by omega,h3⟩,by trivial,h5,h6⟩
def Ef:An:= {}
def Et:An:= {loop:= [(4,⟨[0,1,2,3,8],[],[(9,false,vI)],[],[(0, .row tE 48)]⟩),(1,⟨[0,1,2,3],[],[(8,false,vI)],[],[(0, .row tE 48)]⟩)],plan:= [(4,[8,13],[],false,(pZ9 0 8 (.q 8 (pZ9 9 4 (.q 13 (.e 14 (.p 15 (.p 16 .done)))))))),(6,[9,13],[15,17],true,(pZ9 0 9 (.q 9 (pZ9 10 3 (.q 13 (.p 14 (.e 15 (.p 16 (.e 17 .done)))))))))]}
def Js:An:= {join:= [(16,⟨[0,1,2,6],[],[],[],[(0, .row tE 48)]⟩)],loop:= [(2,⟨[0,1,2,6],[],[(7,false,vI),(8,false,vI)],[],[(0, .row tE 48)]⟩),(9,⟨[0,1,2,6],[],[(7,false,vI),(8,false,vI)],[],[(0, .row tE 48)]⟩),(7,⟨[0,1,2],[],[(6,false,vI)],[],[(0, .row tE 48)]⟩)]}
def JT:An:= {}
def JS:An:= {join:= [(14,⟨[3,18,19,20],[],[(4,false,vI)],[],[(0, .row tE 48)]⟩)],loop:= [(8,⟨[3,18,19],[],[(4,false,vI),(20,false,vI)],[],[(0, .row tE 48)]⟩)],plan:= [(10,[8,10],[],true,(pZ9 0 8 (.q 8 (.p 9 (.q 10 (.p 11 (.p 12 .done))))))),(11,[8,10],[14],true,(pZ9 0 8 (.q 8 (.p 9 (.q 10 (.e 11 (.p 12 (.p 13 (.e 14 .done)))))))))]}
def Q7:A2 E8.args->Prop:=fun(x:List EE×((EE×EE×Unit->Prop)×(EE×EE×Unit->Int))×Unit)=>let a:=(x.1.length:Int);Go.Proofs.Tryz.prog=Go.Proofs.Tryz.prog/\false=false/\((Zq x.2.1.1 fun(z:SU)=>x.2.1.2 z)/\a=a/\List.length x.1<=20)/\∀(r:Unit) (o:ID),True->tE.sl.wf o.1/\True->True->o.1.Perm x.1/\Xt (fun(z:SU)=>x.2.1.2 z) o.1->True/\o.1.Perm x.1/\Xt x.2.1.2 o.1
abbrev bK:=Int×List EE×Unit
def R9:A2 F3.args->Prop:=fun(x:List EE×Int×Int×((EE×EE×Unit->Prop)×(EE×EE×Unit->Int))×Unit)=>let h:=(0:Int);let f:=(1:Int);∃(I:bK->Prop),∃(μ: _->Nat),I (i64.wrap (x.2.1+f),x.1,())/\∀(p:bK),(Ty.int i64).wf p.1/\Qa p.2.1/\True->I p->(iB (decide (p.1<x.2.2.1)) (∃(I_1:bK->Prop),∃(u: _->Nat),I_1 (p.1,p.2.1,())/\∀(m:bK),let k:=m.1.toNat;let i:=(i64.wrap (p.1+f),m.2.1,());let e:Prop:=(x.2.1<m.1);let d:=(i64.wrap (m.1-f));let g:=(List.set m.2.1 k (List.getD m.2.1 d.toNat F5));let c:=(m.2.1.length:Int);let l:Prop:=(h<=m.1/\m.1<c);let b:=(i64.wrap (m.1-f),g.set d.toNat (List.getD m.2.1 k F5),());let a:=(List.getD m.2.1 k F5,List.getD m.2.1 d.toNat F5,());let j:=(decide (x.2.2.2.1.2 a<h));(Ty.int i64).wf m.1/\Qa m.2.1/\True->I_1 m->(decide e=true->h<=m.1/\m.1<c)/\(decide e=true->h<=i64.wrap (m.1-f)/\i64.wrap (m.1-f)<c)/\Go.Proofs.Tryz.prog=Go.Proofs.Tryz.prog/\(decide e=true->x.2.2.2.1.1 a)/\((decide e=true->(Ty.int i64).wf (x.2.2.2.1.2 a))->(iB (L7 (decide e) j false) ((h<=i64.wrap (m.1-f)/\i64.wrap (m.1-f)<c)/\l/\l/\(h<=i64.wrap (m.1-f)/\i64.wrap (m.1-f)<(↑g.length:Int))/\I_1 b/\u b<u m) (I i/\μ i<μ p)))) (True/\List.Perm p.2.1 x.1/\List.take x.2.1.toNat p.2.1=List.take x.2.1.toNat x.1/\List.drop x.2.2.1.toNat p.2.1=List.drop x.2.2.1.toNat x.1/\Xt x.2.2.2.1.2 (List.take (x.2.2.1.toNat-x.2.1.toNat) (List.drop x.2.1.toNat p.2.1))))
abbrev A9f:=Int×Int×List EE×Unit
def Bh:A2 H3.args->Prop:=fun(x:List EE×Int×((EE×EE×Unit->Prop)×(EE×EE×Unit->Int))×Unit)=>let g:=(0:Int);∃(I:A9f->Prop),∃(μ: _->Nat),I (g,(20:Int),x.1,())/\∀(p:A9f),let f:=(p.2.2.1.length:Int);let b:=p.1.toNat;(Ty.int i64).wf p.1/\(Ty.int i64).wf p.2.1/\Qa p.2.2.1/\True->I p->(iB (decide (p.2.1<=x.2.1)) (Go.Proofs.Tryz.prog=Go.Proofs.Tryz.prog/\false=false/\((Zq x.2.2.1.1 fun(z:SU)=>x.2.2.1.2 z)/\g<=p.1/\p.1<=p.2.1/\p.2.1<=f/\List.length p.2.2.1<=100000)/\∀(r:Unit) (o:ID),let c:=(p.2.1,i64.wrap (p.2.1+20),o);True->tE.sl.wf o.1/\True->True->o.1.Perm p.2.2.1/\List.take b o.1=List.take b p.2.2.1/\List.drop p.2.1.toNat o.1=List.drop p.2.1.toNat p.2.2.1/\Xt (fun(z:SU)=>x.2.2.1.2 z) (List.take (Int.toNat p.2.1-Int.toNat p.1) (List.drop b o.1))->I c/\μ c<μ p) (Go.Proofs.Tryz.prog=Go.Proofs.Tryz.prog/\false=false/\((Zq x.2.2.1.1 fun(z:SU)=>x.2.2.1.2 z)/\g<=p.1/\p.1<=x.2.1/\x.2.1<=f/\List.length p.2.2.1<=100000)/\∀(r:Unit) (o:ID),True->tE.sl.wf o.1/\True->True->o.1.Perm p.2.2.1/\List.take b o.1=List.take b p.2.2.1/\List.drop x.2.1.toNat o.1=List.drop x.2.1.toNat p.2.2.1/\Xt (fun(z:SU)=>x.2.2.1.2 z) (List.take (Int.toNat x.2.1-Int.toNat p.1) (List.drop b o.1))->∃(I:bK->Prop),∃(μ: _->Nat),I ((20:Int),o)/\∀(p:bK),(Ty.int i64).wf p.1/\Qa p.2.1/\True->I p->(iB (decide (p.1<x.2.1)) (∃(I_1:A9f->Prop),∃(u: _->Nat),I_1 (g,i64.wrap (2*p.1),p.2.1,())/\∀(h:A9f),let e:Prop:=(i64.wrap (h.1+p.1)<x.2.1);(Ty.int i64).wf h.1/\(Ty.int i64).wf h.2.1/\Qa h.2.2.1/\True->I_1 h->(iB (decide (h.2.1<=x.2.1)) (Go.Proofs.Tryz.prog=Go.Proofs.Tryz.prog/\false=false/\False/\∀(r:Unit) (o:ID),let a:=(h.2.1,i64.wrap (h.2.1+i64.wrap (2*p.1)),o);True->tE.sl.wf o.1/\True->True->True->I_1 a/\u a<u h) (∃(J:ID->Prop),((iB (decide e) (Go.Proofs.Tryz.prog=Go.Proofs.Tryz.prog/\false=false/\False/\∀(r:Unit) (o:ID),True->tE.sl.wf o.1/\True->True->True->J o) (J (h.2.2.1,()))))/\rT6 fun i=>let d:=(i64.wrap (p.1*2),i);J i->I d/\μ d<μ p))) (True/\List.Perm p.2.1 x.1/\Xt x.2.2.1.2 p.2.1))))
def Pz:A2 Az.args->Prop:=fun(x:SU)=>True/\Bq fun r=>r.1=K8 x.1.1 x.2.1.1->r.1=K8 x.1.1 x.2.1.1
def Py:A2 Ay.args->Prop:=fun(x:ID)=>let i:=(1:Int);let e:=(0:Int);let k:=e.toNat;let d:=(x.1.length:Int);True/\Tv fun r=>r.1=decide (Ie x.1)->(iB r.1 ((Ie x.1->x.1=x.1)/\(¬Ie x.1->Ie x.1/\(∀(j:Int),A8 x.1 j=A8 x.1 j)/\List.length x.1<=20/\jU (16777216:Nat) x.1)) ((e<=d/\d<=d/\(↑(64:Nat):Int)*d<=(281474976710656:Int)/\d<=(9223372036854775807:Int))/\∃(ok:SU->Prop),∃(φ:SU->Int),(∀(y:SU),tE.wf y.1/\tE.wf y.2.1/\True->ok y->True/\Bq fun z=>z.1=K8 y.1.1 y.2.1.1->false=false/\z.1=φ y)/\(Zq ok φ/\(Mc (List.replicate d.toNat F5) x.1).length<=(20:Nat))/\∀(s:Unit) (o:ID),True->tE.sl.wf o.1/\True->True->o.1.Perm (Mc (List.replicate d.toNat F5) x.1)/\Xt φ o.1->∃(I:A9f->Prop),∃(μ: _->Nat),I (e,e,o)/\∀(p:A9f),let m:Prop:=(p.2.1<(↑o.1.length:Int));let l:=(i64.wrap (p.1-i));let g:=p.1.toNat;let c:=(p.2.2.1.length:Int);let f:Prop:=(e<=i64.wrap (p.1-i)/\i64.wrap (p.1-i)<c);let b:=(List.getD p.2.2.1 p.2.1.toNat F5);let a:=(List.getD p.2.2.1 l.toNat F5);let n:=(decide (a.1=b.1));(Ty.int i64).wf p.1/\(Ty.int i64).wf p.2.1/\Qa p.2.2.1/\True->I p->(iB (decide m) (∃(J:bK->Prop),((e<=p.2.1/\p.2.1<c)/\(decide (e<p.1)=true->e<=i64.wrap (p.1-i)/\i64.wrap (p.1-i)<c)/\(iB (L7 (decide (e<p.1)) n false) (f/\(D1 a.2/\D1 b.2)/\G4 fun r=>r.1=rc (rv a.2+rv b.2)->f/\J (p.1,List.set p.2.2.1 l.toNat (a.1,r.1),())) ((e<=p.1/\p.1<c)/\J (i64.wrap (p.1+i),List.set p.2.2.1 g b,()))))/\∀(q:bK),let h:=(q.1,i64.wrap (p.2.1+i),q.2.1,());(Ty.int i64).wf q.1/\Qa q.2.1/\True->J q->I h/\μ h<μ p) ((e<=e/\e<=p.1/\p.1<=c)/\(Ie x.1->List.drop k (List.take g p.2.2.1)=x.1)/\(¬Ie x.1->Ie (List.drop k (List.take g p.2.2.1))/\(∀(j:Int),A8 (List.drop k (List.take g p.2.2.1)) j=A8 x.1 j)/\(List.drop k (List.take g p.2.2.1)).length<=(20:Nat)/\jU (16777216:Nat) (List.drop k (List.take g p.2.2.1)))))))
def VD {a b:List D3} (h:a.Perm b) (j:Int):A8 a j=A8 b j:=by
 induction h with
 |nil=>rfl
 |cons e _ ih=>rw[A8,A8,ih]
 |swap e f l=>simp only[A8];rw[<-xR, <-xR,g2l (if f.1=j then rv f.2 else 0)]
 |trans _ _ h1 u=>rw[h1,u]
def VC (e:D3) (j:Int):A8 [e] j=if e.1=j then rv e.2 else 0:=by
 simp only[A8,rO]
structure MP (o:List D3) (n i:Int) (c:List D3):Prop where
 n0:0<=n
 ni:n<=i
 il:i<=(o.length:Int)
 cl:c.length=o.length
 rest:∀j:Nat,i.toNat<=j->c.getD j F5=o.getD j F5
 ord:Ie (c.take n.toNat)
 cm:∀j,A8 (c.take n.toNat) j=A8 (o.take i.toNat) j
 le:∀e∈c.take n.toNat,∃y∈o.take i.toNat,y.1=e.1
 szs:∀e∈c.take n.toNat,sz (65537*i.toNat) e.2/\Y7 e.2
def MP.init (o:List D3):MP o 0 0 o:=⟨qG _,qG _,qD _,rfl,fun _ _=>rfl,List.Pairwise.nil,fun _=>rfl,fun e u=>(by cases u),fun e u=>(by cases u)⟩
def FR {α:Type} {l:List α} {k:Nat} {x:α} (h:k<l.length):(l.set k x).take (k+1)=l.take k++ [x]:=by
 rw[rS,zC (rC k),tC h];rfl
def Vr {α:Type} {l:List α} {k:Nat} (d:α) (h:k<l.length):l.take (k+1)=l.take k++ [l.getD k d]:=by
 rw[rS,qM h,I0 _ _ h];rfl
variable {o c:List D3} {n i:Int}
def MP.bound (h:MP o n i c) (hs:o.Pairwise fun a b=>a.1<=b.1) (hi:i<(o.length:Int)):∀e∈c.take n.toNat,e.1<=(o.getD i.toNat F5).1:=fun e he=>by
 obtain⟨y,hy,u⟩:=h.le e he;obtain⟨k,hk,rfl⟩:=uB.1 hy;rw[qW]at hk;rw[g1o]at u;have hn:=h.n0;have a0:=h.ni;have:=uN.1 hs k i.toNat (by omega) (by omega) (by omega);rw[I0 _ _ (show i.toNat<o.length by omega), <-u];exact this
def MP.push (h:MP o n i c) (hs:o.Pairwise fun a b=>a.1<=b.1) (hz:jU 65536 o) (hl:HG o) (hi:i<(o.length:Int)) (a2:0<n->(c.getD (n-1).toNat F5).1≠(o.getD i.toNat F5).1):MP o (n+1) (i+1) (c.set n.toNat (o.getD i.toNat F5)):=by
 have hn:=h.n0;have a8:=h.ni;have a3:=h.cl;have hb:=h.bound hs hi;have ht:(c.set n.toNat (o.getD i.toNat F5)).take (n+1).toNat=c.take n.toNat++ [o.getD i.toNat F5]:=by
  rw[show(n+1).toNat=n.toNat+1 from by omega];exact FR (by omega)
 have ho:o.take (i+1).toNat=o.take i.toNat++ [o.getD i.toNat F5]:=by
  rw[show(i+1).toNat=i.toNat+1 from by omega];exact Vr F5 (by omega)
 have a5:∀e∈c.take n.toNat,e.1<(o.getD i.toNat F5).1:=fun e u=>by
  have h1:=hb e u;have a6:0<n:=by
   rcases Int.lt_or_eq_of_le hn with h2|h2
   . exact h2
   . rw[<-h2]at u;cases u
  have hk:(n-1).toNat<c.length:=by omega
  have hsp:c.take n.toNat=c.take (n-1).toNat++ [c.getD (n-1).toNat F5]:=by
   rw[show n.toNat=(n-1).toNat+1 from by omega];exact Vr F5 hk
  have a4:=hb (c.getD (n-1).toNat F5) (by rw[hsp];simp);have a2:=a2 a6;have a0:=h.ord;rw[hsp]at u a0;rcases qU.1 u with u|u
  . have:=(tO.1 a0).2.2 e u _ (qP.2 rfl);omega
  . rw[qP]at u;subst u;omega
 have a1:o.getD i.toNat F5∈o:=B9 (by omega);refine⟨by omega,by omega,by omega,by rw[qJ];exact a3,fun j hj=> ?_, ?_,fun j=> ?_,fun e u=> ?_,fun e u=> ?_⟩
 . rw[qF,tH (by omega), <-qF];exact h.rest j (by omega)
 . rw[ht];exact lG h.ord a5
 . rw[ht,ho,O8,O8,h.cm]
 . rw[ht]at u;rw[ho];rcases qU.1 u with u|u
   . obtain⟨y,hy,a7⟩:=h.le e u;exact⟨y,sN _ hy,a7⟩
   . rw[qP]at u;subst u;exact⟨_,tJ _ (qP.2 rfl),rfl⟩
 . rw[ht]at u;rcases qU.1 u with u|u
   . exact⟨G6 (h.szs e u).1 (by omega),(h.szs e u).2⟩
   . rw[qP]at u;subst u;exact⟨G6 (hz _ a1) (by omega),hl _ a1⟩
def MP.add (h:MP o n i c) (hz:jU 65536 o) (hl:HG o) (hi:i<(o.length:Int)) (ab:0<n) (he:(c.getD (n-1).toNat F5).1=(o.getD i.toNat F5).1):sz (65537*i.toNat) (c.getD (n-1).toNat F5).2/\sz 65536 (o.getD i.toNat F5).2/\MP o n (i+1) (c.set (n-1).toNat ((c.getD (n-1).toNat F5).1,rc (rv (c.getD (n-1).toNat F5).2+rv (o.getD i.toNat F5).2))):=by
 have ac:=h.ni;have a5:=h.cl;have hk:(n-1).toNat<c.length:=by omega
 have hsp:c.take n.toNat=c.take (n-1).toNat++ [c.getD (n-1).toNat F5]:=by
  rw[show n.toNat=(n-1).toNat+1 from by omega];exact Vr F5 hk
 have ho:o.take (i+1).toNat=o.take i.toNat++ [o.getD i.toNat F5]:=by
  rw[show(i+1).toNat=i.toNat+1 from by omega];exact Vr F5 (by omega)
 have a6:c.getD (n-1).toNat F5∈c.take n.toNat:=by rw[hsp];simp
 have a4:o.getD i.toNat F5∈o:=B9 (by omega);obtain⟨z1,z2⟩:=h.szs _ a6;have z3:=hz _ a4;have z4:=hl _ a4;refine⟨z1,z3, ?_⟩;have a1:=h.ord;have a2:=h.cm;have a3:=h.le;have a0:=h.szs;rw[hsp]at a1 a2 a3 a0;have a8:=h.rest;generalize aa:c.getD (n-1).toNat F5=la at*;generalize o.getD i.toNat F5=e0 at*;have ht:∀x:D3,(c.set (n-1).toNat x).take n.toNat=c.take (n-1).toNat++ [x]:=fun x=>by
  rw[show n.toNat=(n-1).toNat+1 from by omega];exact FR hk
 obtain⟨p1,p2,p3⟩:=tO.1 a1;have a7:qs (65537*(i+1).toNat) (rv la.2+rv e0.2):=by
  have h1:1<=i.toNat:=by omega
  exact D7 (Vh (Bg z2 z1 (by omega)) (Bg z4 z3 (by decide))) (by omega)
 refine⟨h.n0,by omega,by omega,by rw[qJ];exact a5,fun j hj=> ?_, ?_,fun j=> ?_,fun e u=> ?_,fun e u=> ?_⟩
 . rw[qF,tH (by omega), <-qF];exact a8 j (by omega)
 . rw[ht];exact tO.2 ⟨p1,zW _ _,fun a ha b hb=>by rw[qP]at hb;subst hb;exact p3 a ha la (qP.2 rfl)⟩
 . rw[ht,ho,O8,O8, <-a2,O8,VC,VC,VC];simp only;rw[F9,he,xR];congr 1;split
   . rfl
   . rw[rO]
 . rw[ht]at u;rw[ho];rcases qU.1 u with h1|h1
   . obtain⟨y,hy,a9⟩:=a3 e (sN _ h1);exact⟨y,sN _ hy,a9⟩
   . rw[qP]at h1;subst h1;exact⟨e0,tJ _ (qP.2 rfl),he.symm⟩
 . rw[ht]at u;rcases qU.1 u with h1|h1
   . exact⟨G6 (a0 e (sN _ h1)).1 (by omega),(a0 e (sN _ h1)).2⟩
   . rw[qP]at h1;subst h1;exact⟨Pe a7,A4x _⟩
def CD (x:A2 Az.args) (u:awf Az.args x) (_:Az.pre x):Pz x:=by
 simp only[Pz,Bq];exact⟨trivial,fun r _ h=>h⟩
def Cv (x:A2 F3.args) (hw:awf F3.args x) (hp:F3.pre x):R9 x:=by
 obtain⟨l,a,b,⟨ok,φ⟩,_⟩:=x;change List (Int×(Bool×List Int)×List Int)at l;change Int at a b;obtain⟨⟨a2,a3,a1⟩,a0,ab,bl,hl⟩:Zq ok φ/\0<=a/\a<=b/\b<=(l.length:Int)/\l.length<=100000:=hp;simp only[R9,iB];have hq:∀x y z:D3,¬φ (y,x,())<0->¬φ (z,y,())<0->¬φ (z,x,())<0:=fun x y z h1 h2=>a3 z y x h2 h1
 refine⟨fun p=>a+1<=p.1/\(p.1<=b\/p.1=a+1)/\p.2.1.Perm l/\p.2.1.take a.toNat=l.take a.toNat/\p.2.1.drop b.toNat=l.drop b.toNat/\(∀s t,a.toNat<=s->s<t->t<p.1.toNat->t<b.toNat->¬φ (p.2.1.getD t F5,p.2.1.getD s F5,())<0),fun p=>(b-p.1).toNat, ?_, ?_⟩
 . rw[wv (by omega)];refine⟨qG _, .inr rfl,wS _,rfl,rfl,fun s t h1 h2 h3 h4=> ?_⟩;change t<(a+1).toNat at h3;omega
 rintro⟨i,m,_⟩ _ ⟨h0,h1,h2,h3,h4,h5⟩;change Int at i;change List (Int×(Bool×List Int)×List Int)at m;simp only at h0 h1 h2 h3 h4 h5⊢;have a4:=h2.length_eq;refine⟨fun h=> ?_,fun h=> ?_⟩
 . have h:=qA h;refine⟨fun p=>a<=p.1/\p.1<=i/\p.2.1.Perm l/\p.2.1.take a.toNat=l.take a.toNat/\p.2.1.drop b.toNat=l.drop b.toNat/\B2c (fun x y=>¬φ (y,x,())<0) F5 p.2.1 a.toNat i.toNat p.1.toNat,fun p=>(p.1-a).toNat,⟨by show a<=i;omega,qG _,h2,h3,h4,A1r fun s t q1 q2 q3=>h5 s t q1 q2 q3 (by omega)⟩, ?_⟩;rintro⟨j,y,_⟩ _ ⟨g0,g1,g2,g3,g4,g5⟩;change Int at j;change List (Int×(Bool×List Int)×List Int)at y;simp only at g0 g1 g2 g3 g4 g5⊢;have a5:=g2.length_eq;have ew:i64.wrap (j-1)=j-1:=wv (by omega);rw[ew];have et:(j-1).toNat=j.toNat-1:=by omega
   rw[et];refine⟨fun hj=>⟨by omega,by omega⟩,fun hj=> ?_,trivial,fun _=>a2 _ _,fun _=>⟨fun u=> ?_,fun u=> ?_⟩⟩
   . have hj:=qA hj;exact⟨by omega,by omega⟩
   . rw[I3]at u;simp only[qC,rT]at u;obtain⟨s1,s2⟩:=u;refine⟨⟨by omega,by omega⟩,⟨by omega,by omega⟩,⟨by omega,by omega⟩,⟨by omega,by rw[qJ];omega⟩,⟨by omega,by omega, ?_, ?_, ?_, ?_⟩,by omega⟩
     . exact(A3g (d:=F5) (l:=y) (j:=j.toNat) (by omega)).trans g2
     . exact(A3h (d:=F5) (l:=y) (by omega)).trans g3
     . exact(A3f (d:=F5) (l:=y) (by omega)).trans g4
     . exact A7g g5 (by omega) (by omega) (by omega) (a1 _ _ s2)
   . rw[I3]at u;simp only[wL,rQ]at u;rw[wv (by omega)];refine⟨⟨by omega, .inl (by omega),g2,g3,g4,fun s t q1 q2 q3 q4=> ?_⟩,by omega⟩;refine B2d g5 hq (by omega) (fun hh=> ?_) s t q1 q2 (by change t<(i+1).toNat at q3;omega);rcases u with u|u
     . omega
     . exact u
 . have h:=qB h;refine⟨trivial,h2,h3,h4, ?_⟩;unfold Xt;have:=XW (q:=fun x y=>¬φ (y,x,())<0) (d:=F5) (l:=m) (a:=a.toNat) (b:=b.toNat) (by omega) fun s t q1 q2 q3=>h5 s t q1 q2 (by omega) q3
   exact this
def Hx (x:A2 H3.args) (hw:awf H3.args x) (hp:H3.pre x):Bh x:=by
 obtain⟨l,n,⟨ok,φ⟩,_⟩:=x;change List (Int×(Bool×List Int)×List Int)at l;change Int at n;obtain⟨a0,hn,hl⟩:Zq ok φ/\n=(l.length:Int)/\l.length<=20:=hp;simp only[Bh,iB,rT6];refine⟨fun p=>(p.1=0/\p.2.1=20/\p.2.2.1=l)\/(p.1=20/\p.2.1=40/\n=20/\p.2.2.1.Perm l/\Xt φ p.2.2.1),fun p=>(40-p.2.1).toNat, .inl ⟨rfl,rfl,rfl⟩, ?_⟩;rintro⟨a,b,m,_⟩ _ hI;change Int at a b;change List (Int×(Bool×List Int)×List Int)at m;simp only at hI⊢;refine⟨fun h=> ?_,fun h=> ?_⟩
 . have h:=qA h;obtain⟨rfl,rfl,rfl⟩:a=0/\b=20/\m=l:=by
    rcases hI with h1| ⟨_,h1,_⟩
    . exact h1
    . omega
   refine⟨trivial,trivial,⟨a0,qG _,by omega,by omega,by omega⟩, ?_⟩;rintro r ⟨o,_⟩ _ _ _ ⟨o1,o2,o3,u⟩;simp only at o1 o2 o3 u⊢;rw[wv (by omega)];refine⟨.inr ⟨by trivial,by trivial,by omega,o1, ?_⟩,by simp⟩;have a1:=o1.length_eq;change Xt φ ((o.drop 0).take (20-0))at u;rw[tX,qX (by omega)]at u;exact u
 . have h:=qB h;have hm:0<=a/\a<=n/\m.Perm l/\(a=0\/a=n/\Xt φ m):=by
    rcases hI with⟨rfl,rfl,rfl⟩ | ⟨rfl,rfl,a3,hp,hs⟩
    . exact⟨qG _,by omega,wS _, .inl rfl⟩
    . exact⟨by decide,by omega,hp, .inr ⟨by omega,hs⟩⟩
   obtain⟨m1,m2,m3,m4⟩:=hm;have a4:=m3.length_eq;refine⟨trivial,trivial,⟨a0,m1,m2,by omega,by omega⟩, ?_⟩;rintro r ⟨o,_⟩ _ _ _ ⟨o1,o2,o3,u⟩;simp only at o1 o2 o3 u⊢;have a1:=o1.length_eq;have a2:Xt φ o:=by
    rcases m4 with m4| ⟨m4,m5⟩
    . change Xt φ ((o.drop a.toNat).take (n.toNat-a.toNat))at u;rw[m4]at u;change Xt φ ((o.drop 0).take (n.toNat-0))at u;rw[tX,qX (by omega)]at u;exact u
    . rw[qX (by omega),qX (by omega)]at o2;rw[o2];exact m5
   refine⟨fun p=>p.1=20/\p.2.1.Perm l/\Xt φ p.2.1,fun _=>0,⟨rfl,o1.trans m3,a2⟩, ?_⟩;rintro⟨k,z,_⟩ _ ⟨k1,k2,k3⟩;simp only at k1 k2 k3⊢;subst k1;refine⟨fun hk=> ?_,fun _=>⟨trivial,k2,k3⟩⟩;have hk:=qA hk;omega
def Cn (x:A2 E8.args) (hw:awf E8.args x) (hp:E8.pre x):Q7 x:=by
 obtain⟨l,⟨ok,φ⟩,_⟩:=x;obtain⟨u,hl⟩:Zq ok φ/\l.length<=20:=hp;simp only[Q7];refine⟨trivial,trivial,⟨u,trivial,hl⟩, ?_⟩;rintro r ⟨o,_⟩ _ _ _ h;exact⟨trivial,h⟩
def oE:Zq (fun _=>True) (fun z=>K8 z.1.1 z.2.1.1):=by
 refine⟨fun _ _=>trivial,fun a b c=> ?_,fun a b=> ?_⟩
 . simp only[K8];split<;>split<;>split<;>(try split)<;>(try split)<;>(try split)<;>omega
 . simp only[K8];split<;>split<;>(try split)<;>(try split)<;>omega
def B0m {a b:Int} :¬K8 a b<0↔b<=a:=by
 unfold K8;split
 . omega
 . split<;>omega
def CC (x:A2 Ay.args) (hw:awf Ay.args x) (hp:Ay.pre x):Py x:=by
 obtain⟨l,_⟩:=x;have a8:HG l:=KD hw.1.2;change List D3 at l;have hp:cH l:=hp;simp only[Py,iB,Bq,G4,Tv];refine⟨trivial, ?_⟩;rintro⟨r,_⟩ _ hr;simp only at hr⊢;subst hr;refine⟨fun h=>⟨fun _=>by trivial,fun h2=>absurd (qA h) h2⟩,fun h=> ?_⟩;have a1:=qB h;obtain⟨hl,hz⟩:=hp.resolve_left a1;refine⟨⟨by omega,by omega,by omega,by omega⟩,fun _=>True,fun z=>K8 z.1.1 z.2.1.1, ?_,⟨oE, ?_⟩, ?_⟩
 . rintro⟨a,b,_⟩ _ _;refine⟨trivial, ?_⟩;rintro⟨z,_⟩ _ hz;exact⟨(by trivial),hz⟩
 . rw[NH];exact hl
 rintro r ⟨o,_⟩ _ _ _ ⟨o1,o2⟩;change List D3 at o;simp only[NH]at o1 o2⊢;have ad:=o1.length_eq;have ab:o.Pairwise fun a b=>a.1<=b.1:=o2.imp fun {a b} hh=>B0m.1 hh
 have a3:jU 65536 o:=fun e he=>hz e (o1.mem_iff.1 he)
 have a0:HG o:=fun e he=>a8 e (o1.mem_iff.1 he)
 refine⟨fun p=>MP o p.1 p.2.1 p.2.2.1,fun p=>((o.length:Int)-p.2.1).toNat,MP.init o, ?_⟩;rintro⟨n,i,c,_⟩ _ hI;change Int at n i;change List D3 at c;simp only at hI⊢;have h0:=hI.n0;have h1:=hI.ni;have h2:=hI.il;have a6:=hI.cl;have u:(c.length:Int)=(o.length:Int):=by rw[a6]
 refine⟨fun hi=> ?_,fun hi=> ?_⟩
 . have hi:=qA hi;have a5:c.getD i.toNat F5=o.getD i.toNat F5:=hI.rest _ (rC _);have a7:0<=i/\i<(c.length:Int):=⟨by omega,by rw[u];exact hi⟩;have a9:i64.wrap (n-1)=n-1:=wv (by omega);rw[a9,a5];refine⟨fun p=>MP o p.1 (i+1) p.2.1,⟨a7,fun hh=> ?_,fun hh=> ?_,fun hh=> ?_⟩, ?_⟩
   . have hh:=qA hh;exact⟨by omega,by rw[u];omega⟩
   . rw[I3]at hh;simp only[qC,rT]at hh;obtain⟨g1,g2⟩:=hh;have a2:0<=n-1/\n-1<(c.length:Int):=⟨by omega,by rw[u];omega⟩;obtain⟨z1,z2,z3⟩:=hI.add a3 a0 hi g1 g2;refine⟨a2,⟨H7 (G6 z1 (show 65537*i.toNat<=2199023255552 by omega)) (rC _),H7 z2 (by decide)⟩, ?_⟩;rintro⟨q,_⟩ _ hq;change B7 at q;simp only at hq⊢;rw[hq];exact⟨a2,z3⟩
   . have aa:0<n->(c.getD (n-1).toNat F5).1≠(o.getD i.toNat F5).1:=fun hn he=>by
      rw[I3,rD hn,rD he]at hh;cases hh
     rw[wv (by omega)];exact⟨⟨by omega,by rw[u];omega⟩,hI.push ab a3 a0 hi aa⟩
   . rintro⟨n',c',_⟩ _ a4;simp only;rw[wv (by omega)];exact⟨a4,by omega⟩
 . have hi:=qB hi;have ac:i=(o.length:Int):=by omega
   refine⟨⟨qG _,h0,by rw[u];omega⟩,fun h=>absurd h a1,fun _=> ?_⟩;have e1:List.drop (Int.toNat 0) (List.take n.toNat c)=c.take n.toNat:=rfl;rw[e1];refine⟨hI.ord,fun j=> ?_, ?_,fun e he=>G6 (hI.szs e he).1 (by omega)⟩
   . rw[hI.cm,D8 (by omega)];exact VD o1 j
   . rw[qW];omega
def JR:An:= {loop:= [(5,⟨[1,6,14,15],[],[(16,false,vI)],[],[(0, .row tE 48)]⟩)]}
def Px:A2 T6.args->Prop:=fun(x:List EE×List Int×Unit)=>let h:=(0:Int);let g:=(x.2.1.length:Int);let d:=(↑x.2.1.length:Int);let e:Prop:=(∀(j:Int),A8 x.1 j≠(0:Rat)->h<=j/\j<d);List.length x.2.1<=100000/\Tv fun r=>r.1=decide (L9 x.2.1 g)->(iB ((!r.1)) (L9 x.2.1 d->e->TH (fun(i:Int)=>if h<=i/\i<d then A8 x.1 (↑(List.idxOf i x.2.1):Int)else(0:Rat)) []/\false=true) (Ow x.1/\rT6 fun n=>TH (A8 x.1) n.1->∃(I:bK->Prop),∃(μ: _->Nat),I (h,n)/\∀(p:bK),let l:Prop:=(p.1<(n.1.length:Int));let k:Prop:=(h<=p.1/\p.1<(p.2.1.length:Int));let c:=(List.getD p.2.1 p.1.toNat F5);let m:=(decide (g<=c.1));let f:=(i64.wrap (p.1+1),List.set p.2.1 p.1.toNat (gx h x.2.1 c.1,c.2),());(Ty.int i64).wf p.1/\Qa p.2.1/\True->I p->(iB (decide l) (k/\(iB (L7 (decide (c.1<h)) true m) (L9 x.2.1 d->e->TH (fun(i:Int)=>if h<=i/\i<d then A8 x.1 (↑(List.idxOf i x.2.1):Int)else(0:Rat)) []/\false=true) ((h<=c.1/\c.1<g)/\k/\I f/\μ f<μ p))) (List.length p.2.1<=100000/\∀(l':List EE),tE.sl.wf l'->l'.Perm p.2.1->List.Pairwise (fun(a b:Int×(Bool×List Int)×List Int)=>¬K8 b.1 a.1<h) l'->L9 x.2.1 d->e->TH (fun(i:Int)=>if h<=i/\i<d then A8 x.1 (↑(List.idxOf i x.2.1):Int)else(0:Rat)) l'/\true=true))))
abbrev S0:=List (Int×Bool)
def Q8 (es:S0):List Int:=es.map fun e=>e.1
def dO (k:Int) (v:Bool) (es:S0):(Q8 es).Nodup->(Q8 (Fz (.int .i64) k v es)).Nodup/\∀i,i∈Q8 (Fz (.int .i64) k v es)↔i=k\/i∈Q8 es:=by
 intro h;unfold Q8 at*;rw[OB];by_cases u:k∈es.map fun e=>e.1
 . rw[qY u];exact⟨h,fun i=>⟨.inr,fun hh=>hh.elim (fun e=>e▸u) id⟩⟩
 . rw[qO u];refine⟨sQ.2 ⟨h,by simp,fun a ha b hb a0=> ?_⟩,fun i=> ?_⟩
   . rw[qP]at hb;exact u (hb▸a0▸ha)
   . rw[qU,qP];exact Or.comm
def dN (k:Int):∀(es:S0),(Q8 es).Nodup->(Q8 (Qj (.int .i64) k es)).Nodup/\∀i,i∈Q8 (Qj (.int .i64) k es)↔i≠k/\i∈Q8 es
 | [],h=>⟨h,fun i=>⟨fun hh=>(by cases hh),fun hh=>(by cases hh.2)⟩⟩
 |x::r,h=>by
  have hn:=sC.1 (show(x.1::Q8 r).Nodup from h);have e:Qj (.int .i64) k (x::r)=if k=x.1 then r else x::Qj (.int .i64) k r:=by
   rw[Qj,Ll];by_cases u:k=x.1
   . rw[qY u,rD u];rfl
   . rw[qO u,rI u];rfl
  rw[e];by_cases u:k=x.1
  . rw[qY u];refine⟨hn.2,fun i=>⟨fun hi=>⟨fun e=>hn.1 (by rw[<-u, <-e];exact hi),qL _ hi⟩,fun hi=> ?_⟩⟩;exact(qR.1 (show i∈x.1::Q8 r from hi.2)).resolve_left fun e=>hi.1 (by rw[e,u])
  . rw[qO u];obtain⟨g1,g2⟩:=dN k r hn.2;refine⟨sC.2 ⟨fun hm=>hn.1 ((g2 _).1 hm).2,g1⟩,fun i=> ?_⟩;constructor
    . intro hi;rcases qR.1 (show i∈x.1::Q8 (Qj (.int .i64) k r)from hi)with rfl|hi
      . exact⟨fun e=>u e.symm,rF⟩
      . exact⟨((g2 i).1 hi).1,qL _ ((g2 i).1 hi).2⟩
    . rintro⟨h1,h2⟩;rcases qR.1 (show i∈x.1::Q8 r from h2)with rfl|h2
      . exact rF
      . exact qL _ ((g2 i).2 ⟨h1,h2⟩)
def Z9 (rows:List (List D3)) (i j:Nat):Rat:=A8 (rows.getD i []) (j:Int)
def B9c (n k:Nat) (p:Nat->Nat) (R:Nat->Nat->Rat) (j:Nat) (es:S0):Prop:=(Q8 es).Nodup/\∀i:Int,i∈Q8 es↔0<=i/\i<(n:Int)/\(∀a,a<k->i.toNat≠p a)/\R i.toNat j≠0
structure EI (n k:Nat) (S:Nat->Nat) (A:Nat->Nat->Rat) (rest P Q place:List Int) (rows lower:List (List D3)) (cols:List S0):Prop where
 elim:JC n k A (ix P) (ix Q) (Z9 rows) (Z9 lower)
 lP:P.length=n
 lQ:Q.length=n
 lpl:place.length=n
 lrows:rows.length=n
 llow:lower.length=n
 lcols:cols.length=n
 P0:∀a,a<k->P.getD a 0=(ix P a:Int)
 Q0:∀a,a<k->Q.getD a 0=(ix Q a:Int)
 pl:∀a,a<k->place.getD (ix Q a) 0=(a:Int)
 rnd:rest.Nodup
 rmem:∀c:Int,c∈rest↔0<=c/\c<(n:Int)/\∀a,a<k->c.toNat≠ix Q a
 can:∀i,i<n->Ct (rows.getD i [])/\(∀e∈rows.getD i [],0<=e.1/\e.1<(n:Int))/\∀j,qs (S k) (A8 (rows.getD i []) j)
 lcan:∀i,i<n->Ct (lower.getD i [])/\(∀e∈lower.getD i [],0<=e.1/\e.1<(k:Int))
 lq:∀i,i<n->∀j,qs (S k) (A8 (lower.getD i []) j)
 fin:∀a,a<k->∀j,qs (S a) (A8 (rows.getD (ix P a) []) j)
 col:∀j:Int,j∈rest->B9c n k (ix P) (Z9 rows) j.toNat (cols.getD j.toNat [])
def Cg {P:List Int} {k m:Nat} {v:Int} (h:m≠k):ix (P.set k v) m=ix P m:=by
 unfold ix;rw[qF,tH (Ne.symm h), <-qF]
def D4 {α:Type} {l:List α} {d v:α} {k m:Nat} (h:m≠k):(l.set k v).getD m d=l.getD m d:=by
 rw[qF,tH (Ne.symm h), <-qF]
def B4 {α:Type} {l:List α} {d v:α} {k:Nat} (h:k<l.length):(l.set k v).getD k d=v:=by
 rw[qF,tC h];rfl
def Qh {P:List Int} {k:Nat} {v:Int} (h:k<P.length):ix (P.set k v) k=v.toNat:=by
 unfold ix;rw[B4 h]
variable {n k:Nat} {S:Nat->Nat} {A:Nat->Nat->Rat} {rest P Q place:List Int} {rows lower:List (List D3)} {cols:List S0}
def Xl (k:Nat) (p:Nat->Nat) (R:Nat->Nat->Rat) (r c i:Nat):Rat:=if i=r\/∃a,a<k/\i=p a then 0 else R i c/R r c
def B1h {p:Nat->Nat} {R:Nat->Nat->Rat} {r c:Nat} :Xl k p R r c r=0:=qY (.inl rfl)
def B1g {p:Nat->Nat} {R:Nat->Nat->Rat} {r c a:Nat} (h:a<k):Xl k p R r c (p a)=0:=qY (.inr ⟨a,h,rfl⟩)
def VZ {p:Nat->Nat} {R:Nat->Nat->Rat} {r c i:Nat} (h1:i≠r) (u:∀a,a<k->i≠p a):Xl k p R r c i=R i c/R r c:=qO fun hh=>hh.elim h1 fun⟨a,ha,e⟩=>u a ha e
def EI.step (h:EI n k S A rest P Q place rows lower cols) {r c:Int} (hc:c∈rest) (hr:r∈Q8 (cols.getD c.toNat [])) {a3:List Int} {u a1:List (List D3)} {a4:List S0}
 (r1:a3.Nodup) (r2:∀x,x∈a3↔x∈rest/\x≠c) (l1:u.length=n) (l2:a1.length=n) (l3:a4.length=n)
 (w1:∀i,i<n->Ct (u.getD i [])/\(∀e∈u.getD i [],0<=e.1/\e.1<(n:Int))/\(∀j,qs (S (k+1)) (A8 (u.getD i []) j))/\∀j,A8 (u.getD i []) j=A8 (rows.getD i []) j-Xl k (ix P) (Z9 rows) r.toNat c.toNat i*A8 (rows.getD r.toNat []) j)
 (w2:∀i,i<n->a1.getD i []=if Xl k (ix P) (Z9 rows) r.toNat c.toNat i=0 then lower.getD i []else lower.getD i []++ [((k:Int),rc (Xl k (ix P) (Z9 rows) r.toNat c.toNat i))])
 (a8:S k<=S (k+1)) (w4:∀i,i<n->qs (S (k+1)) (Xl k (ix P) (Z9 rows) r.toNat c.toNat i))
 (w3:∀j:Int,j∈a3->B9c n (k+1) (ix (P.set k r)) (Z9 u) j.toNat (a4.getD j.toNat [])):
 EI n (k+1) S A a3 (P.set k r) (Q.set k c) (place.set c.toNat k) u a1 a4:=by
 obtain⟨c0,c1,c2⟩:=(h.rmem c).1 hc;obtain⟨a9,hk⟩:=h.col c hc;obtain⟨r0,r3,r4,r5⟩:=(hk r).1 hr;have a2:k<n:=by
  rcases sI k n with hh|hh
  . exact hh
  . obtain⟨a,ha,e⟩:=Hb (n:=n) (q:=ix Q) (fun a ha=>h.elim.qlt a (by omega)) (fun a b ha hb=>h.elim.qinj a b (by omega) (by omega)) (show c.toNat<n by omega);exact absurd e.symm (c2 a (by omega))
 have nk:∀m,m<k->m≠k:=fun m hm=>uH hm
 have a5:∀i,i<n->∀m:Nat,Z9 a1 i m=Z9 lower i m+if m=k then Xl k (ix P) (Z9 rows) r.toNat c.toNat i else 0:=fun i hi m=>by
  show A8 (a1.getD i []) (m:Int)=A8 (lower.getD i []) (m:Int)+ _;rw[w2 i hi];by_cases hf:Xl k (ix P) (Z9 rows) r.toNat c.toNat i=0
  . rw[qY hf,hf];split<;>rw[rO]
  . rw[qO hf,Lw];congr 1;by_cases hm:m=k
    . subst hm;rw[qY rfl,qY rfl]
    . rw[qO hm,qO (by omega)]
 have a6:∀i,i<n->Z9 lower i k=0:=fun i hi=>E9 fun e he a7=>by
  have:=(h.lcan i hi).2 e he;omega
 refine⟨h.elim.step (r:=r.toNat) (c:=c.toNat) (fac:=Xl k (ix P) (Z9 rows) r.toNat c.toNat) a2 (by omega) (by omega) r4 c2 r5 (fun m hm=>Cg (nk m hm)) (Qh (by rw[h.lP];exact a2)) (fun m hm=>Cg (nk m hm)) (Qh (by rw[h.lQ];exact a2)) (fun i _ h1 h2=>VZ h1 h2) B1h (fun a ha=>B1g ha) (fun i j hi _=>(w1 i hi).2.2.2 j) (fun i m hi hm=> ?_) (fun i hi=> ?_), ?_, ?_, ?_,l1,l2,l3,fun a ha=> ?_,fun a ha=> ?_,fun a ha=> ?_,r1,fun x=> ?_,fun i hi=>⟨(w1 i hi).1,(w1 i hi).2.1,(w1 i hi).2.2.1⟩,fun i hi=> ?_,fun i hi j=> ?_,fun a ha j=> ?_,w3⟩
 . rw[a5 i hi,qO (nk m hm),rO]
 . rw[a5 i hi,qY rfl,a6 i hi,tL]
 . rw[qJ];exact h.lP
 . rw[qJ];exact h.lQ
 . rw[qJ];exact h.lpl
 . by_cases a0:a=k
   . subst a0;rw[B4 (by rw[h.lP];exact a2),Qh (by rw[h.lP];exact a2)];omega
   . rw[D4 a0,Cg a0];exact h.P0 a (by omega)
 . by_cases a0:a=k
   . subst a0;rw[B4 (by rw[h.lQ];exact a2),Qh (by rw[h.lQ];exact a2)];omega
   . rw[D4 a0,Cg a0];exact h.Q0 a (by omega)
 . by_cases a0:a=k
   . subst a0;rw[Qh (by rw[h.lQ];exact a2),B4 (by rw[h.lpl];omega)]
   . rw[Cg a0,D4 (fun e=>c2 a (by omega) e.symm)];exact h.pl a (by omega)
 . rw[r2,h.rmem];constructor
   . rintro⟨⟨x0,x1,x2⟩,x3⟩;refine⟨x0,x1,fun a ha=> ?_⟩;by_cases a0:a=k
     . subst a0;rw[Qh (by rw[h.lQ];exact a2)];omega
     . rw[Cg a0];exact x2 a (by omega)
   . rintro⟨x0,x1,x2⟩;refine⟨⟨x0,x1,fun a ha=>by have:=x2 a (by omega);rwa[Cg (nk a ha)]at this⟩,fun e=> ?_⟩;have:=x2 k (rX _);rw[Qh (by rw[h.lQ];exact a2),e]at this;exact this rfl
 . rw[w2 i hi];obtain⟨g1,g2⟩:=h.lcan i hi;split
   . exact⟨g1,fun e he=>by have:=g2 e he;omega⟩
   . rename_i hf;refine⟨CP g1 hf fun e he=>(g2 e he).2,fun e he=> ?_⟩;rcases qU.1 he with he|he
     . have:=g2 e he;omega
     . rw[qP]at he;subst he;simp only;omega
 . rw[w2 i hi];have hq:=D7 (h.lq i hi j) a8;split
   . exact hq
   . rw[Lw];by_cases hj:(k:Int)=j
     . rw[qY hj,E9 fun e he a7=>by have:=(h.lcan i hi).2 e he;omega,tL];exact w4 i hi
     . rw[qO hj,rO];exact hq
 . have he:∀i,i<n->Xl k (ix P) (Z9 rows) r.toNat c.toNat i=0->A8 (u.getD i []) j=A8 (rows.getD i []) j:=fun i hi h0=>by
    rw[(w1 i hi).2.2.2 j,h0,sZ,tF,wR,rO]
   by_cases a0:a=k
   . subst a0;rw[Qh (by rw[h.lP];exact a2),he _ (by omega) B1h];exact(h.can r.toNat (by omega)).2.2 j
   . rw[Cg a0,he _ (h.elim.plt a (by omega)) (B1g (by omega))];exact h.fin a (by omega) j
def EI.stuck (h:EI n k S A rest P Q place rows lower cols) {c:Int} (u:c∈rest) (he:cols.getD c.toNat []= []):¬nonsing n A:=by
 obtain⟨c0,c1,c2⟩:=(h.rmem c).1 u;obtain⟨_,hk⟩:=h.col c u;refine h.elim.stuck (c:=c.toNat) (by omega) c2 fun i hi ha=>rB fun hz=> ?_
 have:=(hk (i:Int)).2 ⟨qD _,by omega,ha,hz⟩;rw[he]at this;cases this
variable {n:Nat} {S:Nat->Nat} {A:Nat->Nat->Rat} {rest P Q place:List Int} {rows lower:List (List D3)} {cols:List S0}
def A2q {P:List Int} (hl:P.length=n) (h0:∀a,a<n->P.getD a 0=(ix P a:Int)) (a1:∀a,a<n->ix P a<n) (hi:∀a b,a<n->b<n->ix P a=ix P b->a=b):L9 P (n:Int):=by
 have hg:∀a (u:a<P.length),P[a]=(ix P a:Int):=fun a u=>by
  rw[<-h0 a (by omega),qF,qM u];rfl
 refine⟨by rw[hl],fun i hm=> ?_,uN.2 fun i j a0 hj a2 e=> ?_⟩
 . obtain⟨a,u,rfl⟩:=uB.1 hm;have:=a1 a (by omega);rw[hg a u];omega
 . rw[hg i a0,hg j hj]at e;have:=hi i j (by omega) (by omega) (by omega);omega
def EI.places (h:EI n n S A rest P Q place rows lower cols):L9 place (n:Int)/\∀b,b<n->List.idxOf (b:Int) place=ix Q b:=by
 have u:∀j,j<n->∃b,b<n/\ix Q b=j/\place.getD j 0=(b:Int):=fun j hj=>by
  obtain⟨b,hb,e⟩:=Hb h.elim.qlt h.elim.qinj hj;exact⟨b,hb,e,by rw[<-e];exact h.pl b hb⟩
 have hg:∀j (hj:j<place.length),place[j]=place.getD j 0:=fun j hj=>by
  rw[qF,qM hj];rfl
 refine⟨A2q h.lpl (fun j hj=> ?_) (fun j hj=> ?_) (fun i j hi hj e=> ?_),fun b hb=> ?_⟩
 . obtain⟨b,hb,_,e⟩:=u j hj;unfold ix;rw[e];omega
 . obtain⟨b,hb,_,e⟩:=u j hj;unfold ix;rw[e];omega
 . obtain⟨b,hb,e1,e2⟩:=u i hi;obtain⟨b',a1,e3,e4⟩:=u j hj;unfold ix at e;rw[e2,e4]at e;have:b=b':=by omega
   rw[<-e1, <-e3,this]
 . have hm:(b:Int)∈place:=by
    have h1:=h.pl b hb;have a0:ix Q b<place.length:=by rw[h.lpl];exact h.elim.qlt b hb
    rw[<-h1, <-hg _ a0];exact vV a0
   have h1:=yJ hm;have h2:place[List.idxOf (b:Int) place]=(b:Int):=g1g h1;obtain⟨b',a1,e1,e2⟩:=u (List.idxOf (b:Int) place) (by rw[<-h.lpl];exact h1);rw[hg _ h1,e2]at h2;have:b'=b:=by omega
   rw[<-e1,this]
def EI.done (h:EI n n S A rest P Q place rows lower cols) (hn:n<=16384) {L U:List (List D3)} (lL:L.length=n) (lU:U.length=n)
 (hL:∀a,a<n->L.getD a []=lower.getD (ix P a) []++ [((a:Int),rc 1)])
 (hU:∀a,a<n->TH (fun i=>if 0<=i/\i<(n:Int)then A8 (rows.getD (ix P a) []) ((List.idxOf i place:Nat):Int)else 0) (U.getD a [])):
 Da (P,Q,((n:Int),(n:Int),L),((n:Int),(n:Int),U)) (n:Int)/\∀i j,i<n->j<n->luM (P,Q,((n:Int),(n:Int),L),((n:Int),(n:Int),U)) n i j=A (ix P i) (ix Q j):=by
 obtain⟨_,a2⟩:=h.places;have a0:∀a m,a<n->el ((n:Int),(n:Int),L) a m=Z9 lower (ix P a) m+if m=a then 1 else 0:=fun a m ha=>by
  show A8 (L.getD a []) (m:Int)=A8 (lower.getD (ix P a) []) (m:Int)+ _;rw[hL a ha,Lw];congr 1;by_cases hm:m=a
  . rw[qY hm,qY (by omega)]
  . rw[qO hm,qO (by omega)]
 have a1:∀a b,a<n->b<n->el ((n:Int),(n:Int),U) a b=Z9 rows (ix P a) (ix Q b):=fun a b ha hb=>by
  show A8 (U.getD a []) (b:Int)=A8 (rows.getD (ix P a) []) _;rw[(hU a ha).2, <-a2 b hb];exact qY ⟨qD _,by omega⟩
 have pl:=h.elim.plt;have vL:∀a,a<n->M0 (L.getD a []) (n:Int):=fun a ha=>by
  rw[hL a ha];obtain⟨g1,g2⟩:=h.lcan _ (pl a ha);have a3:∀e∈lower.getD (ix P a) [],e.1<(a:Int):=fun e u=>by
   refine rB fun a4=>(g1.2 e u).1 ?_
   have h0:=g2 e u;have:=h.elim.low a e.1.toNat ha (by omega) (by omega);unfold Z9 at this;rw[show((e.1.toNat:Nat):Int)=e.1 from by omega,T9 g1.1 u]at this;exact this
  have hc:=CP (q:=1) g1 (by decide) a3;refine⟨hc.1,fun e u=>⟨?_, ?_,(hc.2 e u).1⟩⟩
  . rcases qU.1 u with u|u
    . exact(g2 e u).1
    . rw[qP]at u;subst u;exact qD _
  . rcases qU.1 u with u|u
    . exact(g2 e u).2
    . rw[qP]at u;subst u;simp only;omega
 have vU:∀a,a<n->M0 (U.getD a []) (n:Int):=fun a ha=>by
  obtain⟨g1,g2⟩:=hU a ha;have hr:∀e∈U.getD a [],0<=e.1/\e.1<(n:Int):=fun e u=>rB fun hh=>(g1.2 e u).1 (by rw[<-T9 g1.1 u,g2];exact qO hh)
  exact⟨g1.1,fun e u=>⟨(hr e u).1,(hr e u).2,(g1.2 e u).1⟩⟩
 refine⟨⟨A2q h.lP h.P0 h.elim.plt h.elim.pinj,A2q h.lQ h.Q0 h.elim.qlt h.elim.qinj,⟨rfl,rfl,qD _,by show(n:Int)<=16384;omega,qD _,by show(n:Int)<=16384;omega,by show(L.length:Int)=(n:Int);omega,fun v hv=> ?_⟩,⟨rfl,rfl,qD _,by show(n:Int)<=16384;omega,qD _,by show(n:Int)<=16384;omega,by show(U.length:Int)=(n:Int);omega,fun v hv=> ?_⟩,fun i j hi hj=> ?_⟩,fun i j hi hj=> ?_⟩
 . obtain⟨a,ha,rfl⟩:=P3 [] hv;exact vL a (by rw[<-lL];exact ha)
 . obtain⟨a,ha,rfl⟩:=P3 [] hv;exact vU a (by rw[<-lU];exact ha)
 . have hi:i<n:=by omega
   have hj:j<n:=by omega
   refine⟨fun a5=> ?_, ?_,fun a6=> ?_, ?_⟩
   . show el ((n:Int),(n:Int),L) i j=0;rw[a0 i j hi,h.elim.low i j hi hj (by omega),qO (by omega),rO]
   . show el ((n:Int),(n:Int),L) i i=1;rw[a0 i i hi,h.elim.low i i hi hi (rC _),qY rfl,tL]
   . show el ((n:Int),(n:Int),U) i j=0;rw[a1 i j hi hj];exact h.elim.zero j (ix P i) hj (pl i hi) fun a ha e=>by have:=h.elim.pinj i a hi (by omega) e;omega
   . show el ((n:Int),(n:Int),U) i i≠0;rw[a1 i i hi hi];exact h.elim.piv i hi
 . rw[h.elim.prod hi hj];unfold luM;refine B8 fun m hm=> ?_
   show el ((n:Int),(n:Int),L) i m*el ((n:Int),(n:Int),U) m j= _;rw[a0 i m hi,a1 m j hm hj]
def EI.sizes (h:EI n n S A rest P Q place rows lower cols) (h1:∀a,1<=S a) {L U:List (List D3)}
 (hL:∀a,a<n->L.getD a []=lower.getD (ix P a) []++ [((a:Int),rc 1)])
 (hU:∀a,a<n->TH (fun i=>if 0<=i/\i<(n:Int)then A8 (rows.getD (ix P a) []) ((List.idxOf i place:Nat):Int)else 0) (U.getD a [])) {R C:Int} {i:Nat} (hi:i<n) (j:Nat):qs (S n) (el (R,C,L) i j)/\qs (S i) (el (R,C,U) i j):=by
 constructor
 . show qs (S n) (A8 (L.getD i []) (j:Int));rw[hL i hi,Lw];by_cases hj:i=j
   . subst hj;have u:A8 (lower.getD (ix P i) []) (i:Int)=0:=h.elim.low i i hi hi (rC _);rw[qY rfl,u,tL];exact C1f (h1 n)
   . rw[qO (by omega),rO];exact h.lq _ (h.elim.plt i hi) _
 . show qs (S i) (A8 (U.getD i []) (j:Int));rw[(hU i hi).2];dsimp only;split
   . exact h.fin i hi _
   . exact Ab (h1 i)
def EI.cans (h:EI n n S A rest P Q place rows lower cols) {L U:List (List D3)} (lL:L.length=n) (lU:U.length=n)
 (hL:∀a,a<n->L.getD a []=lower.getD (ix P a) []++ [((a:Int),rc 1)])
 (hU:∀a,a<n->TH (fun i=>if 0<=i/\i<(n:Int)then A8 (rows.getD (ix P a) []) ((List.idxOf i place:Nat):Int)else 0) (U.getD a [])):(∀v∈L,Ct v)/\∀v∈U,Ct v:=by
 constructor
 . intro v hv;obtain⟨a,u,rfl⟩:=P3 [] hv;have u:a<n:=by rw[<-lL];exact u
   rw[hL a u];obtain⟨g1,g2⟩:=h.lcan _ (h.elim.plt a u);refine CP g1 (by decide) fun e he=>rB fun a0=>(g1.2 e he).1 ?_
   have h0:=g2 e he;have:=h.elim.low a e.1.toNat u (by omega) (by omega);unfold Z9 at this;rw[show((e.1.toNat:Nat):Int)=e.1 from by omega,T9 g1.1 he]at this;exact this
 . intro v hv;obtain⟨a,u,rfl⟩:=P3 [] hv;exact(hU a (by rw[<-lU];exact u)).1
variable {n:Nat} {S:Nat->Nat} {rest P Q place:List Int} {rows lower:List (List D3)} {cols:List S0}
def gN (t:Int) (F:Nat->Int->Rat) (v:List D3) (j:Int) (es:S0):Prop:=(Q8 es).Nodup/\∀i:Int,i∈Q8 es↔(0<=i/\i<t/\F i.toNat j≠0)\/(i=t/\∃e∈v,e.1=j)
def B0s {t j:Int} {F:Nat->Int->Rat} {v:List D3} {es:S0} {b:Bool} {e:D3} (h:gN t F v j es) (he:e.1=j):gN t F (v++ [e]) j (Fz (.int .i64) t b es):=by
 obtain⟨g1,g2⟩:=dO t b es h.1;refine⟨g1,fun i=> ?_⟩;rw[g2,h.2];constructor
 . rintro(hh|hh| ⟨hh,x,hx,u⟩)
   . exact .inr ⟨hh,e,by simp,he⟩
   . exact .inl hh
   . exact .inr ⟨hh,x,sN _ hx,u⟩
 . rintro(hh| ⟨hh,x,hx,u⟩)
   . exact .inr (.inl hh)
   . exact .inl hh
def A6t {t j:Int} {F:Nat->Int->Rat} {v:List D3} {es:S0} {e:D3} (h:gN t F v j es) (u:e.1≠j):gN t F (v++ [e]) j es:=by
 refine⟨h.1,fun i=> ?_⟩;rw[h.2];refine g3q yH (g5g yH ⟨fun⟨x,hx,hxj⟩=>⟨x,sN _ hx,hxj⟩,fun⟨x,hx,hxj⟩=> ?_⟩);rcases qU.1 hx with hx|hx
 . exact⟨x,hx,hxj⟩
 . rw[qP]at hx;subst hx;exact absurd hxj u
def A6s {t j:Int} {F:Nat->Int->Rat} {v:List D3} {es:S0} {m:Int} (h:gN t F v j es) (ht:0<=t) (hv:M0 v m) (hF:F t.toNat=A8 v):gN (t+1) F [] j es:=by
 refine⟨h.1,fun i=> ?_⟩;rw[h.2];constructor
 . rintro(⟨h0,h1,u⟩ | ⟨rfl,e,he,rfl⟩)
   . exact .inl ⟨h0,by omega,u⟩
   . refine .inl ⟨ht,by omega, ?_⟩;rw[hF,T9 hv.1 he];exact(hv.2 e he).2.2
 . rintro(⟨h0,h1,u⟩ | ⟨_,e,he,_⟩)
   . by_cases hi:i=t
     . subst hi;rw[hF]at u;exact .inr ⟨rfl,CR u⟩
     . exact .inl ⟨h0,by omega,u⟩
   . cases he
def EI.start {F:Nat->Int->Rat} {A:Nat->Nat->Rat} (hA:∀i j,i<n->j<n->A i j=F i (j:Int)) (lr:rest.length=n) (hr:∀i,i<n->rest.getD i 0=(i:Int))
 (lP:P.length=n) (lQ:Q.length=n) (lpl:place.length=n) (l1:rows.length=n) (l2:lower.length=n) (l3:cols.length=n)
 (w1:∀i,i<n->TH (F i) (rows.getD i [])) (w0:∀i (j:Int),i<n->F i j≠0->0<=j/\j<(n:Int)) (ws:∀i j,i<n->qs (S 0) (F i j)) (w2:∀i,i<n->lower.getD i []= [])
 (w3:∀j:Int,0<=j->j<(n:Int)->gN (n:Int) F [] j (cols.getD j.toNat [])):EI n 0 S A rest P Q place rows lower cols:=by
 have u:∀a,¬a<0:=fun a=>wH a
 have hg:∀i (hi:i<rest.length),rest[i]=(i:Int):=fun i hi=>by
  rw[<-hr i (by omega),qF,qM hi];rfl
 refine⟨⟨rP _,fun a h=>absurd h (u a),fun a h=>absurd h (u a),fun a _ h=>absurd h (u a),fun a _ h=>absurd h (u a),fun i j hi hj=> ?_,fun a _ h=>absurd h (u a),fun a h=>absurd h (u a),fun a _ h=>absurd h (u a)⟩,lP,lQ,lpl,l1,l2,l3,fun a h=>absurd h (u a),fun a h=>absurd h (u a),fun a h=>absurd h (u a),uN.2 fun i j hi hj a2 e=> ?_,fun c=>⟨fun hc=> ?_,fun hc=> ?_⟩,fun i hi=> ?_,fun i hi=> ?_,fun i hi j=> ?_,fun a ha=>absurd ha (u a),fun j hj=> ?_⟩
 . rw[C4,tL,hA i j hi hj];exact((w1 i hi).2 _).symm
 . rw[hg i hi,hg j hj]at e;omega
 . obtain⟨i,hi,rfl⟩:=uB.1 hc;rw[hg i hi];exact⟨qD _,by omega,fun a ha=>absurd ha (u a)⟩
 . obtain⟨h0,h1,_⟩:=hc;have a1:c.toNat<rest.length:=by omega
   have:=hg _ a1;rw[show((c.toNat:Nat):Int)=c from by omega]at this;rw[<-this];exact vV a1
 . obtain⟨g1,g2⟩:=w1 i hi;exact⟨g1,fun e he=>w0 i e.1 hi (by rw[<-g2,T9 g1.1 he];exact(g1.2 e he).1),fun j=>by rw[g2];exact ws i j hi⟩
 . rw[w2 i hi];exact⟨UX,fun e he=>by cases he⟩
 . rw[w2 i hi,Rj];exact Ab (A2t (ws i j hi))
 . have a0:0<=j/\j<(n:Int):=by
    obtain⟨i,hi,rfl⟩:=uB.1 hj;rw[hg i hi];omega
   obtain⟨g1,g2⟩:=w3 j a0.1 a0.2;refine⟨g1,fun i=> ?_⟩;rw[g2];have hR:∀i:Int,0<=i->i<(n:Int)->Z9 rows i.toNat j.toNat=F i.toNat j:=fun i h0 h1=>by
    show A8 (rows.getD i.toNat []) ((j.toNat:Nat):Int)= _;rw[(w1 i.toNat (by omega)).2,show((j.toNat:Nat):Int)=j from by omega]
   constructor
   . rintro(⟨h0,h1,h2⟩ | ⟨_,e,he,_⟩)
     . exact⟨h0,h1,fun a ha=>absurd ha (u a),by rw[hR i h0 h1];exact h2⟩
     . cases he
   . rintro⟨h0,h1,_,h2⟩;exact .inl ⟨h0,h1,by rw[hR i h0 h1]at h2;exact h2⟩
def lT (Bs:Int->Int->Prop) (i:Int) (vs:List D3) (j:Int) (es:S0):Prop:=(Q8 es).Nodup/\∀x:Int,x∈Q8 es↔Bs j x/\¬(x=i/\∃e∈vs,e.1=j)
def lS (Bs:Int->Int->Prop) (i:Int) (vs:List D3) (j:Int) (es:S0):Prop:=(Q8 es).Nodup/\∀x:Int,x∈Q8 es↔Bs j x\/(x=i/\∃e∈vs,e.1=j)
variable {Bs:Int->Int->Prop} {i j:Int} {vs:List D3} {es:S0} {e:D3}
def lV (h:(Q8 es).Nodup/\∀x,x∈Q8 es↔Bs j x):lT Bs i [] j es:=⟨h.1,fun x=>by rw[h.2];exact⟨fun hh=>⟨hh,fun⟨_,e,he,_⟩=>by cases he⟩,fun hh=>hh.1⟩⟩
def B0p (h:(Q8 es).Nodup/\∀x,x∈Q8 es↔Bs j x):lS Bs i [] j es:=⟨h.1,fun x=>by rw[h.2];exact⟨.inl,fun hh=>hh.elim id fun⟨_,e,he,_⟩=>by cases he⟩⟩
def Ui (u:e.1=j):∃y∈vs++ [e],y.1=j:=⟨e,by simp,u⟩
def VY (he:e.1≠j):(∃y∈vs++ [e],y.1=j)↔∃y∈vs,y.1=j:=
 ⟨fun⟨y,u,hyj⟩=>by
  rcases qU.1 u with u|u
  . exact⟨y,u,hyj⟩
  . rw[qP]at u;subst u;exact absurd hyj he,fun⟨y,u,hyj⟩=>⟨y,sN _ u,hyj⟩⟩
def B0r (h:lT Bs i vs j es) (he:e.1=j):lT Bs i (vs++ [e]) j (Qj (.int .i64) i es):=by
 obtain⟨g1,g2⟩:=dN i es h.1;refine⟨g1,fun x=> ?_⟩;rw[g2,h.2];exact⟨fun hh=>⟨hh.2.1,fun u=>hh.1 u.1⟩,fun hh=>⟨fun hx=>hh.2 ⟨hx,Ui he⟩,hh.1,fun u=>hh.2 ⟨u.1,Ui he⟩⟩⟩
def A6r (h:lT Bs i vs j es) (u:e.1≠j):lT Bs i (vs++ [e]) j es:=⟨h.1,fun x=>by rw[h.2,VY u]⟩
def B0q {b:Bool} (h:lS Bs i vs j es) (he:e.1=j):lS Bs i (vs++ [e]) j (Fz (.int .i64) i b es):=by
 obtain⟨g1,g2⟩:=dO i b es h.1;refine⟨g1,fun x=> ?_⟩;rw[g2,h.2];exact⟨fun hh=>hh.elim (fun hx=> .inr ⟨hx,Ui he⟩) fun hh=>hh.elim .inl fun u=> .inr ⟨u.1,Ui he⟩,fun hh=>hh.elim (fun hh=> .inr (.inl hh)) fun u=> .inl u.1⟩
def A6q (h:lS Bs i vs j es) (u:e.1≠j):lS Bs i (vs++ [e]) j es:=⟨h.1,fun x=>by rw[h.2,VY u]⟩
def B0t {O N:Int->Prop} {pv nw:List D3} {a0:S0} (hA:lS (fun _ x=>Bs j x/\¬(x=i/\∃e∈pv,e.1=j)) i nw j a0)
 (hO:Bs j i↔O j) (a1:(∃e∈pv,e.1=j)\/(O j↔N j)) (hN:(∃e∈nw,e.1=j)↔N j):(Q8 a0).Nodup/\∀x,x∈Q8 a0↔(x≠i/\Bs j x)\/(x=i/\N j):=by
 refine⟨hA.1,fun x=> ?_⟩;rw[hA.2,hN];by_cases hx:x=i
 . subst hx;rcases a1 with hp|hp
   . exact⟨fun hh=>hh.elim (fun u=>absurd ⟨rfl,hp⟩ u.2) .inr,fun hh=>hh.elim (fun u=>absurd rfl u.1) .inr⟩
   . exact⟨fun hh=>hh.elim (fun u=> .inr ⟨rfl,hp.1 (hO.1 u.1)⟩) .inr,fun hh=>hh.elim (fun u=>absurd rfl u.1) .inr⟩
 . exact⟨fun hh=>hh.elim (fun u=> .inl ⟨hx,u.1⟩) fun u=>absurd u.1 hx,fun hh=>hh.elim (fun u=> .inl ⟨u.2,fun h3=>hx h3.1⟩) fun u=>absurd u.1 hx⟩
def DJ {s:Nat} :∀ {a b:Nat},a<=b->sK s a<=sK s b
 |a,0,h=>by have:a=0:=by omega
            subst this;exact rC _
 |a,b+1,h=>by
  by_cases u:a=b+1
  . subst u;exact rC _
  . have:=DJ (s:=s) (a:=a) (b:=b) (by omega);simp only[sK];omega
def C6s {s:Nat} (k:Nat):s<=sK s k:=DJ (rP k)
def B7o {s:Nat} {x f r c:Rat} (hx:qs s x) (hf:qs s f) (hr:qs s r) (u:qs s c):qs (4*s+1) (x-f/r*c):=by
 have h1:=Vi hx (Jg (ON hf hr) u);rwa[show s+(s+s+s)+1=4*s+1 from by omega]at h1
def inC (cols:List S0) (j x:Int):Prop:=x∈Q8 (cols.getD j.toNat [])
structure CI (n k s:Nat) (rest P:List Int) (rows0 lower0:List (List D3)) (r c:Int) (D:List Int) (rows lower:List (List D3)) (cols:List S0):Prop where
 lrows:rows.length=n
 llow:lower.length=n
 lcols:cols.length=n
 rd:∀i:Nat,i<n->(i:Int)∈D->Ct (rows.getD i [])/\(∀e∈rows.getD i [],0<=e.1/\e.1<(n:Int))/\(∀j,qs (4*s+1) (A8 (rows.getD i []) j))/\∀j,A8 (rows.getD i []) j=A8 (rows0.getD i []) j-Xl k (ix P) (Z9 rows0) r.toNat c.toNat i*A8 (rows0.getD r.toNat []) j
 ru:∀i:Nat,i<n->(i:Int)∉D->rows.getD i []=rows0.getD i []
 lo:∀i:Nat,i<n->lower.getD i []=if(i:Int)∈D then lower0.getD i []++ [((k:Int),rc (Xl k (ix P) (Z9 rows0) r.toNat c.toNat i))]else lower0.getD i []
 col:∀j:Int,j∈rest->(Q8 (cols.getD j.toNat [])).Nodup/\∀x:Int,x∈Q8 (cols.getD j.toNat [])↔x≠r/\0<=x/\x<(n:Int)/\(∀a,a<k->x.toNat≠ix P a)/\Z9 rows x.toNat j.toNat≠0
variable {n k s:Nat} {S:Nat->Nat} {A:Nat->Nat->Rat} {rest P Q place:List Int} {rows lower rows1 lower1:List (List D3)} {cols cols1 cols2:List S0} {r c:Int}
def A4i {v:List D3} (h:Ct v) (j:Int):(∃e∈v,e.1=j)↔A8 v j≠0:=
 ⟨fun⟨e,he,hj⟩=>by rw[<-hj,T9 h.1 he];exact(h.2 e he).1,CR⟩
def EI.row (h:EI n k S A rest P Q place rows lower cols) (u:c∈rest) (hr:r∈Q8 (cols.getD c.toNat [])):0<=r/\r<(n:Int)/\(∀a,a<k->r.toNat≠ix P a)/\Z9 rows r.toNat c.toNat≠0:=((h.col c u).2 r).1 hr
def EI.crange (h:EI n k S A rest P Q place rows lower cols) (u:c∈rest):0<=c/\c<(n:Int):=⟨((h.rmem c).1 u).1,((h.rmem c).1 u).2.1⟩
def CI.init (h:EI n k S A rest P Q place rows lower cols) (hc:c∈rest) (hr:r∈Q8 (cols.getD c.toNat [])) (l1:cols1.length=n)
 (u:∀j:Int,j∈rest->lT (inC cols) r (rows.getD r.toNat []) j (cols1.getD j.toNat [])):CI n k s rest P rows lower r c [] rows lower cols1:=by
 obtain⟨r0,r1,r2,_⟩:=h.row hc hr;refine⟨h.lrows,h.llow,l1,fun i _ hh=>(by cases hh),fun i _ _=>rfl,fun i _=>(qO (by simp)).symm,fun j hj=> ?_⟩;obtain⟨j0,j1⟩:=h.crange hj;obtain⟨g1,g2⟩:=u j hj;refine⟨g1,fun x=> ?_⟩;rw[g2];have hb:=(h.col j hj).2 x;unfold inC;rw[hb,A4i (h.can r.toNat (by omega)).1];constructor
 . rintro⟨⟨x0,x1,x2,x3⟩,h2⟩;refine⟨fun e=>h2 ⟨e, ?_⟩,x0,x1,x2,x3⟩;subst e;unfold Z9 at x3;rwa[show((j.toNat:Nat):Int)=j from by omega]at x3
 . rintro⟨hx,x0,x1,x2,x3⟩;exact⟨⟨x0,x1,x2,x3⟩,fun h2=>hx h2.1⟩
def CI.next (h:EI n k S A rest P Q place rows lower cols) (hc:c∈rest) (hr:r∈Q8 (cols.getD c.toNat [])) {D:List Int} (g:CI n k (S k) rest P rows lower r c D rows1 lower1 cols1) {i:Int}
 (i0:0<=i) (i1:i<(n:Int)) (aa:i≠r) (a6:∀a,a<k->i.toNat≠ix P a) (hD:i∉D) {nw:List D3} {q:Rat}
 (hq:q=Z9 rows i.toNat c.toNat/Z9 rows r.toNat c.toNat)
 (a3:TH (fun j=>A8 (rows.getD i.toNat []) j-q*A8 (rows.getD r.toNat []) j) nw) (l2:cols2.length=n)
 (a8:∀j:Int,j∈rest->lS (fun j x=>inC cols1 j x/\¬(x=i/\∃e∈rows.getD r.toNat [],e.1=j)) i nw j (cols2.getD j.toNat [])):
 CI n k (S k) rest P rows lower r c (D++ [i]) (rows1.set i.toNat nw) (lower1.set i.toNat (lower1.getD i.toNat []++ [((k:Int),rc q)])) cols2:=by
 obtain⟨r0,r1,r2,r3⟩:=h.row hc hr;obtain⟨c0,c1⟩:=h.crange hc;have a2:i.toNat<n:=by omega
 have a9:((i.toNat:Nat):Int)=i:=by omega
 have a5:Xl k (ix P) (Z9 rows) r.toNat c.toNat i.toNat=q:=by rw[VZ (by omega) a6,hq]
 have u:∀x:Nat,(x:Int)∈D++ [i]↔(x:Int)∈D\/x=i.toNat:=fun x=>by
  rw[qU,qP];exact g3q yH (by omega)
 have a4:∀j,A8 nw j=A8 (rows.getD i.toNat []) j-q*A8 (rows.getD r.toNat []) j:=a3.2;have ad:∀e∈nw,0<=e.1/\e.1<(n:Int):=fun e he=>rB fun hh=>by
  refine(a3.1.2 e he).1 ?_;rw[<-T9 a3.1.1 he,a4,E9 (v:=rows.getD i.toNat []) fun y hy a7=>hh (by rw[<-a7];exact(h.can _ a2).2.1 y hy),E9 (v:=rows.getD r.toNat []) fun y hy a7=>hh (by rw[<-a7];exact(h.can r.toNat (by omega)).2.1 y hy),tZ,tF,wR,rO]
 refine⟨by rw[qJ];exact g.lrows,by rw[qJ];exact g.llow,l2,fun x hx a0=> ?_,fun x hx a0=> ?_,fun x hx=> ?_,fun j hj=> ?_⟩
 . by_cases a1:x=i.toNat
   . subst a1;rw[B4 (by rw[g.lrows];exact a2),a5];refine⟨a3.1,ad,fun j=> ?_,a4⟩;rw[a4,hq];have:=B7o ((h.can _ a2).2.2 j) ((h.can _ a2).2.2 (c.toNat:Int)) ((h.can r.toNat (by omega)).2.2 (c.toNat:Int)) ((h.can r.toNat (by omega)).2.2 j);exact this
   . rw[D4 a1];exact g.rd x hx (((u x).1 a0).resolve_right a1)
 . have a1:x≠i.toNat:=fun e=>a0 ((u x).2 (.inr e))
   rw[D4 a1];exact g.ru x hx fun hh=>a0 ((u x).2 (.inl hh))
 . by_cases a1:x=i.toNat
   . subst a1;rw[B4 (by rw[g.llow];exact a2),qY ((u _).2 (.inr rfl)),g.lo _ a2,qO (by rw[a9];exact hD),a5]
   . rw[D4 a1,g.lo x hx];by_cases a0:(x:Int)∈D
     . rw[qY a0,qY ((u x).2 (.inl a0))]
     . rw[qO a0,qO fun hh=>a0 (((u x).1 hh).resolve_right a1)]
 . obtain⟨j0,j1⟩:=h.crange hj;obtain⟨gn,gk⟩:=g.col j hj;have ab:((j.toNat:Nat):Int)=j:=by omega
   have hO:inC cols1 j i↔A8 (rows.getD i.toNat []) j≠0:=by
    unfold inC;rw[gk];have e1:Z9 rows1 i.toNat j.toNat=A8 (rows.getD i.toNat []) j:=by
     unfold Z9;rw[g.ru _ a2 (by rw[a9];exact hD),ab]
    rw[e1];exact⟨fun hh=>hh.2.2.2.2,fun hh=>⟨aa,i0,i1,a6,hh⟩⟩
   have ac:=B0t (Bs:=inC cols1) (O:=fun j=>A8 (rows.getD i.toNat []) j≠0) (N:=fun j=>A8 nw j≠0) (pv:=rows.getD r.toNat []) (nw:=nw) (a8 j hj) hO ?_ (A4i a3.1 j)
   . refine⟨ac.1,fun x=> ?_⟩;rw[ac.2];unfold inC;rw[gk];by_cases hx:x=i
     . subst hx;have:Z9 (rows1.set x.toNat nw) x.toNat j.toNat=A8 nw j:=by
        unfold Z9;rw[B4 (by rw[g.lrows];exact a2),ab]
       rw[this];exact⟨fun hh=>hh.elim (fun h2=>absurd rfl h2.1) fun h2=>⟨aa,i0,i1,a6,h2.2⟩,fun hh=> .inr ⟨rfl,hh.2.2.2.2⟩⟩
     . constructor
       . rintro(⟨_,h1,x0,x1,x2,x3⟩ | ⟨h1,_⟩)
         . refine⟨h1,x0,x1,x2, ?_⟩;unfold Z9 at x3⊢;rwa[D4 (by omega)]
         . exact absurd h1 hx
       . rintro⟨h1,x0,x1,x2,x3⟩;refine .inl ⟨hx,h1,x0,x1,x2, ?_⟩;unfold Z9 at x3⊢;rwa[D4 (by omega)]at x3
   . by_cases hp:∃e∈rows.getD r.toNat [],e.1=j
     . exact .inl hp
     . refine .inr ?_;have h0:A8 (rows.getD r.toNat []) j=0:=rB fun hh=>hp (CR hh)
       show A8 _ j≠0↔A8 nw j≠0;rw[a4,h0,tZ,tF,wR,rO]
def CI.done (h:EI n k S A rest P Q place rows lower cols) (hc:c∈rest) (hr:r∈Q8 (cols.getD c.toNat [])) {D:List Int} (g:CI n k (S k) rest P rows lower r c D rows1 lower1 cols1)
 (hS:S (k+1)=4*S k+1) (hD:∀x:Int,x∈D↔x≠r/\0<=x/\x<(n:Int)/\(∀a,a<k->x.toNat≠ix P a)/\Z9 rows x.toNat c.toNat≠0) {a0:List Int} (r1:a0.Nodup) (r2:∀x,x∈a0↔x∈rest/\x≠c):
 EI n (k+1) S A a0 (P.set k r) (Q.set k c) (place.set c.toNat k) rows1 lower1 cols1:=by
 obtain⟨p0,p1,p2,p3⟩:=h.row hc hr;have a2:k<P.length:=by
  rw[h.lP];refine Nat.lt_of_le_of_ne h.elim.kn fun a2=> ?_
  obtain⟨c0,c1,c2⟩:=(h.rmem c).1 hc;obtain⟨a,ha,e⟩:=Hb (n:=n) (q:=ix Q) (fun a ha=>h.elim.qlt a (by omega)) (fun a b ha hb=>h.elim.qinj a b (by omega) (by omega)) (show c.toNat<n by omega);exact absurd e.symm (c2 a (by omega))
 have a1:∀i:Nat,i<n->((i:Int)∈D↔Xl k (ix P) (Z9 rows) r.toNat c.toNat i≠0):=fun i hi=>by
  rw[hD,qK];constructor
  . rintro⟨x1,_,_,x2,x3⟩;rw[VZ (by omega) x2,tY];exact fun hz=>(zN.1 hz).elim x3 fun hz=>by
     have:=g1j _ p3;rw[hz,tZ]at this;exact absurd this (by decide)
  . intro hf;have a3:¬(i=r.toNat\/∃a,a<k/\i=ix P a):=fun hh=>hf (qY hh)
    refine⟨fun e=>a3 (.inl (by omega)),by omega,by omega,fun a ha e=>a3 (.inr ⟨a,ha,e⟩),fun hz=>hf ?_⟩;unfold Xl;rw[qO a3,hz,tY,sZ]
 refine h.step hc hr r1 r2 g.lrows g.llow g.lcols (fun i hi=> ?_) (fun i hi=> ?_) (by omega) (fun i hi=> ?_) fun j hj=> ?_
 . rw[hS];by_cases u:(i:Int)∈D
   . exact g.rd i hi u
   . have hz:Xl k (ix P) (Z9 rows) r.toNat c.toNat i=0:=rB fun hh=>u ((a1 i hi).2 hh)
     rw[g.ru i hi u,hz];obtain⟨g1,g2,g3⟩:=h.can i hi;exact⟨g1,g2,fun j=>D7 (g3 j) (by omega),fun j=>by rw[sZ,tF,wR,rO]⟩
 . rw[g.lo i hi];by_cases u:(i:Int)∈D
   . rw[qY u,qO ((a1 i hi).1 u)]
   . rw[qO u,qY (rB fun hh=>u ((a1 i hi).2 hh))]
 . have hq:=(h.can i hi).2.2 (c.toNat:Int);rw[hS];unfold Xl;split
   . exact Ab (by have:=A2t hq;omega)
   . exact D7 (ON hq ((h.can r.toNat (by omega)).2.2 (c.toNat:Int))) (by omega)
 . obtain⟨g1,g2⟩:=g.col j ((r2 j).1 hj).1;refine⟨g1,fun x=> ?_⟩;rw[g2];constructor
   . rintro⟨x1,x2,x3,x4,x5⟩;refine⟨x2,x3,fun a ha=> ?_,x5⟩;by_cases a4:a=k
     . subst a4;rw[Qh a2];omega
     . rw[Cg a4];exact x4 a (by omega)
   . rintro⟨x2,x3,x4,x5⟩;refine⟨fun e=> ?_,x2,x3,fun a ha=> ?_,x5⟩
     . have:=x4 k (rX _);rw[Qh a2,e]at this;exact this rfl
     . have:=x4 a (by omega);rwa[Cg (uH ha)]at this
def EI.two (h:EI n k S A rest P Q place rows lower cols) {i j:Nat} (hi:i<n) (hj:j<n) (a1:i≠j) (ha:∀a,a<k->i≠ix P a) (hb:∀a,a<k->j≠ix P a):k+2<=n:=by
 refine rB fun hn=> ?_
 have a2:=h.elim.kn;obtain⟨a,b,h1,h2,h3⟩:=XY n (fun a=>if a<k then ix P a else if a=k then i else j) fun a _=>by
  split
  . rename_i h1;exact h.elim.plt a h1
  . split<;>assumption
 by_cases u:a<k
 . rw[qY u]at h3;by_cases a0:b<k
   . rw[qY a0]at h3;have:=h.elim.pinj a b u a0 h3;omega
   . rw[qO a0]at h3;split at h3
     . exact ha a u h3.symm
     . exact hb a u h3.symm
 . have a0:¬b<k:=by omega
   rw[qO u,qO a0]at h3;have:a=k:=by omega
   rw[qY this,qO (by omega)]at h3;exact a1 h3
def LB {α:Type} (l:List α) (i:Nat) (d:α):l.set i (l.getD i d)=l:=by
 refine g0h (by rw[qJ]) fun j a0 u=> ?_
 rw[g1v];split
 . rename_i e;subst e;rw[I0 _ _ u]
 . rfl
def Gk {α:Type} {d:α} {l:List α} {t:Int} (u:0<=t) (t1:t<(l.length:Int)):l.take (t+1).toNat=l.take t.toNat++ [gx d l t]:=by
 rw[show(t+1).toNat=t.toNat+1 from by omega,rS,G9 (d:=d) u t1];rfl
def DG {l:List Int} {n:Nat} (h:l.Nodup) (hl:∀x∈l,0<=x/\x<(n:Int)):l.length<=n:=by
 refine rB fun hn=> ?_
 have u:∀a,a<n+1->a<l.length:=fun a ha=>by omega
 obtain⟨a,b,h1,h2,h3⟩:=XY n (fun a=>(l.getD a 0).toNat) fun a ha=>by
  have:=hl _ (B9 (d:=0) (u a ha));omega
 have ga:=hl _ (B9 (d:=0) (u a (by omega)));have gb:=hl _ (B9 (d:=0) (u b h2));have he:l.getD a 0=l.getD b 0:=by omega
 rw[I0 _ _ (u a (by omega)),I0 _ _ (u b h2)]at he;have:=(wN h).1 he;omega
def B2o (es:S0):(Q8 es).length=es.length:=sD ..
def nQ {es:S0} {y:Int×Bool} (h:y∈es):y.1∈Q8 es:=uK (f:=fun e:Int×Bool=>e.1) h
def kG (n:Nat) (dd:List Nat):Prop:=∀i,i<n->i∉dd
abbrev NB:=List S0×List Nat
abbrev NR:=List (List D3)×List Nat
variable {n k:Nat} {S:Nat->Nat} {A:Nat->Nat->Rat} {rest P Q place:List Int} {rows lower:List (List D3)} {cols:List S0}
def A3o {v:List D3} {m j:Int} (h:M0 v m) (u:A8 v j≠0):0<=j/\j<m:=rB fun hh=>u (A9i h hh)
def EI.more (h:EI n k S A rest P Q place rows lower cols) (hk:k<n):0<rest.length:=by
 refine rB fun hn=> ?_
 have a0:rest= []:=qQ (by omega);have u:∀c,c<n->∃a,a<k/\c=ix Q a:=fun c hc=>rB fun hh=>by
  have:=(h.rmem (c:Int)).2 ⟨by omega,by omega,fun a ha e=>hh ⟨a,ha,by omega⟩⟩;rw[a0]at this;cases this
 obtain⟨f,hf⟩:∃f:Nat->Nat,∀c,c<n->f c<k/\c=ix Q (f c):=by
  refine⟨fun c=>if hc:c<n then(u c hc).choose else 0,fun c hc=> ?_⟩;simp only[dif_pos hc];exact(u c hc).choose_spec
 obtain⟨a,b,h1,h2,h3⟩:=XY k f fun a ha=>(hf a (by omega)).1
 have e1:=(hf a (by omega)).2;have e2:=(hf b (by omega)).2;rw[h3]at e1;omega
def EI.okRow (h:EI n k S A rest P Q place rows lower cols) (hS:S k<=K1) (hn:n<=16384) {i:Nat} (hi:i<n):eM K1 (rows.getD i []):=by
 obtain⟨u,g2,g3⟩:=h.can i hi;have:=Jo (n:=(n:Int)) (v:=rows.getD i []) ⟨u.1,fun e he=>⟨(g2 e he).1,(g2 e he).2,(u.2 e he).1⟩⟩;exact⟨u.1,TD u fun j=>D7 (g3 j) hS,by omega⟩
def EI.lowLen (h:EI n k S A rest P Q place rows lower cols) {i:Nat} (hi:i<n):(lower.getD i []).length<=k:=by
 obtain⟨u,g2⟩:=h.lcan i hi;have:=Jo (n:=(k:Int)) (v:=lower.getD i []) ⟨u.1,fun e he=>⟨(g2 e he).1,(g2 e he).2,(u.2 e he).1⟩⟩;omega
def EI.colLen (h:EI n k S A rest P Q place rows lower cols) {c:Int} (hc:c∈rest):(cols.getD c.toNat []).length<=n:=by
 obtain⟨g1,u⟩:=h.col c hc;rw[<-B2o];exact DG g1 fun x hx=>⟨((u x).1 hx).1,((u x).1 hx).2.1⟩
def EI.pick (h:EI n k S A rest P Q place rows lower cols) {b:Nat} (hb:b<rest.length):(rest.take b++rest.drop (b+1)).Nodup/\∀x,x∈rest.take b++rest.drop (b+1)↔x∈rest/\x≠rest.getD b 0:=by
 have he:rest=rest.take b++rest.getD b 0::rest.drop (b+1):=by
  rw[I0 _ _ hb, <-xJ hb,uG]
 have hn:=h.rnd;generalize rest.getD b 0=c at*;generalize rest.take b=l1 at*;generalize rest.drop (b+1)=l2 at*;subst he;rw[sQ]at hn;obtain⟨n1,n2,n3⟩:=hn;obtain⟨m1,m2⟩:=sC.1 n2;refine⟨sQ.2 ⟨n1,m2,fun a ha b hb=>n3 a ha b (qL _ hb)⟩,fun x=> ?_⟩;rw[qU,qU,qR];constructor
 . rintro(hx|hx)
   . exact⟨.inl hx,fun e=>n3 x hx c rF e⟩
   . exact⟨.inr (.inr hx),fun e=>m1 (e▸hx)⟩
 . rintro⟨hx|hx|hx,u⟩
   . exact .inl hx
   . exact absurd hx u
   . exact .inr hx
def HE (n:Nat) (rest:List Int) (Bs:Int->Int->Prop) (i:Int) (v:List D3) (p:Int×NB×Unit):Prop:=0<=p.1/\p.1<=(v.length:Int)/\p.2.1.1.length=n/\kG n p.2.1.2/\∀j:Int,j∈rest->(0<=j/\j<(n:Int))/\lT Bs i (v.take p.1.toNat) j (p.2.1.1.getD j.toNat [])
def dL (n:Nat) (rest:List Int) (Bs:Int->Int->Prop) (i:Int) (v:List D3) (p:Int×NB×Unit):Prop:=0<=p.1/\p.1<=(v.length:Int)/\p.2.1.1.length=n/\kG n p.2.1.2/\∀j:Int,j∈rest->(0<=j/\j<(n:Int))/\lS Bs i (v.take p.1.toNat) j (p.2.1.1.getD j.toNat [])
def PU (n:Nat) (F:Nat->Int->Rat) (i:Int) (v:List D3) (p:Int×NB×Unit):Prop:=0<=p.1/\p.1<=(v.length:Int)/\p.2.1.1.length=n/\kG n p.2.1.2/\∀j:Int,0<=j->j<(n:Int)->gN i F (v.take p.1.toNat) j (p.2.1.1.getD j.toNat [])
variable {Bs:Int->Int->Prop} {i t:Int} {v:List D3} {dd:List Nat} {F:Nat->Int->Rat}
def HE.rng (h:HE n rest Bs i v (t,(cols,dd),())) (hv:∀e∈v,0<=e.1/\e.1<(n:Int)) (ht:t<(v.length:Int)):(0<=t/\t<(v.length:Int))/\(0<=(gx F5 v t).1/\(gx F5 v t).1<((cols.length:Nat):Int))/\(gx F5 v t).1.toNat∉dd:=by
 have u:=hv (gx F5 v t) (H1 (d:=F5) (i:=t) h.1 ht);have hl:cols.length=n:=h.2.2.1;exact⟨⟨h.1,ht⟩,⟨u.1,by rw[hl];exact u.2⟩,h.2.2.2.1 _ (by omega)⟩
def HE.next (h:HE n rest Bs i v (t,(cols,dd),())) (hv:∀e∈v,0<=e.1/\e.1<(n:Int)) (ht:t<(v.length:Int)):HE n rest Bs i v (t+1,(cols.set (gx F5 v t).1.toNat (Qj (.int .i64) i (cols.getD (gx F5 v t).1.toNat [])),dd),()):=by
 obtain⟨h0,_,h2,h3,h4⟩:=h;simp only at h0 h2 h3 h4;refine⟨by simp only;omega,by simp only;omega,by simp only;rw[qJ];exact h2,h3,fun j u=> ?_⟩;obtain⟨⟨j0,j1⟩,h5⟩:=h4 j u;refine⟨⟨j0,j1⟩, ?_⟩;have he:=hv _ (H1 (d:=F5) h0 ht);simp only;rw[Gk (d:=F5) h0 ht];generalize gx F5 v t=e at*;by_cases u:e.1=j
 . subst u;rw[B4 (by omega)];exact B0r h5 rfl
 . rw[D4 (by omega)];exact A6r h5 u
def dL.rng (h:dL n rest Bs i v (t,(cols,dd),())) (hv:∀e∈v,0<=e.1/\e.1<(n:Int)) (ht:t<(v.length:Int)):(0<=t/\t<(v.length:Int))/\(0<=(gx F5 v t).1/\(gx F5 v t).1<((cols.length:Nat):Int))/\(gx F5 v t).1.toNat∉dd:=by
 have u:=hv (gx F5 v t) (H1 (d:=F5) (i:=t) h.1 ht);have hl:cols.length=n:=h.2.2.1;exact⟨⟨h.1,ht⟩,⟨u.1,by rw[hl];exact u.2⟩,h.2.2.2.1 _ (by omega)⟩
def dL.next {b:Bool} (h:dL n rest Bs i v (t,(cols,dd),())) (hv:∀e∈v,0<=e.1/\e.1<(n:Int)) (ht:t<(v.length:Int)):dL n rest Bs i v (t+1,(cols.set (gx F5 v t).1.toNat (Fz (.int .i64) i b (cols.getD (gx F5 v t).1.toNat [])),dd),()):=by
 obtain⟨h0,_,h2,h3,h4⟩:=h;simp only at h0 h2 h3 h4;refine⟨by simp only;omega,by simp only;omega,by simp only;rw[qJ];exact h2,h3,fun j u=> ?_⟩;obtain⟨⟨j0,j1⟩,h5⟩:=h4 j u;refine⟨⟨j0,j1⟩, ?_⟩;have he:=hv _ (H1 (d:=F5) h0 ht);simp only;rw[Gk (d:=F5) h0 ht];generalize gx F5 v t=e at*;by_cases u:e.1=j
 . subst u;rw[B4 (by omega)];exact B0q h5 rfl
 . rw[D4 (by omega)];exact A6q h5 u
def PU.rng (h:PU n F i v (t,(cols,dd),())) (hv:∀e∈v,0<=e.1/\e.1<(n:Int)) (ht:t<(v.length:Int)):(0<=t/\t<(v.length:Int))/\(0<=(gx F5 v t).1/\(gx F5 v t).1<((cols.length:Nat):Int))/\(gx F5 v t).1.toNat∉dd:=by
 have u:=hv (gx F5 v t) (H1 (d:=F5) (i:=t) h.1 ht);have hl:cols.length=n:=h.2.2.1;exact⟨⟨h.1,ht⟩,⟨u.1,by rw[hl];exact u.2⟩,h.2.2.2.1 _ (by omega)⟩
def PU.next {b:Bool} (h:PU n F i v (t,(cols,dd),())) (hv:∀e∈v,0<=e.1/\e.1<(n:Int)) (ht:t<(v.length:Int)):PU n F i v (t+1,(cols.set (gx F5 v t).1.toNat (Fz (.int .i64) i b (cols.getD (gx F5 v t).1.toNat [])),dd),()):=by
 obtain⟨u,_,h2,h3,h4⟩:=h;simp only at u h2 h3 h4;refine⟨by simp only;omega,by simp only;omega,by simp only;rw[qJ];exact h2,h3,fun j j0 j1=> ?_⟩;have he:=hv _ (H1 (d:=F5) u ht);simp only;rw[Gk (d:=F5) u ht];have h5:=h4 j j0 j1;generalize gx F5 v t=e at*;by_cases hj:e.1=j
 . subst hj;rw[B4 (by omega)];exact B0s h5 rfl
 . rw[D4 (by omega)];exact A6t h5 hj
def KG (n:Nat) (p:Int×NB×List Int×Unit):Prop:=0<=p.1/\p.1<=(n:Int)/\p.2.1.1.length=n/\(∀j,p.2.1.1.getD j []= [])/\(∀i∈p.2.1.2,p.1<=(i:Int))/\p.2.2.1.length=n/\∀i:Nat,(i:Int)<p.1->p.2.2.1.getD i 0=(i:Int)
def KG.init:KG n (0,(List.replicate n [],Ql (Ty.mp false (Ty.int i64) false Ty.bool) n),List.replicate n 0,()):=by
 refine⟨by simp only;omega,by simp only;omega,by simp only;rw[rJ],fun j=> ?_,fun i _=>qD i,by simp only;rw[rJ],fun i hi=> ?_⟩
 . simp only;rw[qF,vD];split<;>rfl
 . simp only at hi;omega
def KG.next {left:List Int} (h:KG n (t,(cols,dd),left,())) (ht:t<(n:Int)):KG n (t+1,(cols.set t.toNat [],PD t.toNat dd),left.set t.toNat t,()):=by
 obtain⟨h0,_,h2,h3,h4,h5,h6⟩:=h;simp only at h0 h2 h3 h4 h5 h6;refine⟨by simp only;omega,by simp only;omega,by simp only;rw[qJ];exact h2,fun j=> ?_,fun i hi=> ?_,by simp only;rw[qJ];exact h5,fun i hi=> ?_⟩
 . simp only;by_cases u:j=t.toNat
   . subst u;rw[B4 (by omega)]
   . rw[D4 u];exact h3 j
 . simp only at hi⊢;obtain⟨g1,g2⟩:=YY.1 hi;have:=h4 i g1;omega
 . simp only at hi⊢;by_cases u:i=t.toNat
   . subst u;rw[B4 (by omega)];omega
   . rw[D4 u];exact h6 i (by omega)
def FO (n:Nat) (D:List (List D3)) (p:Int×List (List D3)×NB×Unit):Prop:=0<=p.1/\p.1<=(n:Int)/\p.2.1.length=n/\(∀i:Nat,(i:Int)<p.1->TH (A8 (D.getD i [])) (p.2.1.getD i []))/\p.2.2.1.1.length=n/\kG n p.2.2.1.2/\∀j:Int,0<=j->j<(n:Int)->gN p.1 (fun i=>A8 (D.getD i [])) [] j (p.2.2.1.1.getD j.toNat [])
def FO.init {left:List Int} {D:List (List D3)} (h:KG n (t,(cols,dd),left,())) (ht:(n:Int)<=t):FO n D (0,List.replicate n [],(cols,dd),()):=by
 obtain⟨h0,_,u,h3,h4,h5,h6⟩:=h;simp only at h0 u h3 h4 h5 h6;refine⟨by simp only;omega,by simp only;omega,by simp only;rw[rJ],fun i hi=>by simp only at hi;omega,u,fun i hi hm=>by have:=h4 i hm;omega,fun j j0 j1=> ?_⟩;simp only;rw[h3];refine⟨yP,fun x=>⟨fun hx=>(by cases hx),fun hx=> ?_⟩⟩;rcases hx with⟨x0,x1,_⟩ | ⟨_,e,he,_⟩
 . omega
 . cases he
def FO.row {D:List (List D3)} {rs:List (List D3)} (h:FO n D (t,rs,(cols,dd),())):PU n (fun i=>A8 (D.getD i [])) t (D.getD t.toNat []) (0,(cols,dd),()):=by
 obtain⟨h0,_,h2,h3,u,h5,h6⟩:=h;exact⟨qG _,qD _,u,h5,fun j j0 j1=>h6 j j0 j1⟩
def FO.next {D:List (List D3)} {rs:List (List D3)} {cols2:List S0} {dd2:List Nat} {u:Int} {w:List D3} (h:FO n D (t,rs,(cols,dd),())) (ht:t<(n:Int)) {m:Int} (hv:M0 (D.getD t.toNat []) m) (hw:TH (A8 (D.getD t.toNat [])) w) (hf:PU n (fun i=>A8 (D.getD i [])) t (D.getD t.toNat []) (u,(cols2,dd2),())) (hu:((D.getD t.toNat []).length:Int)<=u):FO n D (t+1,rs.set t.toNat w,(cols2,dd2),()):=by
 obtain⟨h0,_,h2,h3,h4,h5,h6⟩:=h;obtain⟨g0,_,g2,g3,g4⟩:=hf;simp only at h0 h2 h3 h4 h5 h6 g0 g2 g3 g4;refine⟨by simp only;omega,by simp only;omega,by simp only;rw[qJ];exact h2,fun i hi=> ?_,g2,g3,fun j j0 j1=> ?_⟩
 . simp only at hi⊢;by_cases hj:i=t.toNat
   . subst hj;rw[B4 (by omega)];exact hw
   . rw[D4 hj];exact h3 i (by omega)
 . simp only;have h7:=g4 j j0 j1;rw[D8 hu]at h7;exact A6s h7 h0 hv rfl
def B7k (n:Nat) (M:Fx) (p:Int×List Int×List Int×List Int×List Int×List (List D3)×NR×NB×Unit):Prop:=0<=p.1/\p.1<=(n:Int)/\(∀s,1<=s->Gx s M->EI n p.1.toNat (sK s) (el M) p.2.1 p.2.2.1 p.2.2.2.1 p.2.2.2.2.1 p.2.2.2.2.2.1 p.2.2.2.2.2.2.1.1 p.2.2.2.2.2.2.2.1.1)/\kG n p.2.2.2.2.2.2.1.2/\kG n p.2.2.2.2.2.2.2.1.2
def B7k.init {M:Fx} {left:List Int} {cols2:List S0} {a0:List Nat} {rs:List (List D3)} {u:Int} (hM:G3 M) (hl:A7o M) (hR:M.1=(n:Int)) (hC:M.2.1=(n:Int)) (h:KG n (t,(cols2,a0),left,())) (ht:(n:Int)<=t) (g:FO n M.2.2 (u,rs,(cols,dd),())) (hu:(n:Int)<=u):B7k n M (0,left,List.replicate n 0,List.replicate n 0,List.replicate n 0,rs,(List.replicate n [],Ql (Ty.sl (.pair (.int .i64) (.pair (.pair .bool (.sl (.int .u32))) (.sl (.int .u32))))) n),(cols,dd),()):=by
 obtain⟨h0,h1,h2,h3,h4,h5,h6⟩:=h;obtain⟨g0,g1,g2,g3,g4,g5,g6⟩:=g;simp only at h0 h1 h2 h3 h4 h5 h6 g0 g1 g2 g3 g4 g5 g6;have hu:u=(n:Int):=by omega
 subst hu;refine⟨qG _,qD _,fun s hs a1=> ?_,fun i hi hm=>(by cases hm),g5⟩;have a2:(M.2.2.length:Int)=(n:Int):=by rw[hM.2.2.2.2.1,hR]
 have hD:∀i,i<n->M0 (M.2.2.getD i []) (n:Int)/\eM s (M.2.2.getD i [])/\HG (M.2.2.getD i []):=fun i hi=>by
  have hm:=B9 (d:=([]:List D3)) (show i<M.2.2.length by omega);exact⟨hC▸hM.2.2.2.2.2 _ hm,A2y hM a1 hm,hl _ hm⟩
 exact EI.start (F:=fun i=>A8 (M.2.2.getD i [])) (fun i j _ _=>rfl) h5 (fun i hi=>h6 i (by omega)) rJ rJ rJ g2 rJ g4 (fun i hi=>g3 i (by omega)) (fun i j hi hj=>A3o (hD i hi).1 hj) (fun i j hi=>gO (hD i hi).1.1 (hD i hi).2.2 (hD i hi).2.1.2.1 hs j) (fun i hi=>by rw[qF,vD,qY hi];rfl) g6
def Re:An:= {loop:= [(5,⟨[1,5,14,15],[],[(16,false,vI)],[],[(0, .row .bool 4)]⟩)]}
def UB:An:= {plan:= [(3,[0,1,2],[5],true,(.q 0 (.q 1 (.q 2 (.e 3 (.e 4 (.e 5 .done)))))))]}
def Ud:An:= {}
def Gl:A2 M7.args->Prop:=fun(x:PB)=>let b:=(x.1.length:Int);let a:=(0:Int);(iB (decide (b≠x.2.1)) (false=decide (L9 x.1 x.2.1)) ((a<=x.2.1/\x.2.1<=x.2.1/\(↑(1:Nat):Int)*x.2.1<=281474976710656/\x.2.1<=9223372036854775807)/\∃(I:B8q->Prop),∃(μ: _->Nat),I (a,List.replicate x.2.1.toNat false,())/\∀(p:B8q),let h:=(decide (gx a x.1 p.1<a));let g:=(p.2.1.length:Int);let f:=(decide (x.2.1<=gx a x.1 p.1));let e:=(List.getD p.2.1 (gx a x.1 p.1).toNat false);let d:=(L7 h true f);let c:=(i64.wrap (p.1+1),List.set p.2.1 (gx a x.1 p.1).toNat true,());(Ty.int i64).wf p.1/\(List.length p.2.1<=9223372036854775807/\∀(x:Bool),x∈p.2.1->True)/\True->I p->(iB (decide (p.1<b)) ((a<=p.1/\p.1<b)/\(L7 h true f=false->a<=gx a x.1 p.1/\gx a x.1 p.1<g)/\(iB (L7 d true e) (false=decide (L9 x.1 x.2.1)) ((a<=gx a x.1 p.1/\gx a x.1 p.1<g)/\I c/\μ c<μ p))) (true=decide (L9 x.1 x.2.1)))))
def AV:A2 Fb.args->Prop:=fun(x:fP)=>let a:=(rv x.1-rv x.2.1*rv x.2.2.1);True/\Bq fun r=>r.1=(rv x.2.2.1).num.sign->(iB (decide (r.1=0)) ((rv x.2.2.1=(0:Rat)->x.1=x.1)/\(rv x.2.2.1≠(0:Rat)->x.1=rc a)) ((D1 x.2.1/\D1 x.2.2.1)/\G4 fun r=>r.1=rc (rv x.2.1*rv x.2.2.1)->(D1 x.1/\D1 r.1)/\G4 fun b=>b.1=rc (rv x.1-rv r.1)->(rv x.2.2.1=(0:Rat)->b.1=x.1)/\(rv x.2.2.1≠(0:Rat)->b.1=rc a)))
def Hw:A2 O0.args->Prop:=fun(x:A3m)=>let b:=(decide (x.1.1=x.2.1));let a:=(decide (x.1.2.1=x.2.1));(L7 b a false=true->True)/\∀(r:Ba),(L7 b a false=true->(True/\True)/\r.1=decide (G3 x.1))->L7 (L7 b a false) r.1 false=decide (sqr x.1 x.2.1)
def PI (l:List Int) (n t:Int) (s:List Bool):Prop:=0<=t/\t<=(l.length:Int)/\(s.length:Int)=n/\(∀i∈l.take t.toNat,0<=i/\i<n)/\(l.take t.toNat).Nodup/\∀k:Nat,(k:Int)<n->(s.getD k false=true↔(k:Int)∈l.take t.toNat)
def PI0 {l:List Int} {n:Int} (u:0<=n):PI l n 0 (List.replicate n.toNat false):=by
 refine⟨qG _,qD _,by rw[rJ];omega,fun i hi=>(by cases hi),yP,fun k _=> ?_⟩;rw[qF,vD];constructor
 . intro h;split at h<;>cases h
 . intro h;cases h
def TT {l:List Int} {t:Int} (u:0<=t) (h1:t<(l.length:Int)):l.take (t+1).toNat=l.take t.toNat++ [gx 0 l t]:=by
 rw[show(t+1).toNat=t.toNat+1 from by omega,rS,G9 (d:=(0:Int)) u h1];rfl
def A9z {l:List Int} {n t:Int} {s:List Bool} (h:PI l n t s) (ht:t<(l.length:Int)) (hb:gx 0 l t<0\/n<=gx 0 l t\/s.getD (gx 0 l t).toNat false=true):¬L9 l n:=by
 rintro⟨_,h1,h2⟩;obtain⟨t0,_,_,_,_,hs⟩:=h;have hm:=H1 (d:=(0:Int)) t0 ht;obtain⟨i0,i1⟩:=h1 _ hm;rcases hb with hb|hb|hb
 . omega
 . omega
 . have:=(hs (gx 0 l t).toNat (by omega)).1 hb;rw[show(((gx 0 l t).toNat:Nat):Int)=gx 0 l t from by omega]at this;have u:(l.take (t+1).toNat).Nodup:=h2.take;rw[TT t0 ht,sQ]at u;exact u.2.2 _ this _ (qP.2 rfl) rfl
def A3t {l:List Int} {n t:Int} {s:List Bool} (h:PI l n t s) (ht:t<(l.length:Int)) (h0:0<=gx 0 l t) (h1:gx 0 l t<n) (a2:s.getD (gx 0 l t).toNat false=false):PI l n (t+1) (s.set (gx 0 l t).toNat true):=by
 obtain⟨t0,t1,hl,hr,hn,hs⟩:=h;have a0:gx 0 l t∉l.take t.toNat:=fun hm=>by
  have:=(hs (gx 0 l t).toNat (by omega)).2 (by rw[show(((gx 0 l t).toNat:Nat):Int)=gx 0 l t from by omega];exact hm);rw[a2]at this;cases this
 refine⟨by omega,by omega,by rw[qJ];exact hl,fun i hi=> ?_, ?_,fun k hk=> ?_⟩
 . rw[TT t0 ht,qU,qP]at hi;rcases hi with hi|rfl
   . exact hr i hi
   . exact⟨h0,h1⟩
 . rw[TT t0 ht,sQ];refine⟨hn,by simp,fun a ha b hb a1=> ?_⟩;rw[qP]at hb;subst hb a1;exact a0 ha
 . rw[TT t0 ht,qU,qP, <-hs k hk];by_cases u:(gx 0 l t).toNat=k
   . rw[u,qF,tC (by omega)];exact⟨fun _=> .inr (by omega),fun _=>rfl⟩
   . rw[qF,tH u, <-qF];exact⟨.inl,fun h=>h.resolve_right (by omega)⟩
def Nr (x:A2 M7.args) (hw:awf M7.args x) (hp:M7.pre x):Gl x:=by
 obtain⟨l,n,_⟩:=x;change List Int at l;change Int at n;obtain⟨hn,a0⟩:0<=n/\n<=16384:=hp;simp only[Gl,iB];refine⟨fun h=> ?_,fun h=>⟨⟨hn,qG _,by omega,by omega⟩, ?_⟩⟩
 . have h:=qA h;exact(rI fun hh=>h hh.1).symm
 . have h:=uW.1 (qB h);refine⟨fun p=>PI l n p.1 p.2.1,fun p=>((l.length:Int)-p.1).toNat,PI0 hn, ?_⟩;rintro⟨t,s,_⟩ _ hI;change Int at t;change List Bool at s;simp only at hI⊢;obtain⟨t0,t1,hl,_⟩:=id hI;refine⟨fun u=> ?_,fun u=> ?_⟩
   . have u:=qA u;rw[J5,J5];refine⟨⟨t0,u⟩,fun hh=> ?_,fun hh=> ?_,fun hh=> ?_⟩
     . simp only[rL,rQ]at hh;omega
     . simp only[uO,rT]at hh;exact(rI (A9z hI u (by rcases hh with(hh|hh) |hh;exact .inl hh;exact .inr (.inl hh);exact .inr (.inr hh)))).symm
     . simp only[rL,rQ]at hh;rw[wv (by omega)];exact⟨by omega,A3t hI u (by omega) (by omega) hh.2,by omega⟩
   . have u:=qB u;obtain⟨_,_,_,h4,h5,_⟩:=hI;rw[D8 (by omega)]at h4 h5;exact(rD ⟨h,h4,h5⟩).symm
def Ob (x:A2 M9.args) (hw:awf M9.args x) (hp:M9.pre x):Gq x:=by
 obtain⟨l,_⟩:=x;change List Int at l;have a0:l.length<=100000:=hp;simp only[Gq,iB];refine⟨⟨qD _,qG _,by omega,by omega⟩,fun p=>PI l (l.length:Int) p.1 p.2.1,fun p=>((l.length:Int)-p.1).toNat,PI0 (qD _), ?_⟩;rintro⟨t,s,_⟩ _ hI;change Int at t;change List Bool at s;simp only at hI⊢;obtain⟨t0,t1,hl,_⟩:=id hI;refine⟨fun u=> ?_,fun u=> ?_⟩
 . have u:=qA u;rw[J5,J5];refine⟨⟨t0,u⟩,fun hh=> ?_,fun hh=> ?_,fun hh=> ?_⟩
   . simp only[rL,rQ]at hh;omega
   . simp only[uO,rT]at hh;exact(rI (A9z hI u (by rcases hh with(hh|hh) |hh;exact .inl hh;exact .inr (.inl hh);exact .inr (.inr hh)))).symm
   . simp only[rL,rQ]at hh;rw[wv (by omega)];exact⟨by omega,A3t hI u (by omega) (by omega) hh.2,by omega⟩
 . have u:=qB u;obtain⟨_,_,_,h4,h5,_⟩:=hI;rw[D8 (by omega)]at h4 h5;exact(rD ⟨rfl,h4,h5⟩).symm
def LM (x:A2 Fb.args) (hw:awf Fb.args x) (hp:Fb.pre x):AV x:=by
 obtain⟨a,f,b,_⟩:=x;obtain⟨ha,hf,hb⟩:sz K1 a/\sz K1 f/\sz K1 b:=hp;have a1:=M6 hw.2.1;have a0:=M6 hw.2.2.1;simp only[AV,iB,Bq,G4];refine⟨trivial, ?_⟩;rintro⟨r,_⟩ _ hr;change Int at r;simp only at hr⊢;refine⟨fun h=> ?_,fun h=>⟨⟨H7 hf (by decide),H7 hb (by decide)⟩, ?_⟩⟩
 . have h:=qA h;rw[hr,B4n]at h;exact⟨fun _=>by trivial,fun u=>absurd h u⟩
 . have hz:rv b≠0:=fun hz=>qB h (by rw[hr,B4n];exact hz)
   rintro⟨p,_⟩ _ h1;simp only at h1⊢;subst h1;refine⟨⟨H7 ha (by decide),N0 (Jg (Bg a1 hf (by decide)) (Bg a0 hb (by decide))) (by decide)⟩, ?_⟩;rintro⟨q,_⟩ _ u;simp only at u⊢;refine⟨fun h3=>absurd h3 hz,fun _=> ?_⟩;rw[u,F9]
def mvE (p:List Int) (e:D3):D3:=(p.getD e.1.toNat 0,e.2)
def A5k {p:List Int} (h:L9 p (p.length:Int)) {a i:Int} (a0:0<=a) (a1:a<(p.length:Int)) (i0:0<=i) (i1:i<(p.length:Int)):p.getD a.toNat 0=i↔a=((List.idxOf i p:Nat):Int):=by
 have a4:a.toNat<p.length:=by omega
 constructor
 . intro he;have hm:i∈p:=he▸B9 a4;have u:=yJ hm;have h2:p[List.idxOf i p]=i:=g1g u;rw[I0 _ _ a4, <-h2]at he;have:=(wN h.2.2).1 he;omega
 . intro he;have hm:i∈p:=by
    obtain⟨b,hb,a3⟩:=Hb (n:=p.length) (q:=fun b=>(p.getD b 0).toNat) (fun b hb=>by have:=h.2.1 _ (B9 (d:=0) hb);omega) (fun b c hb hc a2=>by
     have g1:=h.2.1 _ (B9 (d:=0) hb);have g2:=h.2.1 _ (B9 (d:=0) hc);have a2:(p.getD b 0).toNat=(p.getD c 0).toNat:=a2;have e:p.getD b 0=p.getD c 0:=by omega
     rw[I0 _ _ hb,I0 _ _ hc]at e;exact(wN h.2.2).1 e) (show i.toNat<p.length by omega)
    have g1:=h.2.1 _ (B9 (d:=0) hb);have a3:(p.getD b 0).toNat=i.toNat:=a3;rw[show i=p.getD b 0 from by omega];exact B9 hb
   have u:=yJ hm;have h2:p[List.idxOf i p]=i:=g1g u;rw[he,qK,I0 _ _ u,h2]
def A4e {p:List Int} (h:L9 p (p.length:Int)):∀ {c:List D3},(∀e∈c,0<=e.1/\e.1<(p.length:Int))->∀i,A8 (c.map (mvE p)) i=if 0<=i/\i<(p.length:Int)then A8 c ((List.idxOf i p:Nat):Int)else 0
 | [],_,i=>by split<;>rfl
 |e::c,hc,i=>by
  obtain⟨e0,e1⟩:=hc e (rF ..);have ih:=A4e h (fun x hx=>hc x (qL _ hx)) i;rw[rU,A8,A8,ih];have hr:=h.2.1 _ (B9 (d:=0) (show e.1.toNat<p.length by omega));by_cases hi:0<=i/\i<(p.length:Int)
  . rw[qY hi,qY hi];congr 1;show(if p.getD e.1.toNat 0=i then rv e.2 else 0)= _;by_cases u:p.getD e.1.toNat 0=i
    . rw[qY u,qY ((A5k h e0 e1 hi.1 hi.2).1 u)]
    . rw[qO u,qO fun h3=>u ((A5k h e0 e1 hi.1 hi.2).2 h3)]
  . rw[qO hi,qO hi,rO];exact qO fun u=>hi (by rw[<-u];exact hr)
def CB (x:A2 T6.args) (hw:awf T6.args x) (hp:T6.pre x):Px x:=by
 obtain⟨v,p,_⟩:=x;change List D3 at v;change List Int at p;have a9:eM K1 v/\p.length<=100000:=hp;obtain⟨a9,ai⟩:=a9;simp only[Px,iB,Tv,rT6];refine⟨ai, ?_⟩;rintro⟨r,_⟩ _ hr;change Bool at r;simp only at hr⊢;refine⟨fun h a6=> ?_,fun h=>⟨.inl a9, ?_⟩⟩
 . rw[hr,rD a6]at h;cases h
 have a6:L9 p (p.length:Int):=by
  refine rB fun hn=> ?_
  rw[hr,rI hn]at h;cases h
 rintro⟨c,_⟩ ⟨⟨a7,_⟩,_⟩ hc;change List D3 at c;simp only at hc a7⊢;have a7:c.length<=9223372036854775807:=a7;refine⟨fun q=>0<=q.1/\q.1<=(c.length:Int)/\q.2.1=(c.take q.1.toNat).map (mvE p)++c.drop q.1.toNat/\∀e∈c.take q.1.toNat,0<=e.1/\e.1<(p.length:Int),fun q=>((c.length:Int)-q.1).toNat,⟨qG _,qD _,rfl,fun e u=>(by cases u)⟩, ?_⟩;rintro⟨i,d,_⟩ _ ⟨i0,i1,hd,a2⟩;change Int at i;change List D3 at d;simp only at i0 i1 hd a2⊢;refine⟨fun hi=> ?_,fun hi=> ?_⟩
 . have hi:=qA hi;have a4:i.toNat<c.length:=by omega
   have ah:d.length=c.length:=by rw[hd,rM,sD,qW,sR];omega
   have ad:((c.take i.toNat).map (mvE p)).length=i.toNat:=by rw[sD,qW];omega
   have ac:c.drop i.toNat=c.getD i.toNat F5::c.drop (i.toNat+1):=by rw[I0 _ _ a4];exact xJ a4
   have ag:d.getD i.toNat F5=c.getD i.toNat F5:=by
    rw[hd,ac,qF,uU (by omega),ad,xZ];rfl
   have aa:c.getD i.toNat F5∈c:=B9 a4;have ab:0<=i/\i<(d.length:Int):=⟨i0,by rw[ah];exact hi⟩;rw[ag];refine⟨ab,fun hh _ a3=> ?_,fun hh=> ?_⟩
   . exfalso;rw[J5]at hh;simp only[uO,rT]at hh;have:=a3 (c.getD i.toNat F5).1 (by rw[<-hc.2,T9 hc.1.1 aa];exact(hc.1.2 _ aa).1);omega
   . rw[J5]at hh;simp only[rL,rQ]at hh;have a3:0<=(c.getD i.toNat F5).1/\(c.getD i.toNat F5).1<(p.length:Int):=⟨by omega,by omega⟩;rw[wv (by omega),E5 a3.1 a3.2];have ht:c.take (i+1).toNat=c.take i.toNat++ [c.getD i.toNat F5]:=by
      rw[show(i+1).toNat=i.toNat+1 from by omega];rw[rS,qM a4,I0 _ _ a4];rfl
     refine⟨a3,ab,⟨by omega,by omega, ?_,fun e u=> ?_⟩,by omega⟩
     . rw[ht,hd,ac,uE,uD,g2y _ _ (by omega),ad,xZ,show(i+1).toNat=i.toNat+1 from by omega];rfl
     . rw[ht]at u;rcases qU.1 u with u|u
       . exact a2 e u
       . rw[qP]at u;subst u;exact a3
 . have hi:=qB hi;rw[D8 (by omega)]at hd a2;rw[sH (by omega),vQ]at hd;subst hd;have af:M0 c (p.length:Int):=⟨hc.1.1,fun e u=>⟨(a2 e u).1,(a2 e u).2,(hc.1.2 e u).1⟩⟩;refine⟨?_,fun l' _ a5 aj _ _=>⟨⟨⟨?_,fun e u=> ?_⟩,fun j=> ?_⟩,by trivial⟩⟩
   . have:=Jo af;have hz:∀z:Nat,z=c.length->z<=100000:=fun z hz=>by omega
     exact hz _ (sD ..)
   . have a8:(l'.map fun e:D3=>e.1).Nodup:=by
      rw[(a5.map fun e:D3=>e.1).nodup_iff,List.map_map];have h1:(c.map fun e:D3=>e.1).Nodup:=by
       unfold List.Nodup;rw[wU];exact hc.1.1.imp fun hh=>by omega
      unfold List.Nodup at h1⊢;rw[wU]at h1⊢;refine List.Pairwise.imp_of_mem (fun {a b} ha hb ae u=>ae ?_) h1;obtain⟨a0,a1⟩:=a2 a ha;obtain⟨b0,b1⟩:=a2 b hb;have u:p.getD a.1.toNat 0=p.getD b.1.toNat 0:=u;rw[I0 _ _ (by omega),I0 _ _ (by omega)]at u;have:=(wN a6.2.2).1 u;omega
     unfold List.Nodup at a8;rw[wU]at a8;refine g3y ?_ aj a8;intro a b h1 h2;have:a.1<=b.1:=by
      unfold K8 at h1;split at h1
      . omega
      . split at h1<;>omega
     omega
   . obtain⟨y,hy,rfl⟩:=rZ.1 (a5.mem_iff.1 u);exact hc.1.2 y hy
   . rw[VD a5,A4e a6 a2];simp only[hc.2]
def Yj:An:= {loop:= [(8,⟨[2,6,36],[0,2],[(37,false,vI)],[],[]⟩)],plan:= [(10,[2,5,8,11],[],true,(.p 0 (.p 1 (.q 2 (.p 3 (.p 4 (.q 5 (.p 6 (.p 7 (.q 8 (.p 9 (.p 10 (.q 11 (.p 12 (.p 13 .done))))))))))))))),(11,[10,21,22],[],true,(pZ9 0 10 (.q 10 (pZ9 11 10 (.q 21 (.q 22 (.e 23 (.p 24 (.p 25 .done)))))))))]}
abbrev C4c:=(List Int×List Int×MM×Int×Int×List (List EE))×Int×Unit
def Ki:A2 R6.args->Prop:=fun(x:C4c)=>let h:=(1:Int);let e:Prop:=(false=true↔Da x.1 x.2.1);let d:=(0:Int);(d<=x.2.1/\x.2.1<=16384)/\Tv fun r=>r.1=decide (L9 x.1.1 x.2.1)->((!r.1)=false->d<=x.2.1/\x.2.1<=16384)/\∀(t:Ba),let n:=(L7 (!r.1) true !t.1);((!r.1)=false->(True/\True)/\t.1=decide (L9 x.1.2.1 x.2.1))->(iB n (e) (True/\Tv fun q=>q.1=decide (sqr x.1.2.2.1 x.2.1)->((!q.1)=false->True)/\∀(u:Ba),let m:=(L7 (!q.1) true !u.1);((!q.1)=false->(True/\True)/\u.1=decide (sqr x.1.2.2.2 x.2.1))->(iB m (e) (True/\G4 fun r=>r.1=ri h->∃(I:C8->Prop),∃(μ: _->Nat),I (d,())/\∀(p:C8),let l:=(i64.wrap (p.1+h),());let j:=(gx [] x.1.2.2.1.2.2 p.1);let c:=(gx [] x.1.2.2.2.2.2 p.1);let k:=(decide ((gx F5 c d).1≠p.1));let i:=(↑c.length:Int);let a:=(↑j.length:Int);let g:=(decide (a=d));let b:=(gx F5 j (i64.wrap (a-h)));let f:=(decide (b.1≠p.1));(Ty.int i64).wf p.1/\True->I p->(iB (decide (p.1<x.2.1)) ((d<=p.1/\p.1<(x.1.2.2.1.2.2.length:Int))/\(d<=p.1/\p.1<(x.1.2.2.2.2.2.length:Int))/\(decide (a=d)=false->d<=i64.wrap (a-h)/\i64.wrap (a-h)<a)/\(L7 g true f=false->d<=i64.wrap (a-h)/\i64.wrap (a-h)<a)/\(L7 g true f=false->D1 b.2/\D1 r.1)/\∀(s:C8),let o:=(decide (s.1≠d));(L7 g true f=false->(H8 s.1/\True)/\s.1=Yu (rv b.2) (rv r.1))->(iB (L7 (L7 g true f) true o) (e) ((decide (i=d)=false->d<=d/\d<i)/\(iB (L7 (decide (i=d)) true k) (e) (I l/\μ l<μ p))))) ((true=true↔Da x.1 x.2.1)))))))
def Ok (x:A2 O0.args) (hw:awf O0.args x) (_:O0.pre x):Hw x:=by
 obtain⟨m,n,_⟩:=x;change Fx at m;change Int at n;simp only[Hw,I3];refine⟨fun _=>trivial, ?_⟩;rintro⟨r,_⟩ hr;change Bool at r;simp only at hr⊢;by_cases h1:m.1=n
 . by_cases u:m.2.1=n
   . rw[(hr (by rw[rD h1,rD u];rfl)).2,rD h1,rD u,g0l,g0l];exact uZ.2 ⟨fun h=>⟨h1,u,h⟩,fun h=>h.2.2⟩
   . rw[rI u,Bool.and_false,g1b];exact(rI fun h=>u h.2.1).symm
 . rw[rI h1,g1b,g1b];exact(rI fun h=>h1 h.1).symm
def nS {v:List D3} (h:Ie v) (hl:v≠ []):gx F5 v ((v.length:Int)-1)∈v/\∀x∈v,x.1<=(gx F5 v ((v.length:Int)-1)).1:=by
 have a1:0<v.length:=vA.2 hl;have u:=G9 (d:=F5) (l:=v) (i:=(v.length:Int)-1) (by omega) (by omega);refine⟨H1 (by omega) (by omega),fun x hx=> ?_⟩;obtain⟨k,hk,rfl⟩:=uB.1 hx;rw[show((v.length:Int)-1).toNat=v.length-1 from by omega]at u;have he:v[v.length-1]'(by omega)=gx F5 v ((v.length:Int)-1):=by
  rw[qM (by omega)]at u;exact wI u
 rw[<-he];by_cases a0:k=v.length-1
 . subst a0;exact qG _
 . exact xM (uN.1 h k (v.length-1) hk (by omega) (by omega))
def A5a {v:List D3} {n:Int} (h:M0 v n) {i:Nat} (hi:(i:Int)<n):(v≠ []/\(gx F5 v ((v.length:Int)-1)).1=(i:Int)/\rv (gx F5 v ((v.length:Int)-1)).2=1)↔(∀j:Nat,(j:Int)<n->i<j->A8 v (j:Int)=0)/\A8 v (i:Int)=1:=by
 constructor
 . rintro⟨h0,h1,u⟩;obtain⟨m1,m2⟩:=nS h.1 h0;refine⟨fun j _ a1=>E9 fun e he a0=> ?_, ?_⟩
   . have:=m2 e he;omega
   . rw[<-h1,T9 h.1 m1,u]
 . rintro⟨h1,u⟩;have h0:v≠ []:=fun e=>by subst e;rw[Rj]at u;exact absurd u (by decide)
   obtain⟨m1,m2⟩:=nS h.1 h0;obtain⟨x,hx,a3⟩:=CR (show A8 v (i:Int)≠0 from by rw[u];decide);have h3:=m2 x hx;obtain⟨g1,g2,g3⟩:=h.2 _ m1;have he:(gx F5 v ((v.length:Int)-1)).1=(i:Int):=by
    refine rB fun a2=>g3 ?_
    have:=h1 (gx F5 v ((v.length:Int)-1)).1.toNat (by omega) (by omega);rw[show(((gx F5 v ((v.length:Int)-1)).1.toNat:Nat):Int)=(gx F5 v ((v.length:Int)-1)).1 from by omega,T9 h.1 m1]at this;exact this
   refine⟨h0,he, ?_⟩;rw[<-T9 h.1 m1,he,u]
def B5h {v:List D3} {n:Int} (h:M0 v n) {i:Nat} :(v≠ []/\(gx F5 v 0).1=(i:Int))↔(∀j:Nat,j<i->A8 v (j:Int)=0)/\A8 v (i:Int)≠0:=by
 cases v with
 |nil=>exact⟨fun hh=>absurd rfl hh.1,fun hh=>absurd (Rj _) hh.2⟩
 |cons e r=>
  have hg:gx F5 (e::r) 0=e:=rfl;rw[hg];have u:=(h.2 e rF);constructor
  . rintro⟨_,h1⟩;exact⟨fun j hj=>CQ h.1 (by omega),by rw[<-h1,N6 h.1];exact u.2.2⟩
  . rintro⟨h1,h2⟩;refine⟨by simp,rB fun hc=> ?_⟩;rcases Int.lt_or_gt_of_ne hc with hl|hl
    . refine u.2.2 ?_;rw[<-N6 h.1];have:=h1 e.1.toNat (by omega);rwa[show((e.1.toNat:Nat):Int)=e.1 from by omega]at this
    . exact h2 (CQ h.1 hl)
def oV (L U:Fx) (n:Int) (i:Nat):Prop:=(∀j:Nat,(j:Int)<n->i<j->el L i j=0)/\el L i i=1/\(∀j:Nat,j<i->el U i j=0)/\el U i i≠0
def A7v {P Q:List Int} {L U:Fx} {n:Int} (h1:L9 P n) (h2:L9 Q n) (h3:sqr L n) (h4:sqr U n):Da (P,Q,L,U) n↔∀i:Nat,(i:Int)<n->oV L U n i:=by
 constructor
 . rintro⟨_,_,_,_,h⟩ i hi;exact⟨fun j hj u=>(h i j hi hj).1 u,(h i i hi hi).2.1,fun j hj=>(h i j hi (by omega)).2.2.1 hj,(h i i hi hi).2.2.2⟩
 . intro h;exact⟨h1,h2,h3,h4,fun i j hi hj=>⟨fun u=>(h i hi).1 j hj u,(h i hi).2.1,fun hj=>(h i hi).2.2.1 j hj,(h i hi).2.2.2⟩⟩
def A4c {p q:Rat} :Yu p q=0↔p=q:=by
 unfold Yu;by_cases h1:p<q
 . rw[qY h1];exact⟨fun h=>by omega,fun h=>by subst h;exact absurd h1 (g0n)⟩
 . rw[qO h1];by_cases u:q<p
   . rw[qY u];exact⟨fun h=>by omega,fun h=>by subst h;exact absurd u (g0n)⟩
   . rw[qO u];exact⟨fun _=>Rat.le_antisymm (Rat.not_lt.1 u) (Rat.not_lt.1 h1),fun _=>rfl⟩
def OG {p:Prop} (h:¬p):(false=true↔p):=⟨fun hh=>(by cases hh),fun hp=>absurd hp h⟩
def Tj (x:A2 R6.args) (hw:awf R6.args x) (hp:R6.pre x):Ki x:=by
 obtain⟨⟨P,Q,L,U⟩,n,_⟩:=x;change Fx at L;change Fx at U;change Int at n;obtain⟨hn,a6,hL,hU⟩:0<=n/\n<=16384/\Gx K1 L/\Gx K1 U:=hp;simp only[Ki,iB,G4,Tv,J5];refine⟨⟨hn,a6⟩, ?_⟩;rintro⟨r1,_⟩ _ h1;change Bool at r1;simp only at h1⊢;refine⟨fun _=>⟨hn,a6⟩, ?_⟩;rintro⟨r2,_⟩ h2;change Bool at r2;simp only at h2⊢;by_cases p1:L9 P n
 case neg=>
  rw[h1,rI p1];exact⟨fun _=>OG fun h=>p1 h.1,fun h=>by simp at h⟩
 have h2:=(h2 (by rw[h1,rD p1];rfl)).2;by_cases p2:L9 Q n
 case neg=>
  rw[h2,rI p2];exact⟨fun _=>OG fun h=>p2 h.2.1,fun h=>by simp at h⟩
 rw[h1,h2,rD p1,rD p2];refine⟨fun h=>by simp at h,fun _=>⟨trivial, ?_⟩⟩;rintro⟨r3,_⟩ _ h3;change Bool at r3;simp only at h3⊢;refine⟨fun _=>trivial, ?_⟩;rintro⟨r4,_⟩ h4;change Bool at r4;simp only at h4⊢;by_cases p3:sqr L n
 case neg=>
  rw[h3,rI p3];exact⟨fun _=>OG fun h=>p3 h.2.2.1,fun h=>by simp at h⟩
 have h4:=(h4 (by rw[h3,rD p3];rfl)).2;by_cases p4:sqr U n
 case neg=>
  rw[h4,rI p4];exact⟨fun _=>OG fun h=>p4 h.2.2.2.1,fun h=>by simp at h⟩
 rw[h3,h4,rD p3,rD p4];refine⟨fun h=>by simp at h,fun _=>⟨trivial, ?_⟩⟩;rintro⟨one,_⟩ _ a2;change B7 at one;simp only at a2⊢;have a5:=A7v p1 p2 p3 p4;obtain⟨l1,l2,l3⟩:=p3;obtain⟨u1,u2,u3⟩:=p4;have ae:(L.2.2.length:Int)=n:=l3.2.2.2.2.1.trans l1;have af:(U.2.2.length:Int)=n:=u3.2.2.2.2.1.trans u1;have a7:rv one=1:=by rw[a2];exact fD 1
 have ab:D1 one:=by rw[a2, <-jL];exact N0 (OO (by decide)) (by decide)
 refine⟨fun p=>0<=p.1/\p.1<=n/\∀i:Nat,(i:Int)<p.1->oV L U n i,fun p=>(n-p.1).toNat,⟨qG _,hn,fun i hi=>by omega⟩, ?_⟩;rintro⟨t,_⟩ _ hI;change Int at t;simp only at hI⊢;obtain⟨t0,t1,hI⟩:=hI;refine⟨fun ht=> ?_,fun ht=> ?_⟩
 . have ht:=qA ht;have a9:M0 (gx [] L.2.2 t) n:=by have:=l3.2.2.2.2.2 _ (H1 (d:= []) t0 (show t<(L.2.2.length:Int)by omega));rwa[l2]at this
   have ac:M0 (gx [] U.2.2 t) n:=by have:=u3.2.2.2.2.2 _ (H1 (d:= []) t0 (show t<(U.2.2.length:Int)by omega));rwa[u2]at this
   have a8:=hL _ (H1 (d:= []) t0 (show t<(L.2.2.length:Int)by omega));have a1:((t.toNat:Nat):Int)=t:=by omega
   have lr:=A5a a9 (i:=t.toNat) (by omega);have ur:=B5h ac (i:=t.toNat);rw[a1]at lr ur;have a0:oV L U n t.toNat↔((∀j:Nat,(j:Int)<n->t.toNat<j->A8 (gx [] L.2.2 t) (j:Int)=0)/\A8 (gx [] L.2.2 t) t=1)/\(∀j:Nat,j<t.toNat->A8 (gx [] U.2.2 t) (j:Int)=0)/\A8 (gx [] U.2.2 t) t≠0:=by
    unfold oV el;rw[a1];exact(and_assoc (a:=∀j:Nat,(j:Int)<n->t.toNat<j->A8 (L.2.2.getD t.toNat []) (j:Int)=0)).symm
   rw[<-lr, <-ur]at a0;have a4:¬oV L U n t.toNat->¬Da (P,Q,L,U) n:=fun h hh=>h (a5.1 hh t.toNat (by omega))
   have u:∀ {v:List D3},((v.length:Int)=0)↔v= []:=fun {v} =>⟨fun h=>qQ (by omega),fun h=>by rw[h];rfl⟩
   have hb:=Jo a9;have a3:(gx [] L.2.2 t)≠ []->i64.wrap (((gx [] L.2.2 t).length:Int)-1)=((gx [] L.2.2 t).length:Int)-1:=fun h=>by
    have:=vA.2 h;exact wv (by omega)
   refine⟨⟨t0,by omega⟩,⟨t0,by omega⟩,fun h=> ?_,fun h=> ?_,fun h=> ?_, ?_⟩
   . have h:=mt u.2 (qB h);have:=vA.2 h;rw[a3 h];omega
   . simp only[rL]at h;have h:=mt u.2 (qB h.1);have:=vA.2 h;rw[a3 h];omega
   . simp only[rL]at h;have h:=mt u.2 (qB h.1);have ad:=vA.2 h;rw[a3 h];exact⟨H7 (a8 _ (H1 (by omega) (by omega))) (by decide),ab⟩
   rintro⟨c,_⟩ hc;change Int at c;simp only at hc⊢;refine⟨fun h=>OG (a4 fun hr=> ?_),fun h=>⟨fun hu=>⟨qG _, ?_⟩,fun hu=>OG (a4 fun hr=> ?_),fun hu=> ?_⟩⟩
   . obtain⟨⟨g1,g2,g3⟩,_⟩:=a0.1 hr;rw[a3 g1]at hc h;have e1:decide (((gx [] L.2.2 t).length:Int)=0)=false:=rI (mt u.1 g1);have e2:decide ((gx F5 (gx [] L.2.2 t) (((gx [] L.2.2 t).length:Int)-1)).1≠t)=false:=rI (by rw[uW];exact g2);rw[e1,e2]at hc h;have hc:=(hc rfl).2;rw[a7,g3]at hc;rw[hc,A4c.2 rfl]at h;simp at h
   . have:=mt u.2 (qB hu);have:=vA.2 this;omega
   . obtain⟨_,g1,g2⟩:=a0.1 hr;rw[rI (mt u.1 g1),rI (by rw[uW];exact g2)]at hu;simp at hu
   . simp only[rL]at h hu;have e1:=mt u.2 (qB h.1.1);rw[a3 e1]at hc h;have e2:=uW.1 (qB h.1.2);have e3:=uW.1 (qB h.2);have hc:=(hc (by rw[h.1.1,h.1.2];rfl)).2;rw[e3,a7]at hc;have f1:=mt u.2 (qB hu.1);have f2:=uW.1 (qB hu.2);have hr:=a0.2 ⟨⟨e1,e2,A4c.1 hc.symm⟩,f1,f2⟩;rw[wv (by omega)];refine⟨⟨by omega,by omega,fun i hi=> ?_⟩,by omega⟩;by_cases aa:i=t.toNat
     . subst aa;exact hr
     . exact hI i (by omega)
 . have ht:=qB ht;exact⟨fun _=>a5.2 fun i hi=>hI i (by omega),fun _=>trivial⟩
noncomputable def EQ:I5:= [(112,Ck)]
def DU:An:= {loop:= [(3,⟨[1,3,24],[0,1,2,3,4,5,6,7,8,9,10,13],[(25,false,vI)],[],[(11, .nest (.mp false (.int .i64) false .bool) 167 4),(12, .row (.int .i64) 3)]⟩),(13,⟨[3,5,44,45,46,59,60],[0,1,2,3,4,5,6,7,9,10,12,13],[(61,false,vI)],[],[(11, .nest (.mp false (.int .i64) false .bool) 167 4)]⟩),(9,⟨[3,44,45],[0,1,2,3,4,5,6,7,10,12,13],[(46,false,vI)],[],[(9, .row (.sl tE) 36),(11, .nest (.mp false (.int .i64) false .bool) 167 4)]⟩)],plan:= [(1,[1,4,7,10],[],true,(.p 0 (.q 1 (.p 3 (.q 4 (.p 6 (.q 7 (.p 9 (.q 10 (.al [2,5,8,11] [12] (.e 13 (.p 14 .done)))))))))))),(11,[3],[8],true,(pZ9 0 3 (.q 3 (.p 4 (.p 5 (.e 6 (.p 7 (.e 8 .done)))))))),(15,[3,5],[9],false,(pZ9 0 3 (.q 3 (.p 4 (.q 5 (.p 6 (.p 8 (.e 7 (.e 9 .done)))))))))]}
noncomputable def Vl:I5:= []
def Tx:An:= {plan:= [(1,[0,3,4,7,10],[],false,(.q 0 (.p 1 (.p 2 (.q 3 (.q 4 (.p 5 (.p 6 (.q 7 (.p 8 (.p 9 (.q 10 (.p 11 (.e 12 (.e 13 (.p 14 .done))))))))))))))))]}
noncomputable def Vm:I5:= []
def Tz:An:= {plan:= [(1,[0,3,4,7,10],[],false,(.q 0 (.p 1 (.p 2 (.q 3 (.q 4 (.p 5 (.p 6 (.q 7 (.p 8 (.p 9 (.q 10 (.p 11 (.e 12 (.e 13 (.p 14 .done))))))))))))))))]}
noncomputable def Vn:I5:= []
def Ua:An:= {plan:= [(1,[0,3,4,7,10],[],false,(.q 0 (.p 1 (.p 2 (.q 3 (.q 4 (.p 5 (.p 6 (.q 7 (.p 8 (.p 9 (.q 10 (.p 11 (.e 12 (.e 13 (.p 14 .done))))))))))))))))]}
noncomputable def Vo:I5:= []
def Ub:An:= {plan:= [(1,[0,3,4,7,10],[],false,(.q 0 (.p 1 (.p 2 (.q 3 (.q 4 (.p 5 (.p 6 (.q 7 (.p 8 (.p 9 (.q 10 (.p 11 (.e 12 (.e 13 (.p 14 .done))))))))))))))))]}
noncomputable def ER:I5:= [(146,Hc (QD ⟨prog,SW⟩ [(20,Vl,Tx),(23,Vm,Tz),(28,Vn,Ua),(33,Vo,Ub)] f146.results.toList (f146.body.getD .skip) f146.ntmps))]
def DW:An:= {join:= [(8,⟨[1,6,14,15],[1,2,3,4,5,6,7,9,10,13,14,15],[(5,false,vI)],[],[(11, .nest (.mp false (.int .i64) false .bool) 167 4)]⟩),(10,⟨[1,6],[1,2,3,4,5,6,7,9,10,13,14,15],[(5,false,vI)],[],[(11, .nest (.mp false (.int .i64) false .bool) 167 4)]⟩),(14,⟨[1,3],[1,2,3,4,5,6,7,15],[],[(13,148,[.fix 9, .fix 10, .fix 11, .own (.int .i64) 3])],[(9, .row (.sl tE) 36),(10, .nest (.sl tE) 36 48),(11, .nest (.mp false (.int .i64) false .bool) 167 4)]⟩),(20,⟨[3],[1,2,3,4,5,6,7,9,10,13,17],[(2,false,vI)],[],[(11, .nest (.mp false (.int .i64) false .bool) 167 4)]⟩)],loop:= [(4,⟨[1,6,14],[1,2,3,4,5,6,7,9,10,13,14,15],[(5,false,vI),(15,false,vI)],[],[(11, .nest (.mp false (.int .i64) false .bool) 167 4)]⟩),(16,⟨[1,3,66],[1,2,3,4,5,6,7,9,10,11,13,15,17],[(2,false,vI)],[],[(19, .itM false (.int .i64) false .bool 18)]⟩)],plan:= [(13,[1,4,7,10],[14,17],false,(.q 1 (.p 2 (.p 3 (.q 4 (.p 5 (.p 6 (.q 7 (.p 8 (.p 9 (.q 10 (pZ9 11 3 (.or 0 (.e 14 (.p 15 (.p 16 (.e 17 .done)))) (.e 14 (.e 0 (.p 15 (.p 16 (.e 17 .done)))))))))))))))))),(18,[3,6,9,11,14,17,22,25,28,30,33,36],[],true,(pZ9 0 3 (.q 3 (.p 4 (.p 5 (.q 6 (.p 7 (.p 8 (.q 9 (.p 10 (.q 11 (.p 12 (.p 13 (.q 14 (.p 15 (.p 16 (.q 17 (pZ9 18 4 (.q 22 (.p 23 (.p 24 (.q 25 (.p 26 (.p 27 (.q 28 (.p 29 (.q 30 (.p 31 (.p 32 (.q 33 (.p 34 (.p 35 (.q 36 (pZ9 37 8 .done))))))))))))))))))))))))))))))))))]}
noncomputable def Vp:I5:= []
def Uc:An:= {loop:= [(1,⟨[0,2,6,7],[1,2,3,4,5,6,7,9,10,13,15,16,17],[(8,false,vI)],[],[(11, .nest (.mp false (.int .i64) false .bool) 167 4)]⟩)],plan:= [(3,[0,3,5],[9],false,(.q 0 (.p 1 (.p 2 (.q 3 (.p 4 (.q 5 (.p 6 (.p 8 (.e 7 (.e 9 .done)))))))))))]}
noncomputable def Tc:I5:= []
def Rd:An:= {loop:= [(1,⟨[0,2,6,7],[1,2,3,4,5,6,7,9,10,13,15,16,17,18,19],[(8,false,vI)],[],[(11, .nest (.mp false (.int .i64) false .bool) 167 4)]⟩)],plan:= [(3,[0,3,5],[9],false,(.q 0 (.p 1 (.p 2 (.q 3 (.p 4 (.q 5 (.p 6 (.p 8 (.e 7 (.e 9 .done)))))))))))]}
noncomputable def ES:I5:= [(33,Ar),(111,Au),(148,Aq),(149,Ep),(150,O4),(147,Hc (QD ⟨prog,SW⟩ [(29,Vp,Uc),(107,Tc,Rd)] f147.results.toList (f147.body.getD .skip) f147.ntmps))]
def DX:An:= {join:= [(10,⟨[1,3,4,8,9,10],[1,2,3,4,5,6,7,9,10,13,15,16,17,18],[(12,false,[.own (.int .i64) 3])],[],[(11, .nest (.mp false (.int .i64) false .bool) 167 4)]⟩),(14,⟨[1,3,4,8,9,10,15,53,54,55],[1,2,3,4,5,6,7,9,10,11,13,15,16,17,18,19],[(16,false,[.fixB 20])],[(20,45,[.val .bool, .val (.sl (.int .u32)), .val (.sl (.int .u32))])],[]⟩),(15,⟨[1,3,4,8,9,10,15,16,53,54,55],[1,2,3,4,5,6,7,9,11,13,15,16,17,18,19,20],[],[],[(10, .nest (.sl tE) 36 48)]⟩)],loop:= [(7,⟨[1,3,4,8,9,10,44],[1,2,3,4,5,6,7,9,10,11,13,15,16,17,18],[(12,false,[.own (.int .i64) 3])],[],[(20, .itM false (.int .i64) false .bool 19)]⟩),(18,⟨[1,3,4,8,9,10,15,53,54,55,114,115],[1,2,3,4,5,6,7,9,10,13,15,16,17,18,19],[(116,false,vI)],[],[(11, .nest (.mp false (.int .i64) false .bool) 167 4)]⟩),(11,⟨[1,3,4,8,9,10,53,54],[1,2,3,4,5,6,7,13,15,16,17,18,19],[(55,false,vI)],[],[(9, .row (.sl tE) 36),(10, .nest (.sl tE) 36 48),(11, .nest (.mp false (.int .i64) false .bool) 167 4)]⟩)],plan:= [(13,[0,3,6,9],[12],true,(.q 0 (.p 1 (.p 2 (.q 3 (.p 4 (.p 5 (.q 6 (.p 7 (.q 9 (.or 8 (.or 10 (.e 11 (.e 12 .done)) (.e 11 (.e 10 (.e 12 .done)))) (.e 11 (.e 8 (.e 10 (.e 12 .done))))))))))))))),(14,[5,8,13],[16,18],false,(.p 4 (.q 5 (.p 6 (.p 7 (.q 8 (.p 9 (.p 10 (.p 12 (.q 13 (.p 14 (.or 0 (.p 1 (.p 2 (.or 3 (.or 11 (.e 15 (.e 16 (.p 17 (.e 18 .done)))) (.e 15 (.e 11 (.e 16 (.p 17 (.e 18 .done)))))) (.or 11 (.or 3 (.e 15 (.e 16 (.p 17 (.e 18 .done)))) (.e 15 (.or 3 (.e 16 (.p 17 (.e 18 .done))) (.e 16 (.e 3 (.p 17 (.e 18 .done))))))) (.e 15 (.or 3 (.e 11 (.e 16 (.p 17 (.e 18 .done)))) (.e 11 (.or 3 (.e 16 (.p 17 (.e 18 .done))) (.e 16 (.e 3 (.p 17 (.e 18 .done)))))))))))) (.or 11 (.or 0 (.p 1 (.p 2 (.or 3 (.e 15 (.e 16 (.p 17 (.e 18 .done)))) (.e 15 (.or 3 (.e 16 (.p 17 (.e 18 .done))) (.e 16 (.e 3 (.p 17 (.e 18 .done))))))))) (.e 15 (.or 0 (.p 1 (.p 2 (.or 3 (.e 16 (.p 17 (.e 18 .done))) (.e 16 (.e 3 (.p 17 (.e 18 .done))))))) (.e 16 (.e 0 (.p 1 (.p 2 (.e 3 (.p 17 (.e 18 .done)))))))))) (.e 15 (.or 0 (.p 1 (.p 2 (.or 3 (.e 11 (.e 16 (.p 17 (.e 18 .done)))) (.e 11 (.or 3 (.e 16 (.p 17 (.e 18 .done))) (.e 16 (.e 3 (.p 17 (.e 18 .done))))))))) (.e 11 (.or 0 (.p 1 (.p 2 (.or 3 (.e 16 (.p 17 (.e 18 .done))) (.e 16 (.e 3 (.p 17 (.e 18 .done))))))) (.e 16 (.e 0 (.p 1 (.p 2 (.e 3 (.p 17 (.e 18 .done)))))))))))))))))))))))),(15,[0,3,5,8,11,12,14],[17],true,(.q 0 (.p 1 (.p 2 (.q 3 (.p 4 (.q 5 (.p 6 (.p 7 (.q 8 (.p 9 (.p 10 (.q 11 (.q 12 (.q 14 (.e 13 (.e 15 (.p 16 (.e 17 .done))))))))))))))))))),(20,[0,3,5],[9],false,(.q 0 (.p 1 (.p 2 (.q 3 (.p 4 (.q 5 (.p 6 (.p 8 (.e 7 (.e 9 .done)))))))))))]}
def Rc:An:= {join:= [(13,⟨[2,5,6,7,8,45,46],[1,2,3,4,5,6,7],[(9,false,vI),(10,false,vI),(11,false,[.val .bool])],[(13,148,[.fix 9, .fix 10, .fix 11, .own (.int .i64) 3])],[(9, .row (.sl tE) 36),(10, .nest (.sl tE) 36 48),(11, .nest (.mp false (.int .i64) false .bool) 167 4)]⟩),(16,⟨[2,5,6,7,8,9,10,45,46],[1,4,5,6,9,10,11,13,15],[],[],[(2, .row (.int .i64) 3),(3, .row (.int .i64) 3),(7, .row (.int .i64) 3)]⟩),(22,⟨[2,5,6,7,12,13,79,80,81],[1,2,3,5,6,9,11,13,14],[],[],[(4, .row (.sl tE) 36),(10, .nest (.sl tE) 36 48)]⟩)],loop:= [(10,⟨[2,5,6,7,45],[1,4,5,6],[(46,false,vI)],[(13,148,[.fix 9, .fix 10, .fix 11, .own (.int .i64) 3])],[(2, .row (.int .i64) 3),(3, .row (.int .i64) 3),(7, .row (.int .i64) 3),(9, .row (.sl tE) 36),(10, .nest (.sl tE) 36 48),(11, .nest (.mp false (.int .i64) false .bool) 167 4)]⟩),(19,⟨[2,5,7,79,80],[1,2,3,6,9,11,13,14],[(6,false,[.val (.sl (.int .i64))]),(81,false,vI)],[],[(4, .row (.sl tE) 36),(5, .row (.sl tE) 36),(10, .nest (.sl tE) 36 48)]⟩)],plan:= [(6,[],[16],true,(.p 0 (.p 2 (pZ9 4 3 (pZ9 9 3 (.al [1,3,7,12,15] [8,13,14] (.e 16 .done))))))),(15,[1],[12,14,16],false,(.p 0 (.q 1 (.p 2 (.p 3 (pZ9 5 7 (.or 4 (.e 12 (.p 13 (.e 14 (.p 15 (.e 16 .done))))) (.e 12 (.e 4 (.p 13 (.e 14 (.p 15 (.e 16 .done))))))))))))),(21,[7],[15,17],false,(.p 0 (.p 1 (pZ9 3 4 (.q 7 (.p 8 (.p 9 (.p 11 (.or 2 (.or 10 (.e 12 (.p 13 (.e 14 (.e 15 (.p 16 (.e 17 .done)))))) (.e 12 (.p 13 (.or 10 (.e 14 (.e 15 (.p 16 (.e 17 .done)))) (.e 14 (.e 10 (.e 15 (.p 16 (.e 17 .done))))))))) (.or 10 (.or 2 (.e 12 (.p 13 (.e 14 (.e 15 (.p 16 (.e 17 .done)))))) (.e 12 (.p 13 (.or 2 (.e 14 (.e 15 (.p 16 (.e 17 .done)))) (.e 14 (.or 2 (.e 15 (.p 16 (.e 17 .done))) (.e 15 (.e 2 (.p 16 (.e 17 .done)))))))))) (.e 12 (.p 13 (.or 2 (.or 10 (.e 14 (.e 15 (.p 16 (.e 17 .done)))) (.e 14 (.e 10 (.e 15 (.p 16 (.e 17 .done)))))) (.or 10 (.or 2 (.e 14 (.e 15 (.p 16 (.e 17 .done)))) (.e 14 (.or 2 (.e 15 (.p 16 (.e 17 .done))) (.e 15 (.e 2 (.p 16 (.e 17 .done))))))) (.e 14 (.or 2 (.e 10 (.e 15 (.p 16 (.e 17 .done)))) (.e 10 (.or 2 (.e 15 (.p 16 (.e 17 .done))) (.e 15 (.e 2 (.p 16 (.e 17 .done)))))))))))))))))))))),(22,[2,7,10],[17],true,(.p 0 (.p 1 (.q 2 (pZ9 3 4 (.q 7 (.p 8 (.p 9 (.q 10 (.p 11 (.e 12 (pZ9 13 4 (.e 17 .done)))))))))))))]}
noncomputable def Tb:I5:= [(57,O3),(113,U7),(125,T6),(122,Hc (QD ⟨prog,SW⟩ [(44,EQ,DU)] f122.results.toList (f122.body.getD .skip) f122.ntmps)),(123,Hc (QD ⟨prog,SW⟩ [(51,ER,DW)] f123.results.toList (f123.body.getD .skip) f123.ntmps)),(124,Hc (QD ⟨prog,SW⟩ [(76,ES,DX)] f124.results.toList (f124.body.getD .skip) f124.ntmps))]
abbrev C3y:=(List (List EE)×List Nat)×Unit
abbrev C4l:=Int×(List (Int×Bool)×List (Int×Bool))×Unit
abbrev C4n:=Int×(List (List (Int×Bool))×List Nat)×List Int×Unit
abbrev LI:=Int×(List (List (Int×Bool))×List Nat)×Unit
abbrev C4o:=Int×Int×(List (List (Int×Bool))×List Nat)×Unit
abbrev C4p:=Int×Int×Bool×List Int×List (List EE)×(List (List EE)×List Nat)×(List (List (Int×Bool))×List Nat)×Unit
abbrev C4s:=Int×List (List EE)×(List (List (Int×Bool))×List Nat)×Unit
abbrev C4t:=Int×List (List EE)×(List (List EE)×List Nat)×(List (List (Int×Bool))×List Nat)×Unit
abbrev C4w:=Int×List Int×List Int×List Int×List Int×List (List EE)×(List (List EE)×List Nat)×(List (List (Int×Bool))×List Nat)×Unit
abbrev C4y:=List (List EE)×(List (List EE)×List Nat)×Unit
abbrev jY:=List EE×Bool×Unit
abbrev C5b:=List Int×(List (Int×Bool)×List (Int×Bool))×Unit
abbrev C5c:=List Int×(List (List (Int×Bool))×List Nat)×Unit
abbrev C5e:=List Int×Int×List (List EE)×List (List EE)×(List (List EE)×List Nat)×Unit
abbrev C5g:=List Int×List (List EE)×(List (List EE)×List Nat)×(List (List (Int×Bool))×List Nat)×Unit
abbrev C1w:=List Int×List Int×List Int×Unit
def Jn:A2 R0.args->Prop:=fun(x:MM×Unit)=>let bg:=(64:Nat);let bd:=(281474976710656:Int);let ba:=x.1.2.1.toNat;let a6:=(6:Int);let a5:=(4:Int);let a4:=(9223372036854775807:Int);let ar:=(x.1.2.2.length:Int);let aa:=x.1.1.toNat;let X:=(140737488355328:Nat);let R:Prop:=(∀(v:List EE),v∈ []->Ct v);let E:=(1:Int);let d:=(0:Int);let V:Prop:=(d<=x.1.2.1/\x.1.2.1<=x.1.2.1/\(↑(8:Nat):Int)*x.1.2.1<=bd/\x.1.2.1<=a4);let G:Prop:=(d<=x.1.1/\x.1.1<=x.1.1/\(↑(8:Nat):Int)*x.1.1<=bd/\x.1.1<=a4);let D:Prop:=(∀(s:Nat),(1:Nat)<=s->Gx s x.1->∀(i j:Nat),i<x.1.1.toNat->qs (sK s x.1.1.toNat) (el (d,d,[]) i j)/\qs (sK s i) (el (d,d,[]) i j));let u:Prop:=(d<=x.1.1/\x.1.1<=x.1.1/\(↑(24:Nat):Int)*x.1.1<=bd/\x.1.1<=a4);True/\∀(r:Ba),True/\True->r.1=decide (G3 x.1)->((!r.1)=true->(¬G3 x.1->([],[],(d,d,[]),d,d,[])=kH/\E=E)/\(G3 x.1->(x.1.1≠x.1.2.1->([],[],(d,d,[]),d,d,[])=kH/\E=a5)/\(x.1.1=x.1.2.1->(¬nonsing x.1.1.toNat (el x.1)->([],[],(d,d,[]),d,d,[])=kH/\E=a6)/\(nonsing x.1.1.toNat (el x.1)->Da ([],[],(d,d,[]),d,d,[]) x.1.1/\E=d/\R/\R/\D/\∀(i j:Nat),i<x.1.1.toNat->j<x.1.1.toNat->luM ([],[],(d,d,[]),d,d,[]) x.1.1.toNat i j=el x.1 (ix [] i) (ix [] j)))))/\((!r.1)=false->(decide (x.1.1≠x.1.2.1)=true->(¬G3 x.1->([],[],(d,d,[]),d,d,[])=kH/\a5=E)/\(G3 x.1->(x.1.1≠x.1.2.1->([],[],(d,d,[]),d,d,[])=kH/\a5=a5)/\(x.1.1=x.1.2.1->(¬nonsing x.1.1.toNat (el x.1)->([],[],(d,d,[]),d,d,[])=kH/\a5=a6)/\(nonsing x.1.1.toNat (el x.1)->Da ([],[],(d,d,[]),d,d,[]) x.1.1/\a5=d/\R/\R/\D/\∀(i j:Nat),i<x.1.1.toNat->j<x.1.1.toNat->luM ([],[],(d,d,[]),d,d,[]) x.1.1.toNat i j=el x.1 (ix [] i) (ix [] j)))))/\(decide (x.1.1≠x.1.2.1)=false->G/\G/\u/\u/\G/\u/\u/\V/\V/\∃(I:C4n->Prop),∃(μ: _->Nat),I (d,(List.replicate ba [],Ql (Ty.mp false (Ty.int i64) false Ty.bool) ba),List.replicate ba d,())/\∀(p:C4n),let ap:=p.1.toNat;(Ty.int i64).wf p.1/\p.2.1.1.length.le 9223372036854775807/\TZ p.2.2.1/\True->I p->(decide (p.1<x.1.2.1)=true->(d<=p.1/\p.1<(↑p.2.1.1.length:Int))/\(d<=p.1/\p.1<(p.2.2.1.length:Int))/\I (i64.wrap (p.1+E),(p.2.1.1.set ap [],PD ap p.2.1.2),List.set p.2.2.1 ap p.1,())/\μ (i64.wrap (p.1+E),(p.2.1.1.set ap [],PD ap p.2.1.2),List.set p.2.2.1 ap p.1,())<μ p)/\(decide (p.1<x.1.2.1)=false->∃(I:C4s->Prop),∃(μ: _->Nat),I (d,List.replicate aa [],p.2.1,())/\∀(bn:C4s),let F:=(gx [] x.1.2.2 bn.1);let bl:=(↑F.length:Int);(Ty.int i64).wf bn.1/\MR bn.2.1/\bn.2.2.1.1.length.le 9223372036854775807/\True->I bn->(decide (bn.1<ar)=true->(d<=bn.1/\bn.1<ar)/\Ow F/\∀(r:ID),Qa r.1/\True->TH (A8 F) r.1->(d<=bn.1/\bn.1<(bn.2.1.length:Int))/\∃(I_1:LI->Prop),∃(bt: _->Nat),I_1 (d,bn.2.2.1,())/\∀(p:LI),let be:=(gx F5 F p.1);let al:=be.1.toNat;let ak:=(i64.wrap (bn.1+E),List.set bn.2.1 bn.1.toNat r.1,p.2.1,());(Ty.int i64).wf p.1/\p.2.1.1.length.le 9223372036854775807/\True->I_1 p->(decide (p.1<bl)=true->(d<=p.1/\p.1<bl)/\(d<=be.1/\be.1<(↑p.2.1.1.length:Int))/\¬Int.toNat be.1∈p.2.1.2/\I_1 (i64.wrap (p.1+E),(p.2.1.1.set al (Fz (Ty.int i64) bn.1 true (p.2.1.1.getD al [])),p.2.1.2),())/\bt (i64.wrap (p.1+E),(p.2.1.1.set al (Fz (Ty.int i64) bn.1 true (p.2.1.1.getD al [])),p.2.1.2),())<bt p)/\(decide (p.1<bl)=false->I ak/\μ ak<μ bn))/\(decide (bn.1<ar)=false->∃(I:C4w->Prop),∃(μ: _->Nat),I (d,p.2.2.1,List.replicate aa d,List.replicate aa d,List.replicate aa d,bn.2.1,(List.replicate aa [],Ql tE.sl aa),bn.2.2.1,())/\∀(b2:C4w),let aw:Prop:=(d<=b2.1/\b2.1<(b2.2.2.2.1.length:Int));let ab:=(b2.2.2.1.length:Int);let w:=(↑b2.2.1.length:Int);(Ty.int i64).wf b2.1/\(Ty.int i64).sl.wf b2.2.1/\TZ b2.2.2.1/\TZ b2.2.2.2.1/\TZ b2.2.2.2.2.1/\MR b2.2.2.2.2.2.1/\b2.2.2.2.2.2.2.1.1.length.le 9223372036854775807/\b2.2.2.2.2.2.2.2.1.1.length.le 9223372036854775807/\True->I b2->(decide (b2.1<x.1.1)=true->∃(J:C4p->Prop),(∃(J_1:LI->Prop),(∃(I:C4o->Prop),∃(μ: _->Nat),I (d,d,b2.2.2.2.2.2.2.2.1,())/\∀(b1:C4o),let bk:=(↑b1.2.2.1.1.length:Int);let Z:=b1.1.toNat;let z:=b1.2.1.toNat;let K:Prop:=((↑(b1.2.2.1.1.getD (b2.2.1.getD z d).toNat []).length:Int)<(↑((b1.2.2.1.1.set (b2.2.1.getD z d).toNat (b1.2.2.1.1.getD (b2.2.1.getD z d).toNat [])).getD (b2.2.1.getD Z d).toNat []).length:Int));(Ty.int i64).wf b1.1/\(Ty.int i64).wf b1.2.1/\b1.2.2.1.1.length.le 9223372036854775807/\True->I b1->(decide (b1.2.1<w)=true->∃(J:LI->Prop),((d<=b1.2.1/\b1.2.1<w)/\(d<=b2.2.1.getD z d/\b2.2.1.getD z d<bk)/\¬(b2.2.1.getD z d).toNat∈b1.2.2.1.2/\(b1.2.2.1.1.getD (b2.2.1.getD z d).toNat []).length<=9223372036854775807/\(d<=b1.1/\b1.1<w)/\(d<=b2.2.1.getD Z d/\b2.2.1.getD Z d<bk)/\¬(b2.2.1.getD Z d).toNat∈b1.2.2.1.2/\((b1.2.2.1.1.set (b2.2.1.getD z d).toNat (b1.2.2.1.1.getD (b2.2.1.getD z d).toNat [])).getD (b2.2.1.getD Z d).toNat []).length<=9223372036854775807/\(decide K=true->J (b1.2.1,((b1.2.2.1.1.set (b2.2.1.getD z d).toNat (b1.2.2.1.1.getD (b2.2.1.getD z d).toNat [])).set (b2.2.1.getD Z d).toNat ((b1.2.2.1.1.set (b2.2.1.getD z d).toNat (b1.2.2.1.1.getD (b2.2.1.getD z d).toNat [])).getD (b2.2.1.getD Z d).toNat []),b1.2.2.1.2),()))/\(decide K=false->J (b1.1,((b1.2.2.1.1.set (b2.2.1.getD z d).toNat (b1.2.2.1.1.getD (b2.2.1.getD z d).toNat [])).set (b2.2.1.getD Z d).toNat ((b1.2.2.1.1.set (b2.2.1.getD z d).toNat (b1.2.2.1.1.getD (b2.2.1.getD z d).toNat [])).getD (b2.2.1.getD Z d).toNat []),b1.2.2.1.2),())))/\∀(b5:LI),let Q:=b5.1.toNat;let au:Prop:=((↑(b5.2.1.1.getD (b2.2.1.getD Q d).toNat []).length:Int)<=E);(Ty.int i64).wf b5.1/\b5.2.1.1.length.le 9223372036854775807/\True->J b5->(d<=b5.1/\b5.1<w)/\(d<=b2.2.1.getD Q d/\b2.2.1.getD Q d<(↑b5.2.1.1.length:Int))/\¬(b2.2.1.getD Q d).toNat∈b5.2.1.2/\(b5.2.1.1.getD (b2.2.1.getD Q d).toNat []).length<=9223372036854775807/\(decide au=true->J_1 (b5.1,(b5.2.1.1.set (b2.2.1.getD Q d).toNat (b5.2.1.1.getD (b2.2.1.getD Q d).toNat []),b5.2.1.2),()))/\(decide au=false->I (b5.1,i64.wrap (b1.2.1+E),(b5.2.1.1.set (b2.2.1.getD Q d).toNat (b5.2.1.1.getD (b2.2.1.getD Q d).toNat []),b5.2.1.2),())/\μ (b5.1,i64.wrap (b1.2.1+E),(b5.2.1.1.set (b2.2.1.getD Q d).toNat (b5.2.1.1.getD (b2.2.1.getD Q d).toNat []),b5.2.1.2),())<μ b1))/\(decide (b1.2.1<w)=false->J_1 (b1.1,b1.2.2.1,())))/\∀(b1:LI),let am:=(i64.wrap (b1.1+E));let H:Prop:=((Int.toNat b1.1+(List.drop am.toNat (List.take w.toNat b2.2.1)).length)*(8:Nat)<=X/\Int.toNat b1.1+(List.drop am.toNat (List.take w.toNat b2.2.1)).length<=9223372036854775807);let B:=b1.1.toNat;let av:=(↑(b1.2.1.1.getD (b2.2.1.getD B d).toNat []).length:Int);(Ty.int i64).wf b1.1/\b1.2.1.1.length.le 9223372036854775807/\True->J_1 b1->(d<=b1.1/\b1.1<w)/\(d<=b2.2.1.getD B d/\b2.2.1.getD B d<(↑b1.2.1.1.length:Int))/\¬(b2.2.1.getD B d).toNat∈b1.2.1.2/\(b1.2.1.1.getD (b2.2.1.getD B d).toNat []).length<=9223372036854775807/\(decide (av=d)=true->J (d,d,false,b2.2.1,b2.2.2.2.2.2.1,b2.2.2.2.2.2.2.1,(b1.2.1.1.set (b2.2.1.getD B d).toNat (b1.2.1.1.getD (b2.2.1.getD B d).toNat []),b1.2.1.2),()))/\(decide (av=d)=false->(d<=b1.1/\b1.1<w)/\∃(J_2:C5g->Prop),((d<=d/\d<=b1.1/\b1.1<=w)/\(d<=i64.wrap (b1.1+E)/\i64.wrap (b1.1+E)<=w/\w<=w)/\(H/\J_2 (List.take B b2.2.1++List.drop am.toNat (List.take w.toNat b2.2.1),b2.2.2.2.2.2.1,b2.2.2.2.2.2.2.1,(b1.2.1.1.set (b2.2.1.getD B d).toNat (b1.2.1.1.getD (b2.2.1.getD B d).toNat []),b1.2.1.2),()))/\H/\J_2 (List.take B b2.2.1++List.drop am.toNat (List.take w.toNat b2.2.1),b2.2.2.2.2.2.1,b2.2.2.2.2.2.2.1,(b1.2.1.1.set (b2.2.1.getD B d).toNat (b1.2.1.1.getD (b2.2.1.getD B d).toNat []),b1.2.1.2),()))/\∀(b5:C5g),let ag:=(b5.2.1.length:Int);(Ty.int i64).sl.wf b5.1/\MR b5.2.1/\b5.2.2.1.1.length.le 9223372036854775807/\b5.2.2.2.1.1.length.le 9223372036854775807/\True->J_2 b5->∃(J_3:LI->Prop),((d<=b2.2.1.getD B d/\b2.2.1.getD B d<(↑b5.2.2.2.1.1.length:Int))/\¬(b2.2.1.getD B d).toNat∈b5.2.2.2.1.2/\∃(I:C4l->Prop),∃(μ: _->Nat),I ((-1:Int),(b5.2.2.2.1.1.getD (b2.2.1.getD B d).toNat [],b5.2.2.2.1.1.getD (b2.2.1.getD B d).toNat []),())/\∀(b6:C4l),let a0:=(decide (b6.1<d));let ay:=(↑(List.getD b5.2.1 b6.1.toNat []).length:Int);(Ty.int i64).wf b6.1/\(∀(x:Int×Bool),x∈b6.2.1.2->H8 x.1/\True)/\True->I b6->(b6.2.1.2= []->(false=true->False)/\(false=false->J_3 (b6.1,(b5.2.2.2.1.1.set (b2.2.1.getD B d).toNat b6.2.1.1,b5.2.2.2.1.2),())))/\∀(l1:List (Int×Bool)) (y:Int×Bool) (l2:List (Int×Bool)),let az:=(↑(List.getD b5.2.1 y.1.toNat []).length:Int);let aq:=(b6.2.1.1,l1++l2);let U:=(L7 (decide (az=ay)) (decide (y.1<b6.1)) false);let A:=(decide (az<ay));b6.2.1.2=l1++y::l2->(true=true->(decide (b6.1<d)=false->d<=y.1/\y.1<ag)/\(decide (b6.1<d)=false->d<=b6.1/\b6.1<ag)/\(L7 a0 true A=false->d<=y.1/\y.1<ag)/\(L7 a0 true A=false->d<=b6.1/\b6.1<ag)/\(L7 (L7 a0 true A) true U=true->I (y.1,aq,())/\μ (y.1,aq,())<μ b6)/\(L7 (L7 a0 true A) true U=false->I (b6.1,aq,())/\μ (b6.1,aq,())<μ b6))/\(true=false->J_3 (b6.1,(b5.2.2.2.1.1,(b2.2.1.getD B d).toNat::b5.2.2.2.1.2),())))/\∀(p:LI),(Ty.int i64).wf p.1/\p.2.1.1.length.le 9223372036854775807/\True->J_3 p->J (p.1,b2.2.1.getD B d,true,b5.1,b5.2.1,b5.2.2.1,p.2.1,())))/\∀(b1:C4p),let ax:=b1.2.1.toNat;let ao:Prop:=(d<=b1.2.1/\b1.2.1<(b2.2.2.2.2.1.length:Int));let S:=(List.set b2.2.2.1 b2.1.toNat b1.1,List.set b2.2.2.2.1 b2.1.toNat b1.2.1,List.set b2.2.2.2.2.1 ax b2.1,());let g:=(List.getD b1.2.2.2.2.1 b1.1.toNat []);let an:=(↑g.length:Int);(Ty.int i64).wf b1.1/\(Ty.int i64).wf b1.2.1/\Ty.bool.wf b1.2.2.1/\(Ty.int i64).sl.wf b1.2.2.2.1/\MR b1.2.2.2.2.1/\b1.2.2.2.2.2.1.1.length.le 9223372036854775807/\b1.2.2.2.2.2.2.1.1.length.le 9223372036854775807/\True->J b1->((!b1.2.2.1)=true->(¬G3 x.1->([],[],(d,d,[]),d,d,[])=kH/\a6=E)/\(G3 x.1->(x.1.1≠x.1.2.1->([],[],(d,d,[]),d,d,[])=kH/\a6=a5)/\(x.1.1=x.1.2.1->(¬nonsing x.1.1.toNat (el x.1)->([],[],(d,d,[]),d,d,[])=kH/\a6=a6)/\(nonsing x.1.1.toNat (el x.1)->Da ([],[],(d,d,[]),d,d,[]) x.1.1/\a6=d/\R/\R/\D/\∀(i j:Nat),i<x.1.1.toNat->j<x.1.1.toNat->luM ([],[],(d,d,[]),d,d,[]) x.1.1.toNat i j=el x.1 (ix [] i) (ix [] j)))))/\((!b1.2.2.1)=false->∃(J:C1w->Prop),((d<=b2.1/\b2.1<ab)/\(aw/\ao/\J S)/\aw/\ao/\J S)/\∀(b5:C1w),TZ b5.1/\TZ b5.2.1/\TZ b5.2.2.1/\True->J b5->(d<=b1.1/\b1.1<(b1.2.2.2.2.1.length:Int))/\∃(I_1:LI->Prop),∃(bt: _->Nat),I_1 (d,b1.2.2.2.2.2.2.1,())/\∀(b6:LI),let bm:=(↑b6.2.1.1.length:Int);let ai:=(gx F5 g b6.1);let a7:=ai.1.toNat;(Ty.int i64).wf b6.1/\b6.2.1.1.length.le 9223372036854775807/\True->I_1 b6->(decide (b6.1<an)=true->(d<=b6.1/\b6.1<an)/\(d<=ai.1/\ai.1<bm)/\¬Int.toNat ai.1∈b6.2.1.2/\I_1 (i64.wrap (b6.1+E),(b6.2.1.1.set a7 (Qj (Ty.int i64) b1.1 (b6.2.1.1.getD a7 [])),b6.2.1.2),())/\bt (i64.wrap (b6.1+E),(b6.2.1.1.set a7 (Qj (Ty.int i64) b1.1 (b6.2.1.1.getD a7 [])),b6.2.1.2),())<bt b6)/\(decide (b6.1<an)=false->eM K1 g/\∀(bp:C9),Qb bp.1/\True->bp.1=rc (A8 g b1.2.1)->D1 bp.1/\∀(bq:fO),Qb bq.1/\True/\True->(rv bp.1=(0:Rat)->bq.2.1=false)/\(rv bp.1≠(0:Rat)->bq.1=rc (rv bp.1)⁻¹/\bq.2.1=true)->∃(J:C5c->Prop),((d<=b1.2.1/\b1.2.1<bm)/\¬Int.toNat b1.2.1∈b6.2.1.2/\∃(I:C5b->Prop),∃(μ: _->Nat),I ([],(b6.2.1.1.getD ax [],b6.2.1.1.getD ax []),())/\∀(p:C5b),(Ty.int i64).sl.wf p.1/\(∀(x:Int×Bool),x∈p.2.1.2->H8 x.1/\True)/\True->I p->(p.2.1.2= []->(false=true->False)/\(false=false->J (p.1,(b6.2.1.1.set ax p.2.1.1,b6.2.1.2),())))/\∀(l1:List (Int×Bool)) (y:Int×Bool) (l2:List (Int×Bool)),let a9:=(p.1++ [y.1],(p.2.1.1,l1++l2),());p.2.1.2=l1++y::l2->(true=true->((p.1.length+ [y.1].length)*(8:Nat)<=X/\p.1.length+ [y.1].length<=9223372036854775807)/\I a9/\μ a9<μ p)/\(true=false->J (p.1,(b6.2.1.1,Int.toNat b1.2.1::b6.2.1.2),())))/\∀(b3:C5c),let bb:=(↑b3.1.length:Int);(Ty.int i64).sl.wf b3.1/\b3.2.1.1.length.le 9223372036854775807/\True->J b3->∃(I_2:C4t->Prop),∃(bv: _->Nat),I_2 (d,b1.2.2.2.2.1,b1.2.2.2.2.2.1,b3.2.1,())/\∀(b4:C4t),let Y:=(i64.wrap (b2.1+E),b1.2.2.2.1,b5.1,b5.2.1,b5.2.2.1,b4.2.1,b4.2.2.1,b4.2.2.2.1,());let e:=b4.1.toNat;let W:Prop:=(d<=b3.1.getD e d/\b3.1.getD e d<(b4.2.1.length:Int));let L:=(List.getD b4.2.1 (b3.1.getD e d).toNat []);let h:Prop:=(d<=b3.1.getD e d/\b3.1.getD e d<(↑b4.2.2.1.1.length:Int));(Ty.int i64).wf b4.1/\MR b4.2.1/\b4.2.2.1.1.length.le 9223372036854775807/\b4.2.2.2.1.1.length.le 9223372036854775807/\True->I_2 b4->(decide (b4.1<bb)=true->(d<=b4.1/\b4.1<bb)/\∃(J:pJ->Prop),(W/\(eM K1 L/\∀(r:C9),Qb r.1/\True->r.1=rc (A8 L b1.2.1)->((D1 r.1/\D1 bq.1)/\∀(b9:C9),Qb b9.1/\True->b9.1=rc (rv r.1*rv bq.1)->J (b9.1.1.1,b9.1.1.2,b9.1.2,()))/\(D1 r.1/\D1 bq.1)/\∀(b9:C9),Qb b9.1/\True->b9.1=rc (rv r.1*rv bq.1)->J (b9.1.1.1,b9.1.1.2,b9.1.2,()))/\eM K1 L/\∀(r:C9),Qb r.1/\True->r.1=rc (A8 L b1.2.1)->(D1 r.1/\D1 bq.1)/\∀(b9:C9),Qb b9.1/\True->b9.1=rc (rv r.1*rv bq.1)->J (b9.1.1.1,b9.1.1.2,b9.1.2,()))/\∀(bs:pJ),let bf:=(bs.1,bs.2.1);let l:=(b2.1,bf,bs.2.2.1);let a:Prop:=(((b4.2.2.1.1.getD (b3.1.getD e d).toNat []).length+ [l].length)*bg<=X/\(b4.2.2.1.1.getD (b3.1.getD e d).toNat []).length+ [l].length<=9223372036854775807);Ty.bool.wf bs.1/\(Ty.int u32).sl.wf bs.2.1/\(Ty.int u32).sl.wf bs.2.2.1/\True->J bs->∃(J:C3y->Prop),let n:Prop:=(¬(b3.1.getD e d).toNat∈b4.2.2.1.2/\a/\h/\(b3.1.getD e d).toNat=(b3.1.getD e d).toNat/\J ((b4.2.2.1.1.set (b3.1.getD e d).toNat (b4.2.2.1.1.getD (b3.1.getD e d).toNat []++ [l]),b4.2.2.1.2),()));let c:Prop:=(a/\h/\(b3.1.getD e d).toNat=(b3.1.getD e d).toNat/\J ((b4.2.2.1.1.set (b3.1.getD e d).toNat (b4.2.2.1.1.getD (b3.1.getD e d).toNat []++ [l]),b4.2.2.1.2),()));let P:Prop:=(c/\a/\h/\(b3.1.getD e d).toNat=(b3.1.getD e d).toNat/\J ((b4.2.2.1.1.set (b3.1.getD e d).toNat (b4.2.2.1.1.getD (b3.1.getD e d).toNat []++ [l]),b4.2.2.1.2),()));(h/\((n/\¬(b3.1.getD e d).toNat∈b4.2.2.1.2/\a/\h/\(b3.1.getD e d).toNat=(b3.1.getD e d).toNat/\J ((b4.2.2.1.1.set (b3.1.getD e d).toNat (b4.2.2.1.1.getD (b3.1.getD e d).toNat []++ [l]),b4.2.2.1.2),()))/\(¬(b3.1.getD e d).toNat∈b4.2.2.1.2/\c/\c/\a/\h/\(b3.1.getD e d).toNat=(b3.1.getD e d).toNat/\J ((b4.2.2.1.1.set (b3.1.getD e d).toNat (b4.2.2.1.1.getD (b3.1.getD e d).toNat []++ [l]),b4.2.2.1.2),()))/\n/\¬(b3.1.getD e d).toNat∈b4.2.2.1.2/\c/\a/\h/\(b3.1.getD e d).toNat=(b3.1.getD e d).toNat/\J ((b4.2.2.1.1.set (b3.1.getD e d).toNat (b4.2.2.1.1.getD (b3.1.getD e d).toNat []++ [l]),b4.2.2.1.2),()))/\(¬(b3.1.getD e d).toNat∈b4.2.2.1.2/\(c/\c/\a/\h/\(b3.1.getD e d).toNat=(b3.1.getD e d).toNat/\J ((b4.2.2.1.1.set (b3.1.getD e d).toNat (b4.2.2.1.1.getD (b3.1.getD e d).toNat []++ [l]),b4.2.2.1.2),()))/\P/\a/\h/\(b3.1.getD e d).toNat=(b3.1.getD e d).toNat/\J ((b4.2.2.1.1.set (b3.1.getD e d).toNat (b4.2.2.1.1.getD (b3.1.getD e d).toNat []++ [l]),b4.2.2.1.2),()))/\(n/\¬(b3.1.getD e d).toNat∈b4.2.2.1.2/\c/\a/\h/\(b3.1.getD e d).toNat=(b3.1.getD e d).toNat/\J ((b4.2.2.1.1.set (b3.1.getD e d).toNat (b4.2.2.1.1.getD (b3.1.getD e d).toNat []++ [l]),b4.2.2.1.2),()))/\¬(b3.1.getD e d).toNat∈b4.2.2.1.2/\P/\a/\h/\(b3.1.getD e d).toNat=(b3.1.getD e d).toNat/\J ((b4.2.2.1.1.set (b3.1.getD e d).toNat (b4.2.2.1.1.getD (b3.1.getD e d).toNat []++ [l]),b4.2.2.1.2),()))/\∀(bw:C3y),bw.1.1.length.le 9223372036854775807/\True->J bw->W/\D1 (bf,bs.2.2.1)/\∀(b9:C9),Qb b9.1/\True->b9.1=rc (-rv (bf,bs.2.2.1))->(eM K1 L/\sz K1 b9.1/\eM K1 g)/\∀(bu:ID),let O:=(List.set b4.2.1 (b3.1.getD e d).toNat bu.1);let af:=(↑(O.getD (b3.1.getD e d).toNat []).length:Int);Qa bu.1/\True->TH (fun(i:Int)=>A8 L i+rv b9.1*A8 g i) bu.1->W/\∃(I:LI->Prop),∃(μ: _->Nat),I (d,b4.2.2.2.1,())/\∀(b7:LI),let ah:=(gx F5 g b7.1);let a8:=ah.1.toNat;(Ty.int i64).wf b7.1/\b7.2.1.1.length.le 9223372036854775807/\True->I b7->(decide (b7.1<an)=true->(d<=b7.1/\b7.1<an)/\(d<=ah.1/\ah.1<(↑b7.2.1.1.length:Int))/\¬Int.toNat ah.1∈b7.2.1.2/\I (i64.wrap (b7.1+E),(b7.2.1.1.set a8 (Qj (Ty.int i64) (b3.1.getD e d) (b7.2.1.1.getD a8 [])),b7.2.1.2),())/\μ (i64.wrap (b7.1+E),(b7.2.1.1.set a8 (Qj (Ty.int i64) (b3.1.getD e d) (b7.2.1.1.getD a8 [])),b7.2.1.2),())<μ b7)/\(decide (b7.1<an)=false->(d<=b3.1.getD e d/\b3.1.getD e d<(↑O.length:Int))/\∃(I:LI->Prop),∃(μ: _->Nat),I (d,b7.2.1,())/\∀(b8:LI),let ac:=(i64.wrap (b4.1+E),List.set b4.2.1 (b3.1.getD e d).toNat bu.1,bw.1,b8.2.1,());let m:=(gx F5 (O.getD (b3.1.getD e d).toNat []) b8.1);let bc:=m.1.toNat;(Ty.int i64).wf b8.1/\b8.2.1.1.length.le 9223372036854775807/\True->I b8->(decide (b8.1<af)=true->(d<=b8.1/\b8.1<af)/\(d<=m.1/\m.1<(↑b8.2.1.1.length:Int))/\¬Int.toNat m.1∈b8.2.1.2/\I (i64.wrap (b8.1+E),(b8.2.1.1.set bc (Fz (Ty.int i64) (b3.1.getD e d) true (b8.2.1.1.getD bc [])),b8.2.1.2),())/\μ (i64.wrap (b8.1+E),(b8.2.1.1.set bc (Fz (Ty.int i64) (b3.1.getD e d) true (b8.2.1.1.getD bc [])),b8.2.1.2),())<μ b8)/\(decide (b8.1<af)=false->I_2 ac/\bv ac<bv b4)))/\(decide (b4.1<bb)=false->I Y/\μ Y<μ b2))))/\(decide (b2.1<x.1.1)=false->∃(I:C5e->Prop),∃(μ: _->Nat),I (b2.2.2.2.2.1,d,List.replicate aa [],List.replicate aa [],b2.2.2.2.2.2.2.1,())/\∀(b1:C5e),let bh:=(x.1.1,x.1.1,b1.2.2.1);let a1:=(b1.1.length:Int);let t:=b1.2.1.toNat;let o:=(b2.2.2.1,b2.2.2.2.1,bh,x.1.1,x.1.1,b1.2.2.2.1);let k:Prop:=(d<=b1.2.1/\b1.2.1<(b1.2.2.1.length:Int));let b:=(List.getD b2.2.2.1 t d);let aj:=(List.getD b2.2.2.2.2.2.1 b.toNat []);(Ty.int i64).sl.wf b1.1/\(Ty.int i64).wf b1.2.1/\MR b1.2.2.1/\MR b1.2.2.2.1/\b1.2.2.2.2.1.1.length.le 9223372036854775807/\True->I b1->(decide (b1.2.1<ab)=true->(d<=b1.2.1/\b1.2.1<ab)/\∃(J:C4y->Prop),((d<=List.getD b2.2.2.1 t d/\List.getD b2.2.2.1 t d<(↑b1.2.2.2.2.1.1.length:Int))/\((¬b.toNat∈b1.2.2.2.2.1.2/\True/\∀(r:C9),let bi:=(b1.2.1,r.1);Qb r.1/\True->r.1=ri E->(((b1.2.2.2.2.1.1.getD b.toNat []).length+ [bi].length)*bg<=X/\(b1.2.2.2.2.1.1.getD b.toNat []).length+ [bi].length<=9223372036854775807)/\k/\J (List.set b1.2.2.1 t (b1.2.2.2.2.1.1.getD b.toNat []++ [bi]),(b1.2.2.2.2.1.1,b.toNat::b1.2.2.2.2.1.2),()))/\True/\∀(r:C9),let a2:=(b1.2.1,r.1);let M:Prop:=(((b1.2.2.2.2.1.1.getD b.toNat []).length+ [a2].length)*bg<=X/\(b1.2.2.2.2.1.1.getD b.toNat []).length+ [a2].length<=9223372036854775807);Qb r.1/\True->r.1=ri E->(¬b.toNat∈b1.2.2.2.2.1.2/\M/\k/\J (List.set b1.2.2.1 t (b1.2.2.2.2.1.1.getD b.toNat []++ [a2]),(b1.2.2.2.2.1.1,b.toNat::b1.2.2.2.2.1.2),()))/\¬b.toNat∈b1.2.2.2.2.1.2/\M/\k/\J (List.set b1.2.2.1 t (b1.2.2.2.2.1.1.getD b.toNat []++ [a2]),(b1.2.2.2.2.1.1,b.toNat::b1.2.2.2.2.1.2),()))/\(¬b.toNat∈b1.2.2.2.2.1.2/\(True/\∀(r:C9),let bj:=(b1.2.1,r.1);Qb r.1/\True->r.1=ri E->(((b1.2.2.2.2.1.1.getD b.toNat []).length+ [bj].length)*bg<=X/\(b1.2.2.2.2.1.1.getD b.toNat []).length+ [bj].length<=9223372036854775807)/\k/\J (List.set b1.2.2.1 t (b1.2.2.2.2.1.1.getD b.toNat []++ [bj]),(b1.2.2.2.2.1.1,b.toNat::b1.2.2.2.2.1.2),()))/\True/\∀(r:C9),let a3:=(b1.2.1,r.1);let q:Prop:=(((b1.2.2.2.2.1.1.getD b.toNat []).length+ [a3].length)*bg<=X/\(b1.2.2.2.2.1.1.getD b.toNat []).length+ [a3].length<=9223372036854775807);let T:Prop:=(q/\k/\J (List.set b1.2.2.1 t (b1.2.2.2.2.1.1.getD b.toNat []++ [a3]),(b1.2.2.2.2.1.1,b.toNat::b1.2.2.2.2.1.2),()));Qb r.1/\True->r.1=ri E->T/\T/\q/\k/\J (List.set b1.2.2.1 t (b1.2.2.2.2.1.1.getD b.toNat []++ [a3]),(b1.2.2.2.2.1.1,b.toNat::b1.2.2.2.2.1.2),()))/\True/\∀(r:C9),let ae:=(b1.2.1,r.1);let f:Prop:=(((b1.2.2.2.2.1.1.getD b.toNat []).length+ [ae].length)*bg<=X/\(b1.2.2.2.2.1.1.getD b.toNat []).length+ [ae].length<=9223372036854775807);let N:Prop:=(¬b.toNat∈b1.2.2.2.2.1.2/\f/\k/\J (List.set b1.2.2.1 t (b1.2.2.2.2.1.1.getD b.toNat []++ [ae]),(b1.2.2.2.2.1.1,b.toNat::b1.2.2.2.2.1.2),()));let C:Prop:=(f/\k/\J (List.set b1.2.2.1 t (b1.2.2.2.2.1.1.getD b.toNat []++ [ae]),(b1.2.2.2.2.1.1,b.toNat::b1.2.2.2.2.1.2),()));Qb r.1/\True->r.1=ri E->(N/\¬b.toNat∈b1.2.2.2.2.1.2/\f/\k/\J (List.set b1.2.2.1 t (b1.2.2.2.2.1.1.getD b.toNat []++ [ae]),(b1.2.2.2.2.1.1,b.toNat::b1.2.2.2.2.1.2),()))/\(¬b.toNat∈b1.2.2.2.2.1.2/\C/\C/\f/\k/\J (List.set b1.2.2.1 t (b1.2.2.2.2.1.1.getD b.toNat []++ [ae]),(b1.2.2.2.2.1.1,b.toNat::b1.2.2.2.2.1.2),()))/\N/\¬b.toNat∈b1.2.2.2.2.1.2/\C/\f/\k/\J (List.set b1.2.2.1 t (b1.2.2.2.2.1.1.getD b.toNat []++ [ae]),(b1.2.2.2.2.1.1,b.toNat::b1.2.2.2.2.1.2),()))/\∀(b5:C4y),MR b5.1/\b5.2.1.1.length.le 9223372036854775807/\True->J b5->(d<=List.getD b2.2.2.1 t d/\List.getD b2.2.2.1 t d<(b2.2.2.2.2.2.1.length:Int))/\(eM K1 aj/\List.length b1.1<=100000)/\∀(bp:jY),let ad:=(b1.1,i64.wrap (b1.2.1+E),b5.1,List.set b1.2.2.2.1 t bp.1,b5.2.1,());Qa bp.1/\True/\True->(L9 b1.1 a1->(∀(j:Int),A8 aj j≠(0:Rat)->d<=j/\j<a1)->TH (fun(i:Int)=>if d<=i/\i<a1 then A8 aj (↑(List.idxOf i b1.1):Int)else(0:Rat)) bp.1/\bp.2.1=true)->(d<=b1.2.1/\b1.2.1<(b1.2.2.2.1.length:Int))/\I ad/\μ ad<μ b1)/\(decide (b1.2.1<ab)=false->(¬G3 x.1->o=kH/\d=E)/\(G3 x.1->(x.1.1≠x.1.2.1->o=kH/\d=a5)/\(x.1.1=x.1.2.1->(¬nonsing x.1.1.toNat (el x.1)->o=kH/\d=a6)/\(nonsing x.1.1.toNat (el x.1)->Da o x.1.1/\d=d/\(∀(v:List EE),v∈b1.2.2.1->Ct v)/\(∀(v:List EE),v∈b1.2.2.2.1->Ct v)/\(∀(s:Nat),(1:Nat)<=s->Gx s x.1->∀(i j:Nat),i<x.1.1.toNat->qs (sK s x.1.1.toNat) (el bh i j)/\qs (sK s i) (el (x.1.1,x.1.1,b1.2.2.2.1) i j))/\∀(i j:Nat),i<x.1.1.toNat->j<x.1.1.toNat->luM o x.1.1.toNat i j=el x.1 (ix b2.2.2.1 i) (ix b2.2.2.2.1 j))))))))))
def EY (x:A2 R0.args):C1m prog SW Tb Rc R0 f85 x=Jn x:=by kernel_rfl
def C6h (n:Nat) (M:Fx) (rest:List Int) (rows lower:List (List D3)) (cols:List S0) (q:Int×Int×Bool×List Int×List (List D3)×NR×NB×Unit):Prop:=q.2.2.2.2.1=rows/\q.2.2.2.2.2.1.1=lower/\kG n q.2.2.2.2.2.1.2/\q.2.2.2.2.2.2.1.1=cols/\kG n q.2.2.2.2.2.2.1.2/\(q.2.2.1=false->¬nonsing n (el M))/\(q.2.2.1=true->q.2.1∈rest/\q.1∈Q8 (cols.getD q.2.1.toNat [])/\q.2.2.2.1.Nodup/\∀x,x∈q.2.2.2.1↔x∈rest/\x≠q.2.1)
def B9b (n:Nat) (rest:List Int) (cols:List S0) (q:Int×NB×Unit):Prop:=0<=q.1/\q.1<(rest.length:Int)/\q.2.1.1=cols/\kG n q.2.1.2
def C2n (n:Nat) (rest:List Int) (cols:List S0) (q:Int×Int×NB×Unit):Prop:=0<=q.1/\q.1<(rest.length:Int)/\0<=q.2.1/\q.2.1<=(rest.length:Int)/\q.2.2.1.1=cols/\kG n q.2.2.1.2
def C6i (n:Nat) (rest:List Int) (b:Nat) (rows lower:List (List D3)) (cols:List S0) (q:List Int×List (List D3)×NR×NB×Unit):Prop:=q.1=rest.take b++rest.drop (b+1)/\q.2.1=rows/\q.2.2.1.1=lower/\kG n q.2.2.1.2/\q.2.2.2.1.1=cols/\kG n q.2.2.2.1.2
def C6q (es:S0) (q:Int×(S0×S0)×Unit):Prop:=q.2.1.1=es/\(∀y∈q.2.1.2,y∈es)/\((q.1<0/\q.2.1.2.length=es.length)\/q.1∈Q8 es)
def C6r (n:Nat) (cols:List S0) (c:Int) (q:Int×NB×Unit):Prop:=q.1∈Q8 (cols.getD c.toNat [])/\q.2.1.1=cols/\kG n q.2.1.2
def C6o (es:S0) (q:List Int×(S0×S0)×Unit):Prop:=q.2.1.1=es/\(q.1++Q8 q.2.1.2).Perm (Q8 es)
def C6p (n:Nat) (cols:List S0) (c:Int) (q:List Int×NB×Unit):Prop:=q.1.Perm (Q8 (cols.getD c.toNat []))/\q.2.1.1=cols/\kG n q.2.1.2
def N4 (n:Nat) (M:Fx) (k:Nat) (rest P:List Int) (rows lower:List (List D3)) (r c:Int) (u:List Int) (q:Int×List (List D3)×NR×NB×Unit):Prop:=0<=q.1/\q.1<=(u.length:Int)/\(∀s,1<=s->Gx s M->CI n k (sK s k) rest P rows lower r c (u.take q.1.toNat) q.2.1 q.2.2.1.1 q.2.2.2.1.1)/\kG n q.2.2.1.2/\kG n q.2.2.2.1.2
def C2t (x:Rat) (q:Bool×List Int×List Int×Unit):Prop:=((q.1,q.2.1),q.2.2.1)=rc x
def C6j (n:Nat) (P place:List Int) (rows lower:List (List D3)) (q:List Int×Int×List (List D3)×List (List D3)×NR×Unit):Prop:=q.1=place/\0<=q.2.1/\q.2.1<=(n:Int)/\q.2.2.1.length=n/\q.2.2.2.1.length=n/\q.2.2.2.2.1.1=lower/\(∀m∈q.2.2.2.2.1.2,n<=m\/∃a:Nat,(a:Int)<q.2.1/\m=ix P a)/\(∀a:Nat,(a:Int)<q.2.1->q.2.2.1.getD a []=lower.getD (ix P a) []++ [((a:Int),rc 1)])/\∀a:Nat,(a:Int)<q.2.1->TH (fun i=>if 0<=i/\i<(n:Int)then A8 (rows.getD (ix P a) []) ((List.idxOf i place:Nat):Int)else 0) (q.2.2.2.1.getD a [])
def EI.okFin {n k:Nat} {S:Nat->Nat} {A:Nat->Nat->Rat} {rest P Q place:List Int} {rows lower:List (List D3)} {cols:List S0} (h:EI n k S A rest P Q place rows lower cols) (hn:n<=16384) {a:Nat} (ha:a<k) (hS:S a<=K1):eM K1 (rows.getD (ix P a) []):=by
 obtain⟨u,g2,_⟩:=h.can _ (h.elim.plt a ha);have:=Jo (n:=(n:Int)) (v:=rows.getD (ix P a) []) ⟨u.1,fun e he=>⟨(g2 e he).1,(g2 e he).2,(u.2 e he).1⟩⟩;exact⟨u.1,TD u fun j=>D7 (h.fin a ha j) hS,by omega⟩
def EI.cnt {n k:Nat} {S:Nat->Nat} {A:Nat->Nat->Rat} {rest P Q place:List Int} {rows lower:List (List D3)} {cols:List S0} (h:EI n k S A rest P Q place rows lower cols) (hn:n<=16384) {i:Int} (i0:0<=i) (i1:i<(rest.length:Int)):(0<=rest.getD i.toNat 0/\rest.getD i.toNat 0<((cols.length:Nat):Int))/\(rest.getD i.toNat 0).toNat<n/\(cols.getD (rest.getD i.toNat 0).toNat []).length<=9223372036854775807/\rest.getD i.toNat 0∈rest:=by
 have u:rest.getD i.toNat 0∈rest:=B9 (by omega);obtain⟨c0,c1⟩:=h.crange u;have:=h.colLen u;rw[h.lcols];exact⟨⟨c0,c1⟩,by omega,by omega,u⟩
set_option maxHeartbeats 4000000
def EZ (x:A2 R0.args) (hw:awf R0.args x) (hp:R0.pre x):Jn x:=by
 obtain⟨⟨R,C,D⟩,_⟩:=x;have dx:A7o (R,C,D):=TK hw.1.2.2.2;change Int at R C;change List (List D3)at D;obtain⟨s0,cb,hs,eh,ac⟩:=hp;simp only[Jn];refine⟨trivial, ?_⟩;rintro⟨r,_⟩ _ hr;simp only at hr⊢;by_cases hv:G3 (R,C,D)
 case neg=>
  have hr:r=false:=by rw[hr];exact rI hv
  rw[hr];exact⟨fun _=>⟨fun _=>⟨rfl,trivial⟩,fun h=>absurd h hv⟩,fun h=>(by cases h)⟩
 have hr:r=true:=by rw[hr];exact rD hv
 rw[hr];obtain⟨v1,v2,v3,v4,v5,v6⟩:=id hv;simp only at v1 v2 v3 v4 v5 v6;refine⟨fun h=>(by cases h),fun _=>⟨fun bm=> ?_,fun c2=> ?_⟩⟩
 . have bm:=qA bm;exact⟨fun h=>absurd hv h,fun _=>⟨fun _=>⟨rfl,trivial⟩,fun h=>absurd h bm⟩⟩
 have c2:R=C:=rB (qB c2);subst c2;obtain⟨n,rfl⟩:∃n:Nat,R=(n:Int):=⟨R.toNat,by omega⟩;have ac:sK s0 (n-1)<=K1:=ac hv rfl;simp only[qK];have c8:0<=(n:Int)/\(n:Int)<=(n:Int)/\8*(n:Int)<=281474976710656/\(n:Int)<=9223372036854775807:=⟨by omega,qG _,by omega,by omega⟩;have bf:0<=(n:Int)/\(n:Int)<=(n:Int)/\24*(n:Int)<=281474976710656/\(n:Int)<=9223372036854775807:=⟨by omega,qG _,by omega,by omega⟩;refine⟨c8,c8,bf,bf,c8,bf,bf,c8,c8,KG n,fun p=>((n:Int)-p.1).toNat,KG.init, ?_⟩;rintro⟨t,⟨cols,dd⟩,left,_⟩ _ hm;change Int at t;change List S0 at cols;simp only;have bk:=hm.1;have cy:=hm.2.1;have dy:cols.length=n:=hm.2.2.1;have dz:left.length=n:=hm.2.2.2.2.2.1;simp only at bk cy;refine⟨fun ht=> ?_,fun ht=> ?_⟩
 . have ht:=qA ht;rw[wv (by omega)];exact⟨⟨bk,by omega⟩,⟨bk,by omega⟩,hm.next ht,by omega⟩
 have ht:=qB ht;have c9:(n:Int)<=t:=by omega
 have fh:(D.length:Int)=(n:Int):=v5;refine⟨FO n D,fun p=>((n:Int)-p.1).toNat,FO.init hm c9, ?_⟩;rintro⟨u,rs,⟨cols1,cj⟩,_⟩ _ ar;change Int at u;change List (List D3)at rs;change List S0 at cols1;simp only;have ag:=ar.1;have bu:=ar.2.1;have da:rs.length=n:=ar.2.2.1;simp only at ag bu;refine⟨fun hu=> ?_,fun hu=> ?_⟩
 . have hu:=qA hu;have ei:u<(n:Int):=by omega
   have c7:=H1 (d:=([]:List D3)) ag hu;rw[iD ag hu]at c7⊢;have ce:=v6 _ c7;have ae:=A2y hv hs c7;refine⟨⟨ag,hu⟩, .inl ⟨ae.1,fun e he=>G6 (ae.2.1 e he) eh,ae.2.2⟩, ?_⟩;rintro⟨w,_⟩ _ hw;change List D3 at w;simp only at hw⊢;refine⟨⟨ag,by omega⟩,PU n (fun i=>A8 (D.getD i [])) u (D.getD u.toNat []),fun p=>(((D.getD u.toNat []).length:Int)-p.1).toNat,ar.row, ?_⟩;rintro⟨t2,⟨cols2,ck⟩,_⟩ _ hf;change Int at t2;change List S0 at cols2;simp only;have dt:=hf.1;have du:=hf.2.1;simp only at dt du;have dc:∀e∈D.getD u.toNat [],0<=e.1/\e.1<(n:Int):=fun e he=>⟨(ce.2 e he).1,(ce.2 e he).2.1⟩
   have e7:=ae.2.2;refine⟨fun h2=> ?_,fun h2=> ?_⟩
   . have h2:=qA h2;rw[wv (by omega)];obtain⟨q1,q2,q3⟩:=hf.rng dc h2;exact⟨q1,q2,q3,hf.next dc h2,by omega⟩
   . have h2:=qB h2;rw[wv (by omega)];exact⟨ar.next ei ce hw hf (by omega),by omega⟩
 have hu:=qB hu;have cz:(n:Int)<=u:=by omega
 refine⟨B7k n ((n:Int),(n:Int),D),fun p=>((n:Int)-p.1).toNat,B7k.init hv dx rfl rfl hm c9 ar cz, ?_⟩;clear hm bk cy dy dz ar ag bu da ht c9 hu cz;rintro⟨k,rest,P,Q,place,rows,⟨lower,ff⟩,⟨cols,dd⟩,_⟩ _ ⟨k0,k1,hE,f1,f2⟩;change Int at k;change List Int at rest P Q place;change List (List D3)at rows lower;change List S0 at cols;simp only at k0 k1 hE f1 f2⊢;have a5:=hE s0 cb hs;refine⟨fun hk=> ?_,fun hk=> ?_⟩
 . have hk:=qA hk;have c6:k.toNat<n:=by omega
   have b7:sK s0 k.toNat<=K1:=rA (DJ (by omega)) ac;have ee:=a5.more c6;have a9:=a5.lrows;have bb:=a5.llow;have ax:=a5.lcols;have fo:rest.length<=n:=DG a5.rnd fun x hx=>a5.crange hx
   refine⟨C6h n ((n:Int),(n:Int),D) rest rows lower cols,⟨B9b n rest cols,⟨C2n n rest cols,fun q=>((rest.length:Int)-q.2.1).toNat,⟨qG _,by simp only;omega,qG _,by simp only;omega,rfl,f2⟩, ?_⟩, ?_⟩, ?_⟩
   . rintro⟨b,j,⟨ab,dd'⟩,_⟩ _ ⟨b0,b1,j0,j1,rfl,f3⟩;change Int at b j;simp only at b0 b1 j0 j1 f3⊢;refine⟨fun hj=> ?_,fun hj=>⟨b0,b1,rfl,f3⟩⟩;have hj:=qA hj;obtain⟨a1,a2,a3,a4⟩:=a5.cnt (by omega) j0 hj;obtain⟨d1,d2,d3,d4⟩:=a5.cnt (by omega) b0 b1;simp only[LB];refine⟨B9b n rest ab,⟨⟨j0,hj⟩,a1,f3 _ a2,a3,⟨b0,b1⟩,d1,f3 _ d2,d3,fun _=>⟨j0,hj,rfl,f3⟩,fun _=>⟨b0,b1,rfl,f3⟩⟩, ?_⟩;rintro⟨b',⟨cols2,ck⟩,_⟩ _ ⟨b2,b3,rfl,f4⟩;change Int at b';simp only at b2 b3 f4⊢;obtain⟨e1,e2,e3,e4⟩:=a5.cnt (by omega) b2 b3;rw[wv (by omega)];exact⟨⟨b2,b3⟩,e1,f4 _ e2,e3,fun _=>⟨b2,b3,rfl,f4⟩,fun _=>⟨⟨b2,b3,by simp only;omega,by simp only;omega,rfl,f4⟩,by omega⟩⟩
   . rintro⟨b,⟨ab,dd'⟩,_⟩ _ ⟨b0,b1,rfl,f3⟩;change Int at b;simp only at b0 b1 f3⊢;obtain⟨a1,a2,a3,a4⟩:=a5.cnt (by omega) b0 b1;simp only[LB];refine⟨⟨b0,b1⟩,a1,f3 _ a2,a3,fun h0=> ?_,fun h0=> ?_⟩
     . have h0:=qA h0;exact⟨rfl,rfl,f1,rfl,f3,fun _=>a5.stuck a4 (qQ (g3r.1 h0)),fun h=>(by cases h)⟩
     have h0:=qB h0;rw[wv (by omega)];simp only[qK,tT];rw[show(b+1).toNat=b.toNat+1 from by omega];have ba:b.toNat+(List.drop (b.toNat+1) rest).length<=n:=by rw[sR];omega
     generalize hc:rest.getD b.toNat 0=c at*;obtain⟨c0,c1⟩:=a5.crange a4;have aq:=a5.pick (b:=b.toNat) (by omega);rw[hc]at aq;refine⟨⟨b0,b1⟩,C6i n rest b.toNat rows lower ab,⟨⟨qG _,b0,by omega⟩,⟨by omega,by omega,qG _⟩,⟨⟨by omega,by omega⟩,rfl,rfl,rfl,f1,rfl,f3⟩,⟨by omega,by omega⟩,rfl,rfl,rfl,f1,rfl,f3⟩, ?_⟩;rintro⟨ci,be,⟨df,et⟩,⟨cols2,ck⟩,_⟩ _ ⟨g1,rfl,rfl,g2,rfl,g3⟩;change List Int at ci;simp only at g1 g2 g3⊢;obtain⟨fk,co⟩:=a5.col c a4;have ef:∀y:Int×Bool,y∈cols2.getD c.toNat []->0<=y.1/\y.1<(be.length:Int):=fun y hy=>by
      obtain⟨x0,x1,_⟩:=(co y.1).1 (nQ hy);rw[a9];exact⟨x0,x1⟩
     have bm:0<(cols2.getD c.toNat []).length:=by
      rcases vF (cols2.getD c.toNat []).length with hz|hz
      . exact absurd (g3r.2 hz) h0
      . exact hz
     have bx:c<(cols2.length:Int):=by rw[ax];exact c1
     refine⟨C6r n cols2 c,⟨⟨c0,bx⟩,g3 _ a2,C6q (cols2.getD c.toNat []),fun q=>q.2.1.2.length,⟨rfl,fun y hy=>hy, .inl ⟨by show(-1:Int)<0;decide,rfl⟩⟩, ?_⟩, ?_⟩
     . rintro⟨i,⟨es,left⟩,_⟩ _ ⟨rfl,i1,i2⟩;change Int at i;change S0 at left;simp only at i1 i2⊢;refine⟨fun hl=>⟨fun h=>(by cases h),fun _=>⟨?_,LB _ _ _,g3⟩⟩,fun l1 y l2 hl=>⟨fun _=> ?_,fun h=>(by cases h)⟩⟩
       . rcases i2 with⟨_,i2⟩ |i2
         . rw[hl]at i2;simp only[wX]at i2;omega
         . exact i2
       have hy:=ef y (i1 y (by rw[hl];simp));have ej:y.1∈Q8 (cols2.getD c.toNat []):=nQ (i1 y (by rw[hl];simp));have bv:∀z∈l1++l2,z∈cols2.getD c.toNat []:=fun z hz=>i1 z (by
        rw[hl];rcases qU.1 hz with hz|hz
        . exact sN _ hz
        . exact tJ _ (qL _ hz))
       have ay:(l1++l2).length<left.length:=by rw[hl,rM,rM,rH];omega
       have aj:¬i<0->i∈Q8 (cols2.getD c.toNat [])/\0<=i/\i<(be.length:Int):=fun h=>by
        rcases i2 with⟨h2,_⟩ |h2
        . exact absurd h2 h
        . obtain⟨x0,x1,_⟩:=(co i).1 h2;rw[a9];exact⟨h2,x0,x1⟩
       have e0:∀ {q:Bool},L7 (decide (i<0)) true q=false->¬i<0:=fun {q} h h2=>by
        rw[rD h2]at h;cases h
       refine⟨fun _=>hy,fun h=>(aj (qB h)).2,fun _=>hy,fun h=>(aj (e0 h)).2,fun _=>⟨⟨rfl,bv, .inr ej⟩,ay⟩,fun h=>⟨⟨rfl,bv, .inr (aj ?_).1⟩,ay⟩⟩;intro h2;rw[rD h2]at h;cases h
     . rintro⟨i,⟨dj,f0⟩,_⟩ _ ⟨i1,rfl,i3⟩;exact⟨rfl,rfl,g2,rfl,i3,fun h=>(by cases h),fun _=>⟨a4,i1,g1▸aq.1,g1▸aq.2⟩⟩
   . rintro⟨r,c,ok,ch,a0,⟨a6,b6⟩,⟨ab,dd'⟩,_⟩ _ ⟨rfl,rfl,f3,rfl,f4,n1,n2⟩;change Int at r c;change Bool at ok;change List Int at ch;simp only at f3 f4 n1 n2⊢;cases ok with
     |false=>exact⟨fun _=>⟨fun h=>absurd hv h,fun _=>⟨fun h=>absurd rfl h,fun _=>⟨fun _=>⟨rfl,trivial⟩,fun h=>absurd h (n1 rfl)⟩⟩⟩,fun h=>(by cases h)⟩
     |true=>
     obtain⟨hc,hr,ec,ed⟩:=n2 rfl;obtain⟨c0,c1⟩:=a5.crange hc;obtain⟨r0,r1,r2,r3⟩:=a5.row hc hr;have dn:=a5.lP;have fi:=a5.lQ;have bq:=a5.lpl;refine⟨fun h=>(by cases h),fun _=> ?_⟩;have p1:0<=k/\k<(P.length:Int):=⟨k0,by omega⟩;have p2:0<=k/\k<(Q.length:Int):=⟨k0,by omega⟩;have p3:0<=c/\c<(place.length:Int):=⟨c0,by omega⟩;refine⟨fun q=>q.1=P.set k.toNat r/\q.2.1=Q.set k.toNat c/\q.2.2.1=place.set c.toNat k,⟨p1,⟨p2,p3,rfl,rfl,rfl⟩,p2,p3,rfl,rfl,rfl⟩, ?_⟩;rintro⟨P',Q',az,_⟩ _ ⟨e1,e2,e3⟩;simp only at e1 e2 e3⊢;have bd:eM K1 (a0.getD r.toNat []):=a5.okRow b7 (by omega) (by omega);have ak:∀e∈a0.getD r.toNat [],0<=e.1/\e.1<(n:Int):=(a5.can r.toNat (by omega)).2.1;have d7:=(a5.can r.toNat (by omega)).2.2;have d6:Z9 a0 r.toNat c.toNat=A8 (a0.getD r.toNat []) c:=by unfold Z9;rw[show((c.toNat:Nat):Int)=c from by omega]
     rw[d6]at r3;generalize ca:a0.getD r.toNat []=pv at*;have ez:=bd.2.2;refine⟨⟨r0,by rw[a9];exact r1⟩,HE n rest (inC ab) r pv,fun p=>((pv.length:Int)-p.1).toNat,⟨qG _,qD _,ax,f4,fun j hj=>⟨a5.crange hj,lV ⟨(a5.col j hj).1,fun x=>yH⟩⟩⟩, ?_⟩;rintro⟨t,⟨cols1,cj⟩,_⟩ _ a7;change Int at t;change List S0 at cols1;simp only;have t0:=a7.1;have t1:=a7.2.1;simp only at t0 t1;refine⟨fun ht=> ?_,fun ht=> ?_⟩
     . have ht:=qA ht;rw[wv (by omega)];obtain⟨q1,q2,q3⟩:=a7.rng ak ht;exact⟨q1,q2,q3,a7.next ak ht,by omega⟩
     have ht:=qB ht;have c3:∀s,1<=s->Gx s ((n:Int),(n:Int),D)->CI n k.toNat (sK s k.toNat) rest P a0 a6 r c [] a0 a6 cols1:=fun s q1 q2=>CI.init (hE s q1 q2) hc hr a7.2.2.1 fun j hj=>by
      have h5:=(a7.2.2.2.2 j hj).2;simp only at h5;rw[D8 (show(pv.length:Int)<=t by omega)]at h5;rw[ca];exact h5
     have f5:kG n cj:=a7.2.2.2.1;have dw:cols1.length=n:=a7.2.2.1;clear a7;obtain⟨c5,bi⟩:=(c3 s0 cb hs).col c hc;have cu:∀x∈Q8 (cols1.getD c.toNat []),0<=x/\x<(n:Int):=fun x hx=>⟨((bi x).1 hx).2.1,((bi x).1 hx).2.2.1⟩
     have cr:(Q8 (cols1.getD c.toNat [])).length<=n:=DG c5 cu;refine⟨bd, ?_⟩;rintro⟨v,_⟩ _ cc;change B7 at v;simp only at cc⊢;have cd:qs (sK s0 k.toNat) (A8 pv c):=d7 c;refine⟨by rw[cc];exact N0 (D7 cd b7) (by decide), ?_⟩;rintro⟨cg,fp,_⟩ _ af;change B7 at cg;simp only at af⊢;rw[cc,F9]at af;obtain⟨af,_⟩:=af.2 r3;have bx:c<(cols1.length:Int):=by rw[dw];exact c1
     refine⟨C6p n cols1 c,⟨⟨c0,bx⟩,f5 _ (by omega),C6o (cols1.getD c.toNat []),fun q=>q.2.1.2.length,⟨rfl,wS _⟩, ?_⟩, ?_⟩
     . rintro⟨bw,⟨es,left⟩,_⟩ _ ⟨rfl,i2⟩;change List Int at bw;change S0 at left;simp only at i2⊢;refine⟨fun hl=>⟨fun h=>(by cases h),fun _=>⟨?_,LB _ _ _,f5⟩⟩,fun l1 y l2 hl=>⟨fun _=> ?_,fun h=>(by cases h)⟩⟩
       . subst hl;rw[show Q8 []= []from rfl,vQ]at i2;exact i2
       subst hl;have d5:(bw++ [y.1]++Q8 (l1++l2)).Perm (Q8 (cols1.getD c.toNat [])):=by
        refine List.Perm.trans ?_ i2;rw[uD];refine g2v bw ?_;unfold Q8;rw[uE,uE,rU,List.singleton_append];exact List.perm_middle.symm
       have dp:=d5.length_eq;rw[rM,rM,qZ]at dp;have ay:(l1++l2).length<(l1++y::l2).length:=by rw[rM,rM,rH];omega
       exact⟨⟨by rw[qZ];omega,by rw[qZ];omega⟩,⟨rfl,d5⟩,ay⟩
     rintro⟨aa,⟨dk,fd⟩,_⟩ _ ⟨h6,rfl,f6⟩;change List Int at aa;simp only at h6 f6⊢;have e8:aa.Nodup:=h6.nodup_iff.2 c5;have d0:∀x,x∈aa↔x≠r/\0<=x/\x<(n:Int)/\(∀a,a<k.toNat->x.toNat≠ix P a)/\Z9 a0 x.toNat c.toNat≠0:=fun x=>by rw[h6.mem_iff];exact bi x
     have e7:aa.length<=n:=by
      rw[h6.length_eq];exact cr
     refine⟨N4 n ((n:Int),(n:Int),D) k.toNat rest P a0 a6 r c aa,fun q=>((aa.length:Int)-q.1).toNat,⟨qG _,qD _,c3,f3,f6⟩, ?_⟩;clear c3 c5 bi cu cr h6;rintro⟨u,au,⟨ai,cn⟩,⟨ao,fe⟩,_⟩ _ ⟨u0,u1,hG,f7,f8⟩;change Int at u;simp only at u0 u1 hG f7 f8⊢;have ap:=hG s0 cb hs;refine⟨fun hu=> ?_,fun hu=> ?_⟩
     . have hu:=qA hu;have dv:aa.getD u.toNat 0∈aa:=B9 (by omega);have c4:aa.getD u.toNat 0∉aa.take u.toNat:=fun hh=>by
        obtain⟨a,ha,b4⟩:=uB.1 hh;rw[qW]at ha;rw[g1o,I0 _ _ (show u.toNat<aa.length by omega)]at b4;have:=(wN e8).1 b4;omega
       have db:=Gk (d:=(0:Int)) u0 hu;rw[E5 u0 hu]at db;obtain⟨i1,i2,i3,i4,i5⟩:=(d0 _).1 dv;generalize aa.getD u.toNat 0=i at*;have ah:i.toNat<n:=by omega
       have cp:((i.toNat:Nat):Int)=i:=by omega
       have eg:au.getD i.toNat []=a0.getD i.toNat []:=ap.ru _ ah (by rw[cp];exact c4);have cw:ai.getD i.toNat []=a6.getD i.toNat []:=by rw[ap.lo _ ah,qO (by rw[cp];exact c4)]
       have ba:=a5.lowLen ah;have fg:=a5.two (i:=r.toNat) (j:=i.toNat) (by omega) ah (by omega) r2 i4;have ae:=a5.okRow b7 (by omega) ah;have d9:=(a5.can _ ah).2.2;have aj:0<=i/\i<(au.length:Int):=⟨i2,by rw[ap.lrows];exact i3⟩;have cq:0<=i/\i<(ai.length:Int):=⟨i2,by rw[ap.llow];exact i3⟩;have dr:i.toNat∉cn:=f7 _ ah;rw[eg,cw];have dq:Z9 a0 i.toNat c.toNat=A8 (a0.getD i.toNat []) c:=by unfold Z9;rw[show((c.toNat:Nat):Int)=c from by omega]
       have fj:4*sK s0 k.toNat+1<=K1:=rA (show sK s0 (k.toNat+1)<=sK s0 (n-1)from DJ (by omega)) ac;have e9:qs (sK s0 k.toNat+sK s0 k.toNat) (A8 (a0.getD i.toNat []) c/A8 pv c):=ON (d9 c) cd;have F:∀(am:QQ×Unit),Qb am.1/\True->am.1=rc (A8 (a0.getD i.toNat []) c)->(D1 am.1/\D1 cg)/\∀(b5:QQ×Unit),Qb b5.1/\True->b5.1=rc (rv am.1*rv cg)->C2t (A8 (a0.getD i.toNat []) c/A8 pv c) (b5.1.1.1,b5.1.1.2,b5.1.2,()):=fun am _ h1=>by
        refine⟨⟨by rw[h1];exact N0 (D7 (d9 c) b7) (by decide),by rw[af];exact N0 (D7 (B4g cd) b7) (by decide)⟩,fun b5 _ h3=> ?_⟩;rw[h1,af,F9,F9, <-tY]at h3;exact h3
       refine⟨⟨u0,hu⟩,C2t (A8 (a0.getD i.toNat []) c/A8 pv c),⟨aj,⟨ae,fun am w h=>⟨F am w h,F am w h⟩⟩,ae,F⟩, ?_⟩;rintro⟨fa,fb,fc,_⟩ _ b9;change Bool at fa;change List Int at fb fc;have b9:((fa,fb),fc)=rc (A8 (a0.getD i.toNat []) c/A8 pv c):=b9;simp only;rw[b9];refine⟨fun q=>q.1.1=ai.set i.toNat (a6.getD i.toNat []++ [(k,rc (A8 (a0.getD i.toNat []) c/A8 pv c))])/\kG n q.1.2, ?_, ?_⟩
       . have L1:((a6.getD i.toNat []).length+ [(k,rc (A8 (a0.getD i.toNat []) c/A8 pv c))].length)*64<=140737488355328/\(a6.getD i.toNat []).length+ [(k,rc (A8 (a0.getD i.toNat []) c/A8 pv c))].length<=9223372036854775807:=by
          have hz:∀z:Nat,z<=n->(z+1)*64<=140737488355328/\z+1<=9223372036854775807:=fun z hz=>⟨by omega,by omega⟩
          exact hz _ (rA ba (by omega))
         repeat' apply And.intro
         all_goals first
          |exact cq.1
          |exact cq.2
          |exact dr
          |exact L1.1
          |exact L1.2
          |exact rfl
          |exact f7
          |exact True.intro
       rintro⟨⟨di,ew⟩,_⟩ _ ⟨cv,f9⟩;simp only at cv f9⊢;have d8:qs K1 (A8 (a0.getD i.toNat []) c/A8 pv c):=D7 e9 (by omega);refine⟨aj,N0 d8 (by decide), ?_⟩;rintro⟨ng,_⟩ _ bn;change B7 at ng;simp only at bn⊢;rw[F9]at bn;refine⟨⟨ae,by rw[bn];exact Pe (YC d8),bd⟩, ?_⟩;rintro⟨nw,_⟩ _ ad;change List D3 at nw;simp only at ad⊢;have ad:TH (fun j=>A8 (a0.getD i.toNat []) j-A8 (a0.getD i.toNat []) c/A8 pv c*A8 pv j) nw:=⟨ad.1,fun j=>(ad.2 j).trans (by dsimp only;rw[bn,F9,Rat.neg_mul, <-tF])⟩;have bp:∀e∈nw,0<=e.1/\e.1<(n:Int):=fun e he=>rB fun hh=>by
        refine(ad.1.2 e he).1 ?_;rw[<-T9 ad.1.1 he];refine(ad.2 e.1).trans ?_;dsimp only;rw[E9 (v:=a0.getD i.toNat []) (i:=e.1) fun y hy cf=>hh (by rw[<-cf];exact(a5.can _ ah).2.1 y hy),E9 (v:=pv) (i:=e.1) fun y hy cf=>hh (by rw[<-cf];exact ak y hy),tZ,tF,wR,rO]
       have fl:nw.length<=n:=by
        have:=Jo (n:=(n:Int)) (v:=nw) ⟨ad.1.1,fun e he=>⟨(bp e he).1,(bp e he).2,(ad.1.2 e he).1⟩⟩;omega
       refine⟨aj,HE n rest (inC ao) i pv,fun p=>((pv.length:Int)-p.1).toNat,⟨qG _,qD _,ap.lcols,f8,fun j hj=>⟨a5.crange hj,lV ⟨(ap.col j hj).1,fun x=>yH⟩⟩⟩, ?_⟩;rintro⟨t2,⟨av,ep⟩,_⟩ _ a7;change Int at t2;change List S0 at av;simp only;have ek:=a7.1;have em:=a7.2.1;simp only at ek em;refine⟨fun ht=> ?_,fun ht=> ?_⟩
       . have ht:=qA ht;rw[wv (by omega)];obtain⟨q1,q2,q3⟩:=a7.rng ak ht;exact⟨q1,q2,q3,a7.next ak ht,by omega⟩
       have ht:=qB ht;have bt:∀j:Int,j∈rest->lT (inC ao) i pv j (av.getD j.toNat []):=fun j hj=>by
        have h5:=(a7.2.2.2.2 j hj).2;simp only at h5;rwa[D8 (show(pv.length:Int)<=t2 by omega)]at h5
       rw[show(au.set i.toNat nw).getD i.toNat []=nw from B4 (by rw[ap.lrows];exact ah)];refine⟨by rw[qJ];exact aj,dL n rest (fun j x=>inC ao j x/\¬(x=i/\∃e∈pv,e.1=j)) i nw,fun p=>((nw.length:Int)-p.1).toNat,⟨qG _,qD _,a7.2.2.1,a7.2.2.2.1,fun j hj=>⟨a5.crange hj,B0p ⟨(bt j hj).1,(bt j hj).2⟩⟩⟩, ?_⟩;rintro⟨t3,⟨aw,er⟩,_⟩ _ a8;change Int at t3;change List S0 at aw;simp only;have en:=a8.1;have eo:=a8.2.1;simp only at en eo;refine⟨fun ht=> ?_,fun ht=> ?_⟩
       . have ht:=qA ht;rw[wv (by omega)];obtain⟨q1,q2,q3⟩:=a8.rng bp ht;exact⟨q1,q2,q3,a8.next bp ht,by omega⟩
       have ht:=qB ht;rw[wv (by omega)];refine⟨⟨by simp only;omega,by simp only;omega,fun s q1 q2=> ?_,f9,a8.2.2.2.1⟩,by omega⟩;have e6:=CI.next (hE s q1 q2) hc hr (hG s q1 q2) i2 i3 i1 i4 c4 (q:=A8 (a0.getD i.toNat []) c/A8 pv c) (by rw[dq,d6]) (nw:=nw) (by rw[ca];exact ad) (cols2:=aw) a8.2.2.1 fun j hj=>by
        have h5:=(a8.2.2.2.2 j hj).2;simp only at h5;rw[D8 (show(nw.length:Int)<=t3 by omega)]at h5;rw[ca];exact h5
       simp only;rw[db,cv, <-cw];rwa[show((k.toNat:Nat):Int)=k from by omega]at e6
     . have hu:=qB hu;rw[wv (by omega)];refine⟨⟨by simp only;omega,by simp only;omega,fun s q1 q2=> ?_,f7,f8⟩,by omega⟩;have hg:=hG s q1 q2;rw[D8 (by omega)]at hg;have ds:=CI.done (hE s q1 q2) hc hr hg rfl d0 ec ed;simp only;rw[show(k+1).toNat=k.toNat+1 from by omega,e1,e2,e3];rwa[show((k.toNat:Nat):Int)=k from by omega]at ds
 . have hk:=qB hk;have c6:k=(n:Int):=by omega
   subst c6;simp only[qK]at hE a5;have a9:=a5.lrows;have bb:=a5.llow;have dn:=a5.lP;have bs:=a5.places;refine⟨C6j n P place rows lower,fun q=>((n:Int)-q.2.1).toNat,⟨rfl,qG _,qD _,rJ,rJ,rfl,fun m hm=> .inl (g4z fun h=>f1 m h hm),fun a ha=>by simp only at ha;omega,fun a ha=>by simp only at ha;omega⟩, ?_⟩;rintro⟨az,j,L,U,⟨a6,b6⟩,_⟩ _ ⟨rfl,j0,j1,lL,lU,rfl,bz,hL,hU⟩;change Int at j;change List (List D3)at L U;simp only at j0 j1 lL lU bz hL hU⊢;refine⟨fun hj=> ?_,fun hj=> ?_⟩
   . have hj:=qA hj;have a8:j.toNat<n:=by omega
     have dm:P.getD j.toNat 0=(ix P j.toNat:Int):=a5.P0 _ a8;have bj:=a5.elim.plt _ a8;have ba:=a5.lowLen bj;have e5:ix P j.toNat∉b6:=fun hm=>by
      rcases bz _ hm with h| ⟨a,ha,b4⟩
      . omega
      . have:=a5.elim.pinj _ _ a8 (show a<n by omega) b4;omega
     have ae:=a5.okFin (by omega) a8 (rA (DJ (by omega)) ac);rw[dm];simp only[qK];have q1:0<=j/\j<(P.length:Int):=⟨j0,hj⟩;have q2:0<=(ix P j.toNat:Int)/\(ix P j.toNat:Int)<(a6.length:Int):=⟨qD _,by rw[bb];exact sF.2 bj⟩;have q3:0<=j/\j<(L.length:Int):=⟨j0,by rw[lL];omega⟩;have hz:∀z:Nat,z<=n->(z+1)*64<=140737488355328/\z+1<=9223372036854775807:=fun z hz=>⟨by omega,by omega⟩
     refine⟨q1,fun q=>q.1=L.set j.toNat (a6.getD (ix P j.toNat) []++ [(j,rc 1)])/\q.2.1.1=a6/\q.2.1.2=ix P j.toNat::b6, ?_, ?_⟩
     . repeat' first
        |exact e5
        |exact True.intro
        |exact q1.1
        |exact q1.2
        |exact q2.1
        |exact q2.2
        |exact q3.1
        |exact q3.2
        |exact rfl
        |exact(hz _ (rA ba (rC _))).1
        |exact(hz _ (rA ba (rC _))).2
        |apply And.intro
        | (rintro⟨r,_⟩ _ hr
           have hr:r=rc 1:=hr.trans (Jy 1);subst hr)
     rintro⟨L4,⟨dh,eu⟩,_⟩ _ ⟨g1,g2,g3⟩;simp only at g1 g2 g3⊢;refine⟨⟨q2.1,by rw[a9];exact sF.2 bj⟩,⟨ae,by rw[a5.lpl];omega⟩, ?_⟩;rintro⟨w,fq,_⟩ _ bc;change List D3 at w;simp only at bc⊢;have bq:=a5.lpl;obtain⟨de,_⟩:=bc (by rw[bq];exact bs.1) fun i hi=>by
      rw[bq];obtain⟨e,he,rfl⟩:=CR hi;exact(a5.can _ bj).2.1 e he
     rw[bq]at de;rw[wv (by omega)];refine⟨⟨j0,by rw[lU];omega⟩,⟨rfl,by simp only;omega,by simp only;omega,by simp only;rw[g1,qJ];exact lL,by simp only;rw[qJ];exact lU,g2,fun m hm=> ?_,fun a ha=> ?_,fun a ha=> ?_⟩,by omega⟩
     . simp only at hm⊢;rw[g3]at hm;rcases qR.1 hm with h|h
       . exact .inr ⟨j.toNat,by omega,h⟩
       . rcases bz m h with h| ⟨a,ha,b4⟩
         . exact .inl h
         . exact .inr ⟨a,by omega,b4⟩
     . simp only at ha⊢;rw[g1];by_cases b8:a=j.toNat
       . subst b8;rw[B4 (by rw[lL];exact a8),show((j.toNat:Nat):Int)=j from by omega]
       . rw[D4 b8];exact hL a (by omega)
     . simp only at ha⊢;by_cases b8:a=j.toNat
       . subst b8;rw[B4 (by rw[lU];exact a8)];exact de
       . rw[D4 b8];exact hU a (by omega)
   . have hj:=qB hj;have a8:j=(n:Int):=by omega
     subst a8;have bg:∀a,a<n->L.getD a []=a6.getD (ix P a) []++ [((a:Int),rc 1)]:=fun a ha=>hL a (by omega)
     have bh:∀a,a<n->TH (fun i=>if 0<=i/\i<(n:Int)then A8 (rows.getD (ix P a) []) ((List.idxOf i az:Nat):Int)else 0) (U.getD a []):=fun a ha=>hU a (by omega)
     have hd:=a5.done (by omega) lL lU bg bh;exact⟨fun h=>absurd hv h,fun _=>⟨fun h=>absurd rfl h,fun _=>⟨fun h=>absurd a5.elim.nonsing h,fun _=>⟨hd.1,trivial,(a5.cans lL lU bg bh).1,(a5.cans lL lU bg bh).2,fun s q1 q2 a b ha=>(hE s q1 q2).sizes (fun a=>rA q1 (C6s a)) bg bh ha b,hd.2⟩⟩⟩⟩
def JE:An:= {}
abbrev C4d:=(List Int×List Int×MM×Int×Int×List (List EE))×List QQ×Unit
def Pg:A2 Ag.args->Prop:=fun(x:C4d)=>let e:=(4:Int);let d:=(1:Int);let c:=(0:Int);let b:=(↑x.1.1.length:Int);let a:=(x.1.1.length:Int);let f:Prop:=((x.2.1.length:Int)≠a);(c<=a/\a<=(16384:Int)/\Gx K1 x.1.2.2.1/\Gx K1 x.1.2.2.2)/\Tv fun r=>(r.1=true↔Da x.1 a)->(iB ((!r.1)) ((¬Da x.1 b->d=d)/\(Da x.1 b->(x.2.1.length≠x.1.1.length->d=e)/\(x.2.1.length=x.1.1.length->d=c))) ((iB (decide f) ((¬Da x.1 b->e=d)/\(Da x.1 b->(x.2.1.length≠x.1.1.length->e=e)/\(x.2.1.length=x.1.1.length->e=c))) ((¬Da x.1 b->c=d)/\(Da x.1 b->(x.2.1.length≠x.1.1.length->c=e)/\(x.2.1.length=x.1.1.length->c=c))))))
def RR:An:= {loop:= [(12,⟨[1,2,7,8,9,30,31,55,56],[0],[(57,false,vI)],[],[(1, .row tQ 45)]⟩),(7,⟨[1,2,7,8,30],[0],[(31,false,vI)],[],[(1, .row tQ 45)]⟩),(24,⟨[2,7,8,13,15,16,80,81,95,96],[0,2],[(97,false,vI)],[],[(1, .row tQ 45)]⟩),(19,⟨[2,7,8,13,80],[0],[(81,false,vI)],[],[(1, .row tQ 45),(2, .row tQ 45)]⟩)],plan:= [(14,[5,7,10,12],[15],true,(pZ9 0 5 (.q 5 (.p 6 (.q 7 (.p 8 (.p 9 (.q 10 (.p 11 (.q 12 (.e 13 (.p 14 (.e 15 .done))))))))))))),(26,[5,7,10,12],[15],true,(pZ9 0 5 (.q 5 (.p 6 (.q 7 (.p 8 (.p 9 (.q 10 (.p 11 (.q 12 (.e 13 (.p 14 (.e 15 .done))))))))))))),(28,[5,9],[15],true,(pZ9 0 5 (.q 5 (pZ9 6 3 (.q 9 (.e 10 (pZ9 11 4 (.e 15 .done)))))))),(29,[2,5,9],[11],true,(.p 0 (.p 1 (.q 2 (.p 3 (.p 4 (.q 5 (pZ9 6 3 (.q 9 (.p 10 (.e 11 .done)))))))))))]}
abbrev C4x:=Int×List QQ×List QQ×Unit
abbrev Oi:=Int×List QQ×Unit
def Wm:A2 Dn.args->Prop:=fun(x:C4d)=>let M:=(1:Nat);let A:=(↑x.1.1.length:Int);let q:=(1:Int);let g:=(0:Int);let d:=(x.1.1.length:Int);let v:Prop:=(g<=d/\d<=d/\(↑(56:Nat):Int)*d<=(281474976710656:Int)/\d<=(9223372036854775807:Int));(List.length x.1.1<=16384/\Gx K1 x.1.2.2.1/\Gx K1 x.1.2.2.2)/\Bq fun r=>(¬Da x.1 d->r.1=q)/\(Da x.1 d->(List.length x.2.1≠List.length x.1.1->r.1=4)/\(List.length x.2.1=List.length x.1.1->r.1=g))->(iB (decide (r.1≠g)) ((¬Da x.1 A->Bb QQ= []/\r.1=q)/\(Da x.1 A->(x.2.1.length≠x.1.1.length->Bb QQ= []/\r.1=4)/\(x.2.1.length=x.1.1.length->r.1=g/\0=x.1.1.length/\(∀(e:QQ),e∈ []->e=rc (rv e))/\(∀(s T:Nat),M<=s->M<=T->Gx s x.1.2.2.1->Gx s x.1.2.2.2->Gj T x.2.1->Gj (hK s (gK s T x.1.1.length) x.1.1.length+s) [])/\∀(i:Nat),i<x.1.1.length->(C4 x.1.1.length fun(j:Nat)=>luM x.1 x.1.1.length i j*rv ([].getD (ix x.1.2.1 j) zr))=rv (x.2.1.getD (ix x.1.1 i) zr)))) (v/\∃(I:Oi->Prop),∃(μ: _->Nat),I (g,List.replicate d.toNat dQ,())/\∀(p:Oi),let E:=p.1.toNat;let m:=(gx [] x.1.2.2.1.2.2 p.1);let B:=(↑m.length:Int);let L:=(i64.wrap (B-q));let h:=(↑(List.drop g.toNat (List.take L.toNat m)).length:Int);(Ty.int i64).wf p.1/\MQ p.2.1/\True->I p->(iB (decide (p.1<d)) ((g<=p.1/\p.1<d)/\(g<=gx g x.1.1 p.1/\gx g x.1.1 p.1<(x.2.1.length:Int))/\(g<=p.1/\p.1<(p.2.1.length:Int))/\(g<=p.1/\p.1<(x.1.2.2.1.2.2.length:Int))/\(g<=g/\g<=i64.wrap (B-q)/\i64.wrap (B-q)<=B)/\∃(I_1:Oi->Prop),∃(a0: _->Nat),I_1 (g,List.set p.2.1 E (gx dQ x.2.1 (gx g x.1.1 p.1)),())/\∀(N:Oi),let K:=(List.getD N.2.1 E dQ);let F:=(i64.wrap (p.1+q),N.2.1,());let D:=(N.2.1.length:Int);let c:=(gx F5 (List.drop g.toNat (List.take L.toNat m)) N.1);let t:=(List.getD N.2.1 c.1.toNat dQ);(Ty.int i64).wf N.1/\MQ N.2.1/\True->I_1 N->(iB (decide (N.1<h)) ((g<=N.1/\N.1<h)/\(g<=p.1/\p.1<D)/\(g<=c.1/\c.1<D)/\(sz K1 K/\sz K1 c.2/\sz K1 t)/\G4 fun r=>let z:=(i64.wrap (N.1+q),List.set N.2.1 E r.1,());(rv t=(0:Rat)->r.1=List.getD N.2.1 E dQ)/\(rv t≠(0:Rat)->r.1=rc (rv K-rv c.2*rv t))->(g<=p.1/\p.1<D)/\I_1 z/\a0 z<a0 N) (I F/\μ F<μ p))) (v/\∃(I:C4x->Prop),∃(μ: _->Nat),I (g,p.2.1,List.replicate d.toNat dQ,())/\∀(p:C4x),let a:=(i64.wrap (d-q)-p.1);let k:=(i64.wrap a);let b:=(gx [] x.1.2.2.2.2.2 k);let J:=(gx F5 b g);let y:=(↑b.length:Int);let o:=(↑(List.drop q.toNat (List.take y.toNat b)).length:Int);(Ty.int i64).wf p.1/\MQ p.2.1/\MQ p.2.2.1/\True->I p->(iB (decide (p.1<d)) ((g<=i64.wrap a/\i64.wrap a<(x.1.2.2.2.2.2.length:Int))/\(g<=q/\q<=y/\y<=y)/\∃(I_1:Oi->Prop),∃(a0: _->Nat),I_1 (g,p.2.1,())/\∀(N:Oi),let G:=(N.2.1.length:Int);let w:=(List.getD N.2.1 k.toNat dQ);let l:Prop:=(g<=i64.wrap a/\i64.wrap a<G);let f:=(gx F5 (List.drop q.toNat (List.take y.toNat b)) N.1);let u:=(List.getD N.2.1 f.1.toNat dQ);(Ty.int i64).wf N.1/\MQ N.2.1/\True->I_1 N->(iB (decide (N.1<o)) ((g<=N.1/\N.1<o)/\l/\(g<=f.1/\f.1<G)/\(sz K1 w/\sz K1 f.2/\sz K1 u)/\G4 fun r=>let C:=(i64.wrap (N.1+q),List.set N.2.1 k.toNat r.1,());(rv u=(0:Rat)->r.1=List.getD N.2.1 k.toNat dQ)/\(rv u≠(0:Rat)->r.1=rc (rv w-rv f.2*rv u))->l/\I_1 C/\a0 C<a0 N) (l/\(g<=g/\g<y)/\(D1 w/\D1 J.2)/\∀(r:fO),let H:=(List.set N.2.1 k.toNat r.1);let n:=(i64.wrap (p.1+q),List.set N.2.1 k.toNat r.1,List.set p.2.2.1 (gx g x.1.2.1 k).toNat (H.getD k.toNat dQ),());Qb r.1/\True/\True->(rv J.2=(0:Rat)->r.2.1=false)/\(rv J.2≠(0:Rat)->r.1=rc (rv w/rv J.2)/\r.2.1=true)->l/\(g<=i64.wrap a/\i64.wrap a<(x.1.2.1.length:Int))/\(g<=i64.wrap a/\i64.wrap a<(↑H.length:Int))/\(g<=gx g x.1.2.1 k/\gx g x.1.2.1 k<(p.2.2.1.length:Int))/\I n/\μ n<μ p))) ((¬Da x.1 A->p.2.2.1= []/\g=q)/\(Da x.1 A->(x.2.1.length≠x.1.1.length->p.2.2.1= []/\g=(4:Int))/\(x.2.1.length=x.1.1.length->g=g/\List.length p.2.2.1=x.1.1.length/\(∀(e:QQ),e∈p.2.2.1->e=rc (rv e))/\(∀(s T:Nat),M<=s->M<=T->Gx s x.1.2.2.1->Gx s x.1.2.2.2->Gj T x.2.1->Gj (hK s (gK s T x.1.1.length) x.1.1.length+s) p.2.2.1)/\∀(i:Nat),i<x.1.1.length->(C4 x.1.1.length fun(j:Nat)=>luM x.1 x.1.1.length i j*rv (List.getD p.2.2.1 (ix x.1.2.1 j) zr))=rv (x.2.1.getD (ix x.1.1 i) zr)))))))))
end Go.Proofs.YthclcjfodjhmlaaGreat
