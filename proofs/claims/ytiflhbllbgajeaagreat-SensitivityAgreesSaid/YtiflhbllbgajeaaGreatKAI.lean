/- Part. -/
import Derived.Test.YtiflhbllbgajeaaGreatKAH
set_option linter.all false
namespace Go.Proofs.YtiflhbllbgajeaaGreat
open Go.Proofs.Tryz
open Go.Vc Go.Gw
open Go.IntKind (i64 u32)
def C9o (n:Nat) (M:Dn) (b:Xr) (rows c:List (List D6)) (a:List T6) (q:Int×Int×Bool×Xr×List (List D6)×NR×NB×Unit):Prop:=q.2.2.2.2.1=rows/\q.2.2.2.2.2.1.1=c/\mX n q.2.2.2.2.2.1.2/\q.2.2.2.2.2.2.1.1=a/\mX n q.2.2.2.2.2.2.1.2/\(q.2.2.1=false->¬nonsing n (el M))/\(q.2.2.1=true->q.2.1∈b/\q.1∈R8 (a.getD q.2.1.toNat [])/\q.2.2.2.1.Nodup/\∀x,x∈q.2.2.2.1↔x∈b/\x≠q.2.1)
def C1i (n:Nat) (b:Xr) (a:List T6) (q:Int×NB×Unit):Prop:=0<=q.1/\q.1<(b.length:Int)/\q.2.1.1=a/\mX n q.2.1.2
def C5x (n:Nat) (a:Xr) (b:List T6) (q:Int×Int×NB×Unit):Prop:=0<=q.1/\q.1<(a.length:Int)/\0<=q.2.1/\q.2.1<=(a.length:Int)/\q.2.2.1.1=b/\mX n q.2.2.1.2
def C9p (n:Nat) (a:Xr) (b:Nat) (rows d:List (List D6)) (c:List T6) (q:Xr×List (List D6)×NR×NB×Unit):Prop:=q.1=a.take b++a.drop (b+1)/\q.2.1=rows/\q.2.2.1.1=d/\mX n q.2.2.1.2/\q.2.2.2.1.1=c/\mX n q.2.2.2.1.2
def C9y (es:T6) (q:Int×(T6×T6)×Unit):Prop:=q.2.1.1=es/\(∀y∈q.2.1.2,y∈es)/\((q.1<0/\q.2.1.2.length=es.length)\/q.1∈R8 es)
def C9z (n:Nat) (a:List T6) (c:Int) (q:Int×NB×Unit):Prop:=q.1∈R8 (a.getD c.toNat [])/\q.2.1.1=a/\mX n q.2.1.2
def C9w (es:T6) (q:Xr×(T6×T6)×Unit):Prop:=q.2.1.1=es/\(q.1++R8 q.2.1.2).Perm (R8 es)
def C9x (n:Nat) (a:List T6) (c:Int) (q:Xr×NB×Unit):Prop:=q.1.Perm (R8 (a.getD c.toNat []))/\q.2.1.1=a/\mX n q.2.1.2
def J2 (n:Nat) (M:Dn) (k:Nat) (d P:Xr) (rows b:List (List D6)) (r c:Int) (a:Xr) (q:Int×List (List D6)×NR×NB×Unit):Prop:=0<=q.1/\q.1<=(a.length:Int)/\(∀s,1<=s->X0 s M->CI n k (sK s k) d P rows b r c (a.take q.1.toNat) q.2.1 q.2.2.1.1 q.2.2.2.1.1)/\mX n q.2.2.1.2/\mX n q.2.2.2.1.2
def C6b (x:Rat) (q:Bool×Xr×Xr×Unit):Prop:=((q.1,q.2.1),q.2.2.1)=rc x
def C9q (n:Nat) (P place:Xr) (rows b:List (List D6)) (q:Xr×Int×List (List D6)×List (List D6)×NR×Unit):Prop:=q.1=place/\0<=q.2.1/\q.2.1<=(n:Int)/\q.2.2.1.length=n/\q.2.2.2.1.length=n/\q.2.2.2.2.1.1=b/\(∀m∈q.2.2.2.2.1.2,n<=m\/∃a:Nat,(a:Int)<q.2.1/\m=ix P a)/\(∀a:Nat,(a:Int)<q.2.1->q.2.2.1.getD a []=b.getD (ix P a) []++ [((a:Int),rc 1)])/\∀a:Nat,(a:Int)<q.2.1->VO (fun i=>if 0<=i/\i<(n:Int)then A5 (rows.getD (ix P a) []) ((List.idxOf i place:Nat):Int)else 0) (q.2.2.2.1.getD a [])
def EI.okFin {n k:Nat} {S:Nat->Nat} {A:Nat->Nat->Rat} {g P Q place:Xr} {rows c:List (List D6)} {b:List T6} (h:EI n k S A g P Q place rows c b) (i:n<=16384) {a:Nat} (d:a<k) (f:S a<=K1):KP K1 (rows.getD (ix P a) []):=by
 obtain⟨b,c,_⟩:=h.can _ (h.elim.plt a d);have:=Gk (n:=(n:Int)) (v:=rows.getD (ix P a) []) ⟨b.1,fun e he=>⟨(c e he).1,(c e he).2,(b.2 e he).1⟩⟩;exact⟨b.1,NI b fun j=>F8 (h.fin a d j) f,by omega⟩
def EI.cnt {n k:Nat} {S:Nat->Nat} {A:Nat->Nat->Rat} {a P Q place:Xr} {rows c:List (List D6)} {b:List T6} (h:EI n k S A a P Q place rows c b) (d:n<=16384) {i:Int} (f:0<=i) (g:i<(a.length:Int)):(0<=a.getD i.toNat 0/\a.getD i.toNat 0<((b.length:Nat):Int))/\(a.getD i.toNat 0).toNat<n/\(b.getD (a.getD i.toNat 0).toNat []).length<=9223372036854775807/\a.getD i.toNat 0∈a:=by
 have b:a.getD i.toNat 0∈a:=B4 (by omega);obtain⟨a,c1⟩:=h.crange b;have:=h.colLen b;rw[h.lcols];exact⟨⟨a,c1⟩,by omega,by omega,b⟩
set_option maxHeartbeats 4000000
def IE (x:A2 O5.args) (c0:awf O5.args x) (fa:O5.pre x):Kd x:=by
 obtain⟨⟨R,C,D⟩,_⟩:=x;have f2:dW (R,C,D):=Wz c0.1.2.2.2;change Int at R C;change List (List D6)at D;obtain⟨a1,cr,bz,fk,b8⟩:=fa;simp only[Kd];refine⟨trivial, ?_⟩;rintro⟨u,_⟩ _ I;simp only at I⊢;by_cases a6:D1 (R,C,D)
 case neg=>
  have I:u=false:=by rw[I];exact rE a6
  rw[I];exact⟨fun _=>⟨fun _=>⟨rfl,trivial⟩,fun h=>absurd h a6⟩,fun h=>(by cases h)⟩
 have I:u=true:=by rw[I];exact rD a6
 rw[I];obtain⟨g5,g6,g7,g8,ef,eg⟩:=id a6;simp only at g5 g6 g7 g8 ef eg;refine⟨fun h=>(by cases h),fun _=>⟨fun bu=> ?_,fun cg=> ?_⟩⟩
 . have bu:=qA bu;exact⟨fun h=>absurd a6 h,fun _=>⟨fun _=>⟨rfl,trivial⟩,fun h=>absurd h bu⟩⟩
 have cg:R=C:=qQ (qB cg);subst cg;obtain⟨n,rfl⟩:∃n:Nat,R=(n:Int):=⟨R.toNat,by omega⟩;have b8:sK a1 (n-1)<=K1:=b8 a6 rfl;simp only[qH];have b0:0<=(n:Int)/\(n:Int)<=(n:Int)/\8*(n:Int)<=281474976710656/\(n:Int)<=9223372036854775807:=⟨by omega,qG _,by omega,by omega⟩;have bh:0<=(n:Int)/\(n:Int)<=(n:Int)/\24*(n:Int)<=281474976710656/\(n:Int)<=9223372036854775807:=⟨by omega,qG _,by omega,by omega⟩;refine⟨b0,b0,bh,bh,b0,bh,bh,b0,b0,NS n,fun p=>((n:Int)-p.1).toNat,NS.init, ?_⟩;rintro⟨be,⟨af,em⟩,left,_⟩ _ H;change Int at be;change List T6 at af;simp only;have bt:=H.1;have dr:=H.2.1;have f3:af.length=n:=H.2.2.1;have f4:left.length=n:=H.2.2.2.2.2.1;simp only at bt dr;refine⟨fun g=> ?_,fun g=> ?_⟩
 . have g:=qA g;rw[wv (by omega)];exact⟨⟨bt,by omega⟩,⟨bt,by omega⟩,H.next g,by omega⟩
 have g:=qB g;have cn:(n:Int)<=be:=by omega
 have gp:(D.length:Int)=(n:Int):=ef;refine⟨JA n D,fun p=>((n:Int)-p.1).toNat,JA.init H cn, ?_⟩;rintro⟨T,ed,⟨a0,d3⟩,_⟩ _ am;change Int at T;change List (List D6)at ed;change List T6 at a0;simp only;have au:=am.1;have dz:=am.2.1;have fg:ed.length=n:=am.2.2.1;simp only at au dz;refine⟨fun w=> ?_,fun w=> ?_⟩
 . have w:=qA w;have fl:T<(n:Int):=by omega
   have cm:=H6 (d:=([]:List D6)) au w;rw[YX au w]at cm⊢;have cu:=eg _ cm;have a5:=mK a6 bz cm;refine⟨⟨au,w⟩, .inl ⟨a5.1,fun e V=>F5 (a5.2.1 e V) fk,a5.2.2⟩, ?_⟩;rintro⟨aw,_⟩ _ c0;change List D6 at aw;simp only at c0⊢;refine⟨⟨au,by omega⟩,TG n (fun i=>A5 (D.getD i [])) T (D.getD T.toNat []),fun p=>(((D.getD T.toNat []).length:Int)-p.1).toNat,am.row, ?_⟩;rintro⟨c3,⟨cols2,d4⟩,_⟩ _ b7;change Int at c3;change List T6 at cols2;simp only;have ex:=b7.1;have ey:=b7.2.1;simp only at ex ey;have e2:∀e∈D.getD T.toNat [],0<=e.1/\e.1<(n:Int):=fun e V=>⟨(cu.2 e V).1,(cu.2 e V).2.1⟩
   have f8:=a5.2.2;refine⟨fun E=> ?_,fun E=> ?_⟩
   . have E:=qA E;rw[wv (by omega)];obtain⟨r,t,a8⟩:=b7.rng e2 E;exact⟨r,t,a8,b7.next e2 E,by omega⟩
   . have E:=qB E;rw[wv (by omega)];exact⟨am.next fl cu c0 b7 (by omega),by omega⟩
 have w:=qB w;have ds:(n:Int)<=T:=by omega
 refine⟨B9p n ((n:Int),(n:Int),D),fun p=>((n:Int)-p.1).toNat,B9p.init a6 f2 rfl rfl H cn am ds, ?_⟩;clear H bt dr f3 f4 am au dz fg g cn w ds;rintro⟨l,M,P,Q,place,rows,⟨c2,gi⟩,⟨af,em⟩,_⟩ _ ⟨cx,fo,aj,b2,d5⟩;change Int at l;change Xr at M P Q place;change List (List D6)at rows c2;change List T6 at af;simp only at cx fo aj b2 d5⊢;have a:=aj a1 cr bz;refine⟨fun b9=> ?_,fun b9=> ?_⟩
 . have b9:=qA b9;have cl:l.toNat<n:=by omega
   have b5:sK a1 l.toNat<=K1:=qW (Xo (by omega)) b8;have gv:=a.more cl;have bb:=a.lrows;have dn:=a.llow;have dm:=a.lcols;have gw:M.length<=n:=GR a.rnd fun x hx=>a.crange hx
   refine⟨C9o n ((n:Int),(n:Int),D) M rows c2 af,⟨C1i n M af,⟨C5x n M af,fun q=>((M.length:Int)-q.2.1).toNat,⟨qG _,by simp only;omega,qG _,by simp only;omega,rfl,d5⟩, ?_⟩, ?_⟩, ?_⟩
   . rintro⟨b,j,⟨b1,d2⟩,_⟩ _ ⟨Z,a2,aa,cw,rfl,N⟩;change Int at b j;simp only at Z a2 aa cw N⊢;refine⟨fun k=> ?_,fun k=>⟨Z,a2,rfl,N⟩⟩;have k:=qA k;obtain⟨c5,bf,c6,ax⟩:=a.cnt (by omega) aa k;obtain⟨ei,ej,ek,gc⟩:=a.cnt (by omega) Z a2;simp only[OI];refine⟨C1i n M b1,⟨⟨aa,k⟩,c5,N _ bf,c6,⟨Z,a2⟩,ei,N _ ej,ek,fun _=>⟨aa,k,rfl,N⟩,fun _=>⟨Z,a2,rfl,N⟩⟩, ?_⟩;rintro⟨eh,⟨cols2,d4⟩,_⟩ _ ⟨ay,az,rfl,ag⟩;change Int at eh;simp only at ay az ag⊢;obtain⟨bi,bj,bk,gm⟩:=a.cnt (by omega) ay az;rw[wv (by omega)];exact⟨⟨ay,az⟩,bi,ag _ bj,bk,fun _=>⟨ay,az,rfl,ag⟩,fun _=>⟨⟨ay,az,by simp only;omega,by simp only;omega,rfl,ag⟩,by omega⟩⟩
   . rintro⟨b,⟨b1,d2⟩,_⟩ _ ⟨Z,a2,rfl,N⟩;change Int at b;simp only at Z a2 N⊢;obtain⟨c5,bf,c6,ax⟩:=a.cnt (by omega) Z a2;simp only[OI];refine⟨⟨Z,a2⟩,c5,N _ bf,c6,fun ai=> ?_,fun ai=> ?_⟩
     . have ai:=qA ai;exact⟨rfl,rfl,b2,rfl,N,fun _=>a.stuck ax (qS (g3g.1 ai)),fun h=>(by cases h)⟩
     have ai:=qB ai;rw[wv (by omega)];simp only[qH,uT];rw[show(b+1).toNat=b.toNat+1 from by omega];have ba:b.toNat+(List.drop (b.toNat+1) M).length<=n:=by rw[sN];omega
     generalize ab:M.getD b.toNat 0=c at*;obtain⟨bg,c1⟩:=a.crange ax;have co:=a.pick (b:=b.toNat) (by omega);rw[ab]at co;refine⟨⟨Z,a2⟩,C9p n M b.toNat rows c2 b1,⟨⟨qG _,Z,by omega⟩,⟨by omega,by omega,qG _⟩,⟨⟨by omega,by omega⟩,rfl,rfl,rfl,b2,rfl,N⟩,⟨by omega,by omega⟩,rfl,rfl,rfl,b2,rfl,N⟩, ?_⟩;rintro⟨fx,ec,⟨gz,gj⟩,⟨cols2,d4⟩,_⟩ _ ⟨ah,rfl,rfl,b3,rfl,ap⟩;change Xr at fx;simp only at ah b3 ap⊢;obtain⟨gs,dc⟩:=a.col c ax;have fi:∀y:Int×Bool,y∈cols2.getD c.toNat []->0<=y.1/\y.1<(ec.length:Int):=fun y a7=>by
      obtain⟨cb,g9,_⟩:=(dc y.1).1 (pM a7);rw[bb];exact⟨cb,g9⟩
     have bu:0<(cols2.getD c.toNat []).length:=by
      rcases vG (cols2.getD c.toNat []).length with J|J
      . exact absurd (g3g.2 J) ai
      . exact J
     have ce:c<(cols2.length:Int):=by rw[dm];exact c1
     refine⟨C9z n cols2 c,⟨⟨bg,ce⟩,ap _ bf,C9y (cols2.getD c.toNat []),fun q=>q.2.1.2.length,⟨rfl,fun y a7=>a7, .inl ⟨by show(-1:Int)<0;decide,rfl⟩⟩, ?_⟩, ?_⟩
     . rintro⟨i,⟨eo,left⟩,_⟩ _ ⟨rfl,ad,B⟩;change Int at i;change T6 at left;simp only at ad B⊢;refine⟨fun a3=>⟨fun h=>(by cases h),fun _=>⟨?_,OI _ _ _,ap⟩⟩,fun l1 y l2 a3=>⟨fun _=> ?_,fun h=>(by cases h)⟩⟩
       . rcases B with⟨_,B⟩ |B
         . rw[a3]at B;simp only[xL]at B;omega
         . exact B
       have a7:=fi y (ad y (by rw[a3];simp));have fm:y.1∈R8 (cols2.getD c.toNat []):=pM (ad y (by rw[a3];simp));have e0:∀z∈l1++l2,z∈cols2.getD c.toNat []:=fun z J=>ad z (by
        rw[a3];rcases rA.1 J with J|J
        . exact sM _ J
        . exact tJ _ (qM _ J))
       have bq:(l1++l2).length<left.length:=by rw[a3,rN,rN,rH];omega
       have ac:¬i<0->i∈R8 (cols2.getD c.toNat [])/\0<=i/\i<(ec.length:Int):=fun h=>by
        rcases B with⟨E,_⟩ |E
        . exact absurd E h
        . obtain⟨cb,g9,_⟩:=(dc i).1 E;rw[bb];exact⟨E,cb,g9⟩
       have f5:∀ {q:Bool},L8 (decide (i<0)) true q=false->¬i<0:=fun {q} h E=>by
        rw[rD E]at h;cases h
       refine⟨fun _=>a7,fun h=>(ac (qB h)).2,fun _=>a7,fun h=>(ac (f5 h)).2,fun _=>⟨⟨rfl,e0, .inr fm⟩,bq⟩,fun h=>⟨⟨rfl,e0, .inr (ac ?_).1⟩,bq⟩⟩;intro E;rw[rD E]at h;cases h
     . rintro⟨i,⟨ga,gf⟩,_⟩ _ ⟨ad,rfl,bd⟩;exact⟨rfl,rfl,b3,rfl,bd,fun h=>(by cases h),fun _=>⟨ax,ad,ah▸co.1,ah▸co.2⟩⟩
   . rintro⟨u,c,e7,fw,o,⟨X,c9⟩,⟨b1,d2⟩,_⟩ _ ⟨rfl,rfl,N,rfl,ag,e5,e6⟩;change Int at u c;change Bool at e7;change Xr at fw;simp only at N ag e5 e6⊢;cases e7 with
     |false=>exact⟨fun _=>⟨fun h=>absurd a6 h,fun _=>⟨fun h=>absurd rfl h,fun _=>⟨fun _=>⟨rfl,trivial⟩,fun h=>absurd h (e5 rfl)⟩⟩⟩,fun h=>(by cases h)⟩
     |true=>
     obtain⟨ab,I,fe,ff⟩:=e6 rfl;obtain⟨bg,c1⟩:=a.crange ab;obtain⟨fr,fs,fu,eb⟩:=a.row ab I;have er:=a.lP;have gq:=a.lQ;have bx:=a.lpl;refine⟨fun h=>(by cases h),fun _=> ?_⟩;have fq:0<=l/\l<(P.length:Int):=⟨cx,by omega⟩;have e8:0<=l/\l<(Q.length:Int):=⟨cx,by omega⟩;have e9:0<=c/\c<(place.length:Int):=⟨bg,by omega⟩;refine⟨fun q=>q.1=P.set l.toNat u/\q.2.1=Q.set l.toNat c/\q.2.2.1=place.set c.toNat l,⟨fq,⟨e8,e9,rfl,rfl,rfl⟩,e8,e9,rfl,rfl,rfl⟩, ?_⟩;rintro⟨P',Q',ea,_⟩ _ ⟨bi,bj,bk⟩;simp only at bi bj bk⊢;have cq:KP K1 (o.getD u.toNat []):=a.okRow b5 (by omega) (by omega);have bc:∀e∈o.getD u.toNat [],0<=e.1/\e.1<(n:Int):=(a.can u.toNat (by omega)).2.1;have fc:=(a.can u.toNat (by omega)).2.2;have dw:Am o u.toNat c.toNat=A5 (o.getD u.toNat []) c:=by unfold Am;rw[show((c.toNat:Nat):Int)=c from by omega]
     rw[dw]at eb;generalize cp:o.getD u.toNat []=s at*;have gu:=cq.2.2;refine⟨⟨fr,by rw[bb];exact fs⟩,KL n M (inC b1) u s,fun p=>((s.length:Int)-p.1).toNat,⟨qG _,qD _,dm,ag,fun j k=>⟨a.crange k,oF ⟨(a.col j k).1,fun x=>yH⟩⟩⟩, ?_⟩;rintro⟨be,⟨a0,d3⟩,_⟩ _ A;change Int at be;change List T6 at a0;simp only;have fy:=A.1;have fz:=A.2.1;simp only at fy fz;refine⟨fun g=> ?_,fun g=> ?_⟩
     . have g:=qA g;rw[wv (by omega)];obtain⟨r,t,a8⟩:=A.rng bc g;exact⟨r,t,a8,A.next bc g,by omega⟩
     have g:=qB g;have ci:∀W,1<=W->X0 W ((n:Int),(n:Int),D)->CI n l.toNat (sK W l.toNat) M P o X u c [] o X a0:=fun W r t=>CI.init (aj W r t) ab I A.2.2.1 fun j k=>by
      have cb:=(A.2.2.2.2 j k).2;simp only at cb;rw[D4 (show(s.length:Int)<=be by omega)]at cb;rw[cp];exact cb
     have d6:mX n d3:=A.2.2.2.1;have f1:a0.length=n:=A.2.2.1;clear A;obtain⟨ck,bp⟩:=(ci a1 cr bz).col c ab;have dj:∀x∈R8 (a0.getD c.toNat []),0<=x/\x<(n:Int):=fun x hx=>⟨((bp x).1 hx).2.1,((bp x).1 hx).2.2.1⟩
     have di:(R8 (a0.getD c.toNat [])).length<=n:=GR ck dj;refine⟨cq, ?_⟩;rintro⟨v,_⟩ _ cs;change C0 at v;simp only at cs⊢;have ct:qs (sK a1 l.toNat) (A5 s c):=fc c;refine⟨by rw[cs];exact J7 (F8 ct b5) (by decide), ?_⟩;rintro⟨cv,h3,_⟩ _ ar;change C0 at cv;simp only at ar⊢;rw[cs,D7]at ar;obtain⟨ar,_⟩:=ar.2 eb;have ce:c<(a0.length:Int):=by rw[f1];exact c1
     refine⟨C9x n a0 c,⟨⟨bg,ce⟩,d6 _ (by omega),C9w (a0.getD c.toNat []),fun q=>q.2.1.2.length,⟨rfl,wQ _⟩, ?_⟩, ?_⟩
     . rintro⟨c7,⟨eo,left⟩,_⟩ _ ⟨rfl,B⟩;change Xr at c7;change T6 at left;simp only at B⊢;refine⟨fun a3=>⟨fun h=>(by cases h),fun _=>⟨?_,OI _ _ _,d6⟩⟩,fun l1 y l2 a3=>⟨fun _=> ?_,fun h=>(by cases h)⟩⟩
       . subst a3;rw[show R8 []= []from rfl,vV]at B;exact B
       subst a3;have dv:(c7++ [y.1]++R8 (l1++l2)).Perm (R8 (a0.getD c.toNat [])):=by
        refine List.Perm.trans ?_ B;rw[uD];refine g2l c7 ?_;unfold R8;rw[uM,uM,rZ,List.singleton_append];exact List.perm_middle.symm
       have es:=dv.length_eq;rw[rN,rN,qY]at es;have bq:(l1++l2).length<(l1++y::l2).length:=by rw[rN,rN,rH];omega
       exact⟨⟨by rw[qY];omega,by rw[qY];omega⟩,⟨rfl,dv⟩,bq⟩
     rintro⟨Y,⟨gb,gg⟩,_⟩ _ ⟨b4,rfl,d7⟩;change Xr at Y;simp only at b4 d7⊢;have f9:Y.Nodup:=b4.nodup_iff.2 ck;have dt:∀x,x∈Y↔x≠u/\0<=x/\x<(n:Int)/\(∀f,f<l.toNat->x.toNat≠ix P f)/\Am o x.toNat c.toNat≠0:=fun x=>by rw[b4.mem_iff];exact bp x
     have f8:Y.length<=n:=by
      rw[b4.length_eq];exact di
     refine⟨J2 n ((n:Int),(n:Int),D) l.toNat M P o X u c Y,fun q=>((Y.length:Int)-q.1).toNat,⟨qG _,qD _,ci,N,d7⟩, ?_⟩;clear ci ck bp dj di b4;rintro⟨T,cz,⟨cy,en⟩,⟨c8,gh⟩,_⟩ _ ⟨c4,g4,bm,bl,ca⟩;change Int at T;simp only at c4 g4 bm bl ca⊢;have ak:=bm a1 cr bz;refine⟨fun w=> ?_,fun w=> ?_⟩
     . have w:=qA w;have f0:Y.getD T.toNat 0∈Y:=B4 (by omega);have cj:Y.getD T.toNat 0∉Y.take T.toNat:=fun hh=>by
        obtain⟨f,O,aq⟩:=uA.1 hh;rw[qU]at O;rw[g1f,G5 _ _ (show T.toNat<Y.length by omega)]at aq;have:=(wL f9).1 aq;omega
       have e1:=Fj (d:=(0:Int)) c4 w;rw[E5 c4 w]at e1;obtain⟨ad,B,bd,e4,gy⟩:=(dt _).1 f0;generalize Y.getD T.toNat 0=i at*;have a9:i.toNat<n:=by omega
       have df:((i.toNat:Nat):Int)=i:=by omega
       have fj:cz.getD i.toNat []=o.getD i.toNat []:=ak.ru _ a9 (by rw[df];exact cj);have dq:cy.getD i.toNat []=X.getD i.toNat []:=by rw[ak.lo _ a9,qL (by rw[df];exact cj)]
       have ba:=a.lowLen a9;have gn:=a.two (i:=u.toNat) (j:=i.toNat) (by omega) a9 (by omega) fu e4;have a5:=a.okRow b5 (by omega) a9;have dy:=(a.can _ a9).2.2;have ac:0<=i/\i<(cz.length:Int):=⟨B,by rw[ak.lrows];exact bd⟩;have dh:0<=i/\i<(cy.length:Int):=⟨B,by rw[ak.llow];exact bd⟩;have eu:i.toNat∉en:=bl _ a9;rw[fj,dq];have et:Am o i.toNat c.toNat=A5 (o.getD i.toNat []) c:=by unfold Am;rw[show((c.toNat:Nat):Int)=c from by omega]
       have gr:4*sK a1 l.toNat+1<=K1:=qW (show sK a1 (l.toNat+1)<=sK a1 (n-1)from Xo (by omega)) b8;have fd:qs (sK a1 l.toNat+sK a1 l.toNat) (A5 (o.getD i.toNat []) c/A5 s c):=mD (dy c) ct;have F:∀(ae:QQ×Unit),Zr ae.1/\True->ae.1=rc (A5 (o.getD i.toNat []) c)->(D8 ae.1/\D8 cv)/\∀(av:QQ×Unit),Zr av.1/\True->av.1=rc (rv ae.1*rv cv)->C6b (A5 (o.getD i.toNat []) c/A5 s c) (av.1.1.1,av.1.1.2,av.1.2,()):=fun ae _ h1=>by
        refine⟨⟨by rw[h1];exact J7 (F8 (dy c) b5) (by decide),by rw[ar];exact J7 (F8 (B6e ct) b5) (by decide)⟩,fun av _ cb=> ?_⟩;rw[h1,ar,D7,D7, <-xB]at cb;exact cb
       refine⟨⟨c4,w⟩,C6b (A5 (o.getD i.toNat []) c/A5 s c),⟨ac,⟨a5,fun ae aw h=>⟨F ae aw h,F ae aw h⟩⟩,a5,F⟩, ?_⟩;rintro⟨d9,da,db,_⟩ _ ch;change Bool at d9;change Xr at da db;have ch:((d9,da),db)=rc (A5 (o.getD i.toNat []) c/A5 s c):=ch;simp only;rw[ch];refine⟨fun q=>q.1.1=cy.set i.toNat (X.getD i.toNat []++ [(l,rc (A5 (o.getD i.toNat []) c/A5 s c))])/\mX n q.1.2, ?_, ?_⟩
       . have L1:((X.getD i.toNat []).length+ [(l,rc (A5 (o.getD i.toNat []) c/A5 s c))].length)*64<=140737488355328/\(X.getD i.toNat []).length+ [(l,rc (A5 (o.getD i.toNat []) c/A5 s c))].length<=9223372036854775807:=by
          have J:∀z:Nat,z<=n->(z+1)*64<=140737488355328/\z+1<=9223372036854775807:=fun z J=>⟨by omega,by omega⟩
          exact J _ (qW ba (by omega))
         repeat' apply And.intro
         all_goals first
          |exact dh.1
          |exact dh.2
          |exact eu
          |exact L1.1
          |exact L1.2
          |exact rfl
          |exact bl
          |exact True.intro
       rintro⟨⟨h2,gl⟩,_⟩ _ ⟨dk,d8⟩;simp only at dk d8⊢;have dx:qs K1 (A5 (o.getD i.toNat []) c/A5 s c):=F8 fd (by omega);refine⟨ac,J7 dx (by decide), ?_⟩;rintro⟨fp,_⟩ _ bv;change C0 at fp;simp only at bv⊢;rw[D7]at bv;refine⟨⟨a5,by rw[bv];exact Vm (SG dx),cq⟩, ?_⟩;rintro⟨nw,_⟩ _ a4;change List D6 at nw;simp only at a4⊢;have a4:VO (fun j=>A5 (o.getD i.toNat []) j-A5 (o.getD i.toNat []) c/A5 s c*A5 s j) nw:=⟨a4.1,fun j=>(a4.2 j).trans (by dsimp only;rw[bv,D7,Rat.neg_mul, <-tH])⟩;have bw:∀e∈nw,0<=e.1/\e.1<(n:Int):=fun e V=>qQ fun hh=>by
        refine(a4.1.2 e V).1 ?_;rw[<-R9 a4.1.1 V];refine(a4.2 e.1).trans ?_;dsimp only;rw[E3 (v:=o.getD i.toNat []) (i:=e.1) fun y a7 cb=>hh (by rw[<-cb];exact(a.can _ a9).2.1 y a7),E3 (v:=s) (i:=e.1) fun y a7 cb=>hh (by rw[<-cb];exact bc y a7),uX,tH,wP,rL]
       have gt:nw.length<=n:=by
        have:=Gk (n:=(n:Int)) (v:=nw) ⟨a4.1.1,fun e V=>⟨(bw e V).1,(bw e V).2,(a4.1.2 e V).1⟩⟩;omega
       refine⟨ac,KL n M (inC c8) i s,fun p=>((s.length:Int)-p.1).toNat,⟨qG _,qD _,ak.lcols,ca,fun j k=>⟨a.crange k,oF ⟨(ak.col j k).1,fun x=>yH⟩⟩⟩, ?_⟩;rintro⟨c3,⟨d0,gd⟩,_⟩ _ A;change Int at c3;change List T6 at d0;simp only;have g0:=A.1;have g1:=A.2.1;simp only at g0 g1;refine⟨fun g=> ?_,fun g=> ?_⟩
       . have g:=qA g;rw[wv (by omega)];obtain⟨r,t,a8⟩:=A.rng bc g;exact⟨r,t,a8,A.next bc g,by omega⟩
       have g:=qB g;have dp:∀j:Int,j∈M->oE (inC c8) i s j (d0.getD j.toNat []):=fun j k=>by
        have cb:=(A.2.2.2.2 j k).2;simp only at cb;rwa[D4 (show(s.length:Int)<=c3 by omega)]at cb
       rw[show(cz.set i.toNat nw).getD i.toNat []=nw from A9 (by rw[ak.lrows];exact a9)];refine⟨by rw[qJ];exact ac,gG n M (fun j x=>inC c8 j x/\¬(x=i/\∃e∈s,e.1=j)) i nw,fun p=>((nw.length:Int)-p.1).toNat,⟨qG _,qD _,A.2.2.1,A.2.2.2.1,fun j k=>⟨a.crange k,B2p ⟨(dp j k).1,(dp j k).2⟩⟩⟩, ?_⟩;rintro⟨ee,⟨d1,ge⟩,_⟩ _ G;change Int at ee;change List T6 at d1;simp only;have g2:=G.1;have g3:=G.2.1;simp only at g2 g3;refine⟨fun g=> ?_,fun g=> ?_⟩
       . have g:=qA g;rw[wv (by omega)];obtain⟨r,t,a8⟩:=G.rng bw g;exact⟨r,t,a8,G.next bw g,by omega⟩
       have g:=qB g;rw[wv (by omega)];refine⟨⟨by simp only;omega,by simp only;omega,fun W r t=> ?_,d8,G.2.2.2.1⟩,by omega⟩;have f7:=CI.next (aj W r t) ab I (bm W r t) B bd ad e4 cj (q:=A5 (o.getD i.toNat []) c/A5 s c) (by rw[et,dw]) (nw:=nw) (by rw[cp];exact a4) (cols2:=d1) G.2.2.1 fun j k=>by
        have cb:=(G.2.2.2.2 j k).2;simp only at cb;rw[D4 (show(nw.length:Int)<=ee by omega)]at cb;rw[cp];exact cb
       simp only;rw[e1,dk, <-dq];rwa[show((l.toNat:Nat):Int)=l from by omega]at f7
     . have w:=qB w;rw[wv (by omega)];refine⟨⟨by simp only;omega,by simp only;omega,fun W r t=> ?_,bl,ca⟩,by omega⟩;have de:=bm W r t;rw[D4 (by omega)]at de;have ew:=CI.done (aj W r t) ab I de rfl dt fe ff;simp only;rw[show(l+1).toNat=l.toNat+1 from by omega,bi,bj,bk];rwa[show((l.toNat:Nat):Int)=l from by omega]at ew
 . have b9:=qB b9;have cl:l=(n:Int):=by omega
   subst cl;simp only[qH]at aj a;have bb:=a.lrows;have dn:=a.llow;have er:=a.lP;have fb:=a.places;refine⟨C9q n P place rows c2,fun q=>((n:Int)-q.2.1).toNat,⟨rfl,qG _,qD _,rC,rC,rfl,fun m H=> .inl (g4m fun h=>b2 m h H),fun f O=>by simp only at O;omega,fun f O=>by simp only at O;omega⟩, ?_⟩;rintro⟨ea,j,L,U,⟨X,c9⟩,_⟩ _ ⟨rfl,aa,cw,an,ao,rfl,cf,cc,cd⟩;change Int at j;change List (List D6)at L U;simp only at aa cw an ao cf cc cd⊢;refine⟨fun k=> ?_,fun k=> ?_⟩
   . have k:=qA k;have G:j.toNat<n:=by omega
     have ep:P.getD j.toNat 0=(ix P j.toNat:Int):=a.P0 _ G;have bs:=a.elim.plt _ G;have ba:=a.lowLen bs;have f6:ix P j.toNat∉c9:=fun H=>by
      rcases cf _ H with h| ⟨f,O,aq⟩
      . omega
      . have:=a.elim.pinj _ _ G (show f<n by omega) aq;omega
     have a5:=a.okFin (by omega) G (qW (Xo (by omega)) b8);rw[ep];simp only[qH];have r:0<=j/\j<(P.length:Int):=⟨aa,k⟩;have t:0<=(ix P j.toNat:Int)/\(ix P j.toNat:Int)<(X.length:Int):=⟨qD _,by rw[dn];exact sB.2 bs⟩;have a8:0<=j/\j<(L.length:Int):=⟨aa,by rw[an];omega⟩;have J:∀z:Nat,z<=n->(z+1)*64<=140737488355328/\z+1<=9223372036854775807:=fun z J=>⟨by omega,by omega⟩
     refine⟨r,fun q=>q.1=L.set j.toNat (X.getD (ix P j.toNat) []++ [(j,rc 1)])/\q.2.1.1=X/\q.2.1.2=ix P j.toNat::c9, ?_, ?_⟩
     . repeat' first
        |exact f6
        |exact True.intro
        |exact r.1
        |exact r.2
        |exact t.1
        |exact t.2
        |exact a8.1
        |exact a8.2
        |exact rfl
        |exact(J _ (qW ba (qZ _))).1
        |exact(J _ (qW ba (qZ _))).2
        |apply And.intro
        | (rintro⟨u,_⟩ _ I
           have I:u=rc 1:=I.trans (DK 1);subst I)
     rintro⟨L4,⟨h0,gk⟩,_⟩ _ ⟨ah,b3,ap⟩;simp only at ah b3 ap⊢;refine⟨⟨t.1,by rw[bb];exact sB.2 bs⟩,⟨a5,by rw[a.lpl];omega⟩, ?_⟩;rintro⟨aw,h4,_⟩ _ du;change List D6 at aw;simp only at du⊢;have bx:=a.lpl;obtain⟨e3,_⟩:=du (by rw[bx];exact fb.1) fun i ez=>by
      rw[bx];obtain⟨e,V,rfl⟩:=GD ez;exact(a.can _ bs).2.1 e V
     rw[bx]at e3;rw[wv (by omega)];refine⟨⟨aa,by rw[ao];omega⟩,⟨rfl,by simp only;omega,by simp only;omega,by simp only;rw[ah,qJ];exact an,by simp only;rw[qJ];exact ao,b3,fun m H=> ?_,fun f O=> ?_,fun f O=> ?_⟩,by omega⟩
     . simp only at H⊢;rw[ap]at H;rcases qI.1 H with h|h
       . exact .inr ⟨j.toNat,by omega,h⟩
       . rcases cf m h with h| ⟨f,O,aq⟩
         . exact .inl h
         . exact .inr ⟨f,by omega,aq⟩
     . simp only at O⊢;rw[ah];by_cases b6:f=j.toNat
       . subst b6;rw[A9 (by rw[an];exact G),show((j.toNat:Nat):Int)=j from by omega]
       . rw[C9 b6];exact cc f (by omega)
     . simp only at O⊢;by_cases b6:f=j.toNat
       . subst b6;rw[A9 (by rw[ao];exact G)];exact e3
       . rw[C9 b6];exact cd f (by omega)
   . have k:=qB k;have G:j=(n:Int):=by omega
     subst G;have bn:∀f,f<n->L.getD f []=X.getD (ix P f) []++ [((f:Int),rc 1)]:=fun f O=>cc f (by omega)
     have bo:∀f,f<n->VO (fun i=>if 0<=i/\i<(n:Int)then A5 (rows.getD (ix P f) []) ((List.idxOf i ea:Nat):Int)else 0) (U.getD f []):=fun f O=>cd f (by omega)
     have dd:=a.done (by omega) an ao bn bo;exact⟨fun h=>absurd a6 h,fun _=>⟨fun h=>absurd rfl h,fun _=>⟨fun h=>absurd a.elim.nonsing h,fun _=>⟨dd.1,trivial,(a.cans an ao bn bo).1,(a.cans an ao bn bo).2,fun W r t f b O=>(aj W r t).sizes (fun f=>qW r (D0a f)) bn bo O b,dd.2⟩⟩⟩⟩
def MN:An:= {}
abbrev C7k:=(Xr×Xr×MM×Int×Int×List (List EE))×List QQ×Unit
def Rb:A2 Az.args->Prop:=fun(x:C7k)=>let e:=(4:Int);let d:=(1:Int);let c:=(0:Int);let b:=(↑x.1.1.length:Int);let a:=(x.1.1.length:Int);let f:Prop:=((x.2.1.length:Int)≠a);(c<=a/\a<=(16384:Int)/\X0 K1 x.1.2.2.1/\X0 K1 x.1.2.2.2)/\Ni fun r=>(r.1=true↔Bz x.1 a)->(iB ((!r.1)) ((¬Bz x.1 b->d=d)/\(Bz x.1 b->(x.2.1.length≠x.1.1.length->d=e)/\(x.2.1.length=x.1.1.length->d=c))) ((iB (decide f) ((¬Bz x.1 b->e=d)/\(Bz x.1 b->(x.2.1.length≠x.1.1.length->e=e)/\(x.2.1.length=x.1.1.length->e=c))) ((¬Bz x.1 b->c=d)/\(Bz x.1 b->(x.2.1.length≠x.1.1.length->c=e)/\(x.2.1.length=x.1.1.length->c=c))))))
def UV:An:= {loop:= [(12,⟨[1,2,7,8,9,30,31,55,56],[0],[(57,false,vI)],[],[(1, .row tQ 43)]⟩),(7,⟨[1,2,7,8,30],[0],[(31,false,vI)],[],[(1, .row tQ 43)]⟩),(24,⟨[2,7,8,13,15,16,80,81,95,96],[0,2],[(97,false,vI)],[],[(1, .row tQ 43)]⟩),(19,⟨[2,7,8,13,80],[0],[(81,false,vI)],[],[(1, .row tQ 43),(2, .row tQ 43)]⟩)],plan:= [(14,[5,7,10,12],[15],true,(pZ9 0 5 (.q 5 (.p 6 (.q 7 (.p 8 (.p 9 (.q 10 (.p 11 (.q 12 (.e 13 (.p 14 (.e 15 .done))))))))))))),(26,[5,7,10,12],[15],true,(pZ9 0 5 (.q 5 (.p 6 (.q 7 (.p 8 (.p 9 (.q 10 (.p 11 (.q 12 (.e 13 (.p 14 (.e 15 .done))))))))))))),(28,[5,9],[15],true,(pZ9 0 5 (.q 5 (pZ9 6 3 (.q 9 (.e 10 (pZ9 11 4 (.e 15 .done)))))))),(29,[2,5,9],[11],true,(.p 0 (.p 1 (.q 2 (.p 3 (.p 4 (.q 5 (pZ9 6 3 (.q 9 (.p 10 (.e 11 .done)))))))))))]}
abbrev C8e:=Int×List QQ×List QQ×Unit
def Yx:A2 Ay.args->Prop:=fun(x:C7k)=>let M:=(1:Nat);let A:=(↑x.1.1.length:Int);let q:=(1:Int);let g:=(0:Int);let d:=(x.1.1.length:Int);let v:Prop:=(g<=d/\d<=d/\(↑(56:Nat):Int)*d<=(281474976710656:Int)/\d<=(9223372036854775807:Int));(List.length x.1.1<=16384/\X0 K1 x.1.2.2.1/\X0 K1 x.1.2.2.2)/\Cw fun r=>(¬Bz x.1 d->r.1=q)/\(Bz x.1 d->(List.length x.2.1≠List.length x.1.1->r.1=4)/\(List.length x.2.1=List.length x.1.1->r.1=g))->(iB (decide (r.1≠g)) ((¬Bz x.1 A->O8 QQ= []/\r.1=q)/\(Bz x.1 A->(x.2.1.length≠x.1.1.length->O8 QQ= []/\r.1=4)/\(x.2.1.length=x.1.1.length->r.1=g/\0=x.1.1.length/\(∀(e:QQ),e∈ []->e=rc (rv e))/\(∀(s T:Nat),M<=s->M<=T->X0 s x.1.2.2.1->X0 s x.1.2.2.2->Db T x.2.1->Db (hK s (gK s T x.1.1.length) x.1.1.length+s) [])/\∀(i:Nat),i<x.1.1.length->(B7 x.1.1.length fun(j:Nat)=>luM x.1 x.1.1.length i j*rv ([].getD (ix x.1.2.1 j) zr))=rv (x.2.1.getD (ix x.1.1 i) zr)))) (v/\∃(I:Ja->Prop),∃(b: _->Nat),I (g,List.replicate d.toNat dQ,())/\∀(p:Ja),let E:=p.1.toNat;let m:=(gx [] x.1.2.2.1.2.2 p.1);let B:=(↑m.length:Int);let L:=(i64.wrap (B-q));let a:=(↑(List.drop g.toNat (List.take L.toNat m)).length:Int);(Ty.int i64).wf p.1/\MG p.2.1/\True->I p->(iB (decide (p.1<d)) ((g<=p.1/\p.1<d)/\(g<=gx g x.1.1 p.1/\gx g x.1.1 p.1<(x.2.1.length:Int))/\(g<=p.1/\p.1<(p.2.1.length:Int))/\(g<=p.1/\p.1<(x.1.2.2.1.2.2.length:Int))/\(g<=g/\g<=i64.wrap (B-q)/\i64.wrap (B-q)<=B)/\∃(I_1:Ja->Prop),∃(h: _->Nat),I_1 (g,List.set p.2.1 E (gx dQ x.2.1 (gx g x.1.1 p.1)),())/\∀(N:Ja),let K:=(List.getD N.2.1 E dQ);let F:=(i64.wrap (p.1+q),N.2.1,());let D:=(N.2.1.length:Int);let c:=(gx F3 (List.drop g.toNat (List.take L.toNat m)) N.1);let t:=(List.getD N.2.1 c.1.toNat dQ);(Ty.int i64).wf N.1/\MG N.2.1/\True->I_1 N->(iB (decide (N.1<a)) ((g<=N.1/\N.1<a)/\(g<=p.1/\p.1<D)/\(g<=c.1/\c.1<D)/\(sz K1 K/\sz K1 c.2/\sz K1 t)/\H4 fun r=>let z:=(i64.wrap (N.1+q),List.set N.2.1 E r.1,());(rv t=(0:Rat)->r.1=List.getD N.2.1 E dQ)/\(rv t≠(0:Rat)->r.1=rc (rv K-rv c.2*rv t))->(g<=p.1/\p.1<D)/\I_1 z/\h z<h N) (I F/\b F<b p))) (v/\∃(I:C8e->Prop),∃(b: _->Nat),I (g,p.2.1,List.replicate d.toNat dQ,())/\∀(p:C8e),let a:=(i64.wrap (d-q)-p.1);let k:=(i64.wrap a);let c:=(gx [] x.1.2.2.2.2.2 k);let J:=(gx F3 c g);let y:=(↑c.length:Int);let o:=(↑(List.drop q.toNat (List.take y.toNat c)).length:Int);(Ty.int i64).wf p.1/\MG p.2.1/\MG p.2.2.1/\True->I p->(iB (decide (p.1<d)) ((g<=i64.wrap a/\i64.wrap a<(x.1.2.2.2.2.2.length:Int))/\(g<=q/\q<=y/\y<=y)/\∃(I_1:Ja->Prop),∃(h: _->Nat),I_1 (g,p.2.1,())/\∀(N:Ja),let G:=(N.2.1.length:Int);let w:=(List.getD N.2.1 k.toNat dQ);let l:Prop:=(g<=i64.wrap a/\i64.wrap a<G);let f:=(gx F3 (List.drop q.toNat (List.take y.toNat c)) N.1);let u:=(List.getD N.2.1 f.1.toNat dQ);(Ty.int i64).wf N.1/\MG N.2.1/\True->I_1 N->(iB (decide (N.1<o)) ((g<=N.1/\N.1<o)/\l/\(g<=f.1/\f.1<G)/\(sz K1 w/\sz K1 f.2/\sz K1 u)/\H4 fun r=>let C:=(i64.wrap (N.1+q),List.set N.2.1 k.toNat r.1,());(rv u=(0:Rat)->r.1=List.getD N.2.1 k.toNat dQ)/\(rv u≠(0:Rat)->r.1=rc (rv w-rv f.2*rv u))->l/\I_1 C/\h C<h N) (l/\(g<=g/\g<y)/\(D8 w/\D8 J.2)/\∀(r:A7o),let H:=(List.set N.2.1 k.toNat r.1);let n:=(i64.wrap (p.1+q),List.set N.2.1 k.toNat r.1,List.set p.2.2.1 (gx g x.1.2.1 k).toNat (H.getD k.toNat dQ),());Zr r.1/\True/\True->(rv J.2=(0:Rat)->r.2.1=false)/\(rv J.2≠(0:Rat)->r.1=rc (rv w/rv J.2)/\r.2.1=true)->l/\(g<=i64.wrap a/\i64.wrap a<(x.1.2.1.length:Int))/\(g<=i64.wrap a/\i64.wrap a<(↑H.length:Int))/\(g<=gx g x.1.2.1 k/\gx g x.1.2.1 k<(p.2.2.1.length:Int))/\I n/\b n<b p))) ((¬Bz x.1 A->p.2.2.1= []/\g=q)/\(Bz x.1 A->(x.2.1.length≠x.1.1.length->p.2.2.1= []/\g=(4:Int))/\(x.2.1.length=x.1.1.length->g=g/\List.length p.2.2.1=x.1.1.length/\(∀(e:QQ),e∈p.2.2.1->e=rc (rv e))/\(∀(s T:Nat),M<=s->M<=T->X0 s x.1.2.2.1->X0 s x.1.2.2.2->Db T x.2.1->Db (hK s (gK s T x.1.1.length) x.1.1.length+s) p.2.2.1)/\∀(i:Nat),i<x.1.1.length->(B7 x.1.1.length fun(j:Nat)=>luM x.1 x.1.1.length i j*rv (List.getD p.2.2.1 (ix x.1.2.1 j) zr))=rv (x.2.1.getD (ix x.1.1 i) zr)))))))))
def zok (k:Nat) (q:Rat) (x:C0):Prop:=sz k x/\Av x/\rv x=q
def A5c {k:Nat} {q:Rat} (h:qs k q):zok k q (rc q):=⟨Vm h,WO q,D7 q⟩
def dE {j k:Nat} {q:Rat} {x:C0} (h:zok j q x) (a:j<=k):zok k q x:=⟨F5 h.1 a,h.2⟩
def C5d {k:Nat} {q:Rat} {x:C0} (h:zok k q x) (a:1<=k):qs k q:=h.2.2▸U4 h.2.1 h.1 a
def Kf {s T:Nat} :∀ {a b:Nat},a<=b->gK s T a<=gK s T b
 |a,0,h=>by have:a=0:=by omega
            subst this;exact qZ _
 |a,b+1,h=>by
  by_cases c:a=b+1
  . subst c;exact qZ _
  . have:=Kf (s:=s) (T:=T) (a:=a) (b:=b) (by omega);simp only[gK];omega
def Mr {s T:Nat} :∀ {a b:Nat},a<=b->hK s T a<=hK s T b
 |a,0,h=>by have:a=0:=by omega
            subst this;exact qZ _
 |a,b+1,h=>by
  by_cases c:a=b+1
  . subst c;exact qZ _
  . have:=Mr (s:=s) (T:=T) (a:=a) (b:=b) (by omega);simp only[hK];omega
def B8h {v:List D6} {i:Nat} (a:∀e∈v,0<=e.1/\e.1<(i:Int)) (h:Nat->Rat):Mp v (fun j=>h j.toNat)=B7 i fun j=>A5 v (j:Int)*h j:=by
 rw[kL a];exact B6 fun j _=>by rw[qH]
def A1p {s j k:Nat} {a f b r:C0} {x y:Rat} (d:zok j x a) (w:Av f) (z:sz s f) (D:1<=s) (v:zok k y b) (A:1<=j) (B:1<=k) (t:rv b=0->r=a) (u:rv b≠0->r=rc (rv a-rv f*rv b)):zok (j+(s+k)+1) (x-rv f*y) r:=by
 obtain⟨g,h,i⟩:=id d;obtain⟨l,n,o⟩:=id v;subst i o;by_cases c:rv b=0
 . rw[t c,c,uX,tH,wP,rL];exact dE d (by omega)
 . rw[u c];exact A5c (Si (U4 h g A) (Ju (U4 w z D) (U4 n l B)))
def FW (s T n i:Nat) (Lm:Nat->Nat->Rat) (b:Nat->Rat) (z:List C0):Prop:=z.length=n/\∀j,j<i->zok (gK s T j) (rv (z.getD j zr)) (z.getD j zr)/\rv (z.getD j zr)+B7 j (fun m=>Lm j m*rv (z.getD m zr))=b j
def FI (s T i:Nat) (c:Rat) (w:List D6) (b:List C0) (t:Nat) (z:List C0):Prop:=∃a,z=b.set i a/\Av a/\rv a=c-Mp (w.take t) (fun j=>rv (b.getD j.toNat zr))/\∀m:Nat,(∀e∈w.take t,e.1<(m:Int))->sz (gK s T m) a
variable {s T n i:Nat} {c:Rat} {w:List D6} {z0 z:List C0} {Lm:Nat->Nat->Rat} {b:Nat->Rat}
def FI.init {x:C0} (a:zok T c x):FI s T i c w z0 0 (z0.set i x):=
 ⟨x,rfl,a.2.1,by rw[a.2.2];simp only[g0v,Mp];rw[tH,wP,rL],fun m _=>F5 a.1 (Kf (rM m))⟩
def FI.next (l:FW s T n i Lm b z0) (hT:1<=T) (hs:1<=s) (hi:i<n) (hasc:Ir w) (hw:∀e∈w,0<=e.1/\e.1<(i:Int)/\sz s e.2/\Av e.2) {t:Int} (t0:0<=t) (t1:t<(w.length:Int)) (h:FI s T i c w z0 t.toNat z):
 (z.length=n/\sz (gK s T i) (z.getD i zr)/\sz (gK s T i) (z.getD (gx F3 w t).1.toNat zr))/\∀r,(rv (z.getD (gx F3 w t).1.toNat zr)=0->r=z.getD i zr)->(rv (z.getD (gx F3 w t).1.toNat zr)≠0->r=rc (rv (z.getD i zr)-rv (gx F3 w t).2*rv (z.getD (gx F3 w t).1.toNat zr)))->FI s T i c w z0 (t+1).toNat (z.set i r):=by
 obtain⟨v,rfl,F,I,M⟩:=h;have E:=H6 (d:=F3) t0 t1;obtain⟨Q,R,A,B⟩:=hw _ E;have D:∀y∈w.take t.toNat,y.1<(gx F3 w t).1:=fun y hy=>by
  have f:(w.take (t+1).toNat).Pairwise (fun a b=>a.1<b.1):=g0r hasc;rw[show(t+1).toNat=t.toNat+1 from by omega,rP,H1 (d:=F3) t0 t1,tW]at f;exact f.2.2 y hy (gx F3 w t) (by simp)
 have J:=QU (d:=F3) t0 t1 (fun j=>rv (z0.getD j.toNat zr));have N:∀m:Nat,(∀e∈w.take (t+1).toNat,e.1<(m:Int))->(gx F3 w t).1<(m:Int):=fun m k=>k _ (by
  rw[show(t+1).toNat=t.toNat+1 from by omega,rP,H1 (d:=F3) t0 t1];simp)
 generalize gx F3 w t=e at*;have H:e.1.toNat≠i:=by omega
 have G:=l.1;rw[C9 H,A9 (by omega)];obtain⟨u,_⟩:=l.2 e.1.toNat (by omega);have f:=M e.1.toNat fun y hy=>by have:=D y hy;omega
 have o:∀m,1<=gK s T m:=fun m=>qW hT (Kf (rM m))
 refine⟨⟨by rw[qJ];exact G,F5 f (Kf (by omega)),F5 u.1 (Kf (by omega))⟩,fun r O P=> ?_⟩;have g:=A1p (x:=rv v) ⟨f,F,rfl⟩ B A hs u (o _) (o _) O P;refine⟨r,by rw[g3z],g.2.1, ?_,fun m k=> ?_⟩
 . rw[g.2.2,J,I];grind
 . refine F5 g.1 (qW ?_ (Kf (show e.1.toNat+1<=m by have:=N m k;omega)));simp only[gK];omega
def FI.done (k:FW s T n i Lm b z0) (G:i<n) (r:∀e∈w,0<=e.1/\e.1<(i:Int)) (x:∀j,j<i->A5 w (j:Int)=Lm i j) {t:Nat} (F:w.length<=t) (h:FI s T i (b i) w z0 t z):FW s T n (i+1) Lm b z:=by
 obtain⟨d,rfl,D,l,o⟩:=h;have E:=k.1;rw[qX F]at l o;have c:∀j,j<i->(z0.set i d).getD j zr=z0.getD j zr:=fun j A=>C9 (by omega)
 refine⟨by rw[qJ];exact E,fun j A=> ?_⟩;by_cases B:j=i
 . subst B;rw[A9 (by omega)];refine⟨⟨o j fun e y=>(r e y).2,D,rfl⟩, ?_⟩;rw[l,B8h r (fun m=>rv (z0.getD m zr)),B6 (f:=fun m=>Lm j m*rv ((z0.set j d).getD m zr)) (g:=fun m=>A5 w (m:Int)*rv (z0.getD m zr)) fun m a=>by rw[c m a,x m a]];grind
 . rw[c j (by omega)];obtain⟨u,v⟩:=k.2 j (by omega);refine⟨u, ?_⟩;rw[<-v];congr 1;exact B6 fun m a=>by rw[c m (by omega)]
def BW (s Y n i:Nat) (U:Nat->Nat->Rat) (y:Nat->Rat) (z:List C0):Prop:=z.length=n/\(∀j,j<i->zok Y (y j) (z.getD j zr))/\∀j,i<=j->j<n->(∃q,z.getD j zr=rc q/\qs (hK s Y (n-1-j)+s) q)/\B7 n (fun m=>U j m*rv (z.getD m zr))=y j
def BI (s Y n i:Nat) (c:Rat) (w:List D6) (z0:List C0) (t:Nat) (z:List C0):Prop:=∃a,z=z0.set i a/\Av a/\rv a=c-Mp (w.take t) (fun j=>rv (z0.getD j.toNat zr))/\∀m:Nat,i+1<=m->m<=n->(∀e∈w.take t,e.1<(m:Int))->∃k,1<=k/\sz k a/\k+hK s Y (n-m)<=hK s Y (n-1-i)+Y
variable {s Y n i:Nat} {c:Rat} {w:List D6} {z0 z:List C0} {U:Nat->Nat->Rat} {y:Nat->Rat}
def BI.init (g:BW s Y n (i+1) U y z0) (h:1<=Y) (k:i<n):BI s Y n i (y i) w z0 0 z0:=by
 obtain⟨c,d,f⟩:=g.2.1 i (rW _);refine⟨z0.getD i zr, ?_,d, ?_,fun m o r _=>⟨Y,h,c, ?_⟩⟩
 . refine yQ (by rw[qJ]) fun t j l=> ?_
   rw[g4h];split
   . rename_i e;subst e;rw[G5 _ _ j]
   . rfl
 . rw[f];simp only[g0v,Mp];rw[tH,wP,rL]
 . have:=Mr (s:=s) (T:=Y) (a:=n-m) (b:=n-1-i) (by omega);omega
def BI.next (k:BW s Y n (i+1) U y z0) (hs:1<=s) (hY:1<=Y) (hi:i<n) (hasc:Ir w) (hw:∀e∈w,(i:Int)<e.1/\e.1<(n:Int)/\sz s e.2/\Av e.2) {t:Int} (t0:0<=t) (t1:t<(w.length:Int)) (h:BI s Y n i c w z0 t.toNat z):
 (z.length=n/\sz (hK s Y n) (z.getD i zr)/\sz (hK s Y n+s) (z.getD (gx F3 w t).1.toNat zr))/\∀r,(rv (z.getD (gx F3 w t).1.toNat zr)=0->r=z.getD i zr)->(rv (z.getD (gx F3 w t).1.toNat zr)≠0->r=rc (rv (z.getD i zr)-rv (gx F3 w t).2*rv (z.getD (gx F3 w t).1.toNat zr)))->BI s Y n i c w z0 (t+1).toNat (z.set i r):=by
 obtain⟨v,rfl,F,N,P⟩:=h;have E:=H6 (d:=F3) t0 t1;obtain⟨X,Z,A,B⟩:=hw _ E;have D:∀y∈w.take t.toNat,y.1<(gx F3 w t).1:=fun y hy=>by
  have f:(w.take (t+1).toNat).Pairwise (fun a b=>a.1<b.1):=g0r hasc;rw[show(t+1).toNat=t.toNat+1 from by omega,rP,H1 (d:=F3) t0 t1,tW]at f;exact f.2.2 y hy (gx F3 w t) (by simp)
 have O:=QU (d:=F3) t0 t1 (fun j=>rv (z0.getD j.toNat zr));have Q:∀m:Nat,(∀e∈w.take (t+1).toNat,e.1<(m:Int))->(gx F3 w t).1<(m:Int):=fun m l=>l _ (by
  rw[show(t+1).toNat=t.toNat+1 from by omega,rP,H1 (d:=F3) t0 t1];simp)
 generalize gx F3 w t=e at*;have I:e.1.toNat≠i:=by omega
 have G:=k.1;rw[C9 I,A9 (by omega)];obtain⟨⟨q,J,M⟩,_⟩:=k.2.2 e.1.toNat (by omega) (by omega);obtain⟨a3,R,u,a4⟩:=P e.1.toNat (by omega) (by omega) fun y hy=>by have:=D y hy;omega
 have o:zok (hK s Y (n-1-e.1.toNat)+s) (rv (z0.getD e.1.toNat zr)) (z0.getD e.1.toNat zr):=by
  rw[J,D7];exact A5c M
 have a6:=Mr (s:=s) (T:=Y) (a:=n-1-i) (b:=n) (by omega);have a7:=Mr (s:=s) (T:=Y) (a:=n-1-e.1.toNat) (b:=n) (by omega);have a8:=Mr (s:=s) (T:=Y) (a:=0) (b:=n-e.1.toNat) (by omega);have a5:hK s Y 0=Y:=rfl;refine⟨⟨by rw[qJ];exact G,F5 u (by omega),F5 o.1 (by omega)⟩,fun r V W=> ?_⟩;have g:=A1p (x:=rv v) ⟨u,F,rfl⟩ B A hs o R (by omega) V W;refine⟨r,by rw[g3z],g.2.1, ?_,fun m l a2 H=>⟨_,by omega,g.1, ?_⟩⟩
 . rw[g.2.2,O,N];grind
 . have f:=Q m H;have a0:=Mr (s:=s) (T:=Y) (a:=n-m) (b:=n-1-e.1.toNat) (by omega);have a1:hK s Y (n-e.1.toNat)=2*hK s Y (n-1-e.1.toNat)+2*s+1:=by
    rw[show n-e.1.toNat=(n-1-e.1.toNat)+1 from by omega];rfl
   omega
def BI.done (o:BW s Y n (i+1) U y z0) (a2:1<=s) (a0:1<=Y) (a1:i<n) (g:∀e∈w,(i:Int)<e.1/\e.1<(n:Int)) (M:∀j,i<j->A5 w (j:Int)=U i j) (u:∀k m,m<k->k<n->U k m=0) (R:U i i≠0) (V:qs s (U i i)) {t:Nat} (W:w.length<=t) (h:BI s Y n i (y i) w z0 t z):
 sz (hK s Y n) (z.getD i zr)/\qs (hK s Y (n-1-i)+s) (rv (z.getD i zr)/U i i)/\BW s Y n i U y (z.set i (rc (rv (z.getD i zr)/U i i))):=by
 obtain⟨f,rfl,P,A,D⟩:=h;have Q:=o.1;rw[qX W]at A D;rw[A9 (by omega),g3z];obtain⟨k,X,E,Z⟩:=D n (by omega) (qZ _) fun e c=>(g e c).2
 rw[xO]at Z;have a3:hK s Y 0=Y:=rfl;have a4:=Mr (s:=s) (T:=Y) (a:=n-1-i) (b:=n) (by omega);have x:qs (hK s Y (n-1-i)+s) (rv f/U i i):=F8 (mD (U4 P E X) V) (by omega);refine⟨F5 E (by omega),x,by rw[qJ];exact Q,fun j O=> ?_,fun j O l=> ?_⟩
 . rw[C9 (by omega)];exact o.2.1 j (by omega)
 . have B:B7 n (fun m=>U j m*rv ((z0.set i (rc (rv f/U i i))).getD m zr))=B7 n (fun m=>if m=i then U j i*(rv f/U i i)else U j m*rv (z0.getD m zr)):=B6 fun m _=>by
    by_cases d:m=i
    . subst d;rw[qP rfl,A9 (by omega),D7]
    . rw[qL d,C9 d]
   by_cases v:j=i
   . subst v;refine⟨⟨_,A9 (by omega),x⟩, ?_⟩;rw[B];have I:Mp w (fun m=>rv (z0.getD m.toNat zr))=B7 n (fun m=>if m=j then 0 else U j m*rv (z0.getD m zr)):=by
      rw[kL (n:=n) fun e c=>⟨by have:=(g e c).1;omega,(g e c).2⟩];refine B6 fun m d=> ?_
      rw[qH];rcases Nat.lt_trichotomy m j with hmj|hmj|hmj
      . rw[qL (by omega),E3 fun e c N=>by have:=(g e c).1;omega,u j m hmj l]
      . rw[qP hmj,E3 fun e c N=>by have:=(g e c).1;omega,sZ]
      . rw[qL (by omega),M m hmj]
     have J:B7 n (fun m=>if m=j then U j j*(rv f/U j j)else U j m*rv (z0.getD m zr))=B7 n (fun m=>(if m=j then U j j*(rv f/U j j)else 0)+if m=j then 0 else U j m*rv (z0.getD m zr)):=B6 fun m _=>by
      split
      . rw[rL]
      . rw[tG]
     rw[J,Ax, <-I,O4 l fun m _ d=>qL d,qP rfl,A,xB,g4e,wO,g0y _ R,g3d];grind
   . obtain⟨⟨q,F,G⟩,H⟩:=o.2.2 j (by omega) l;refine⟨⟨q,by rw[C9 v];exact F,G⟩, ?_⟩;rw[B, <-H];refine B6 fun m d=> ?_
     by_cases r:m=i
     . rw[qP r,r,u j i (by omega) l,sZ,sZ]
     . rw[qL r]
def C4i {T n:Nat} {L U:Nat->Nat->Rat} {b:Nat->Rat} {v:Nat->Rat} {y:Nat->Rat} (d:∀j,j<n->y j+B7 j (fun m=>L j m*y m)=b j) (f:∀j,j<n->B7 n (fun m=>U j m*v m)=y j) (h:∀i,i<n->L i i=1) (l:∀i j,i<j->j<n->L i j=0) {i:Nat} (a:i<n):
 B7 n (fun j=>B7 n (fun k=>L i k*U k j)*v j)=b i:=by
 have c:B7 n (fun j=>B7 n (fun k=>L i k*U k j)*v j)=B7 n fun k=>L i k*y k:=by
  rw[B6 (g:=fun j=>B7 n fun k=>L i k*(U k j*v j)) fun j _=>by rw[<-SL];exact B6 fun k _=>wO _ _ _,Jw];exact B6 fun k o=>by rw[Dy,f k o]
 rw[c, <-d i a];have c:∀t,i+1+t<=n->B7 (i+1+t) (fun k=>L i k*y k)=y i+B7 i (fun m=>L i m*y m):=by
  intro t
  induction t with
  |zero=>intro _;rw[tD,B7,h i a,wU,g4d]
  |succ t a=>intro d;rw[<-uK,B7,a (by omega),l i (i+1+t) (by omega) (by omega),sZ,rL]
 have:=c (n-(i+1)) (by omega);rwa[show i+1+(n-(i+1))=n from by omega]at this
def EL (x:A2 Az.args) (_:awf Az.args x) (i:Az.pre x):Rb x:=by
 obtain⟨⟨P,Q,⟨j,lc,L⟩,⟨l,k,U⟩⟩,b,_⟩:=x;obtain⟨f,c,d⟩:=i;simp only[Rb,iB,Ni];refine⟨⟨qD _,Int.ofNat_le.2 f,c,d⟩, ?_⟩;rintro⟨r,_⟩ _ a;change Bool at r;simp only at a⊢;cases r with
 |false=>
  have g:¬Bz (P,Q,(j,lc,L),(l,k,U)) (P.length:Int):=fun h=>by have:=a.2 h;cases this
  exact⟨fun _=>⟨fun _=>by trivial,fun h=>absurd h g⟩,fun h=>(by cases h)⟩
 |true=>
  have h:=a.1 rfl;refine⟨fun h=>(by cases h),fun _=>⟨fun hne=>⟨fun h2=>absurd h h2,fun _=>⟨fun _=>by trivial,fun he=>absurd (tL Int.ofNat he) (qA hne)⟩⟩,fun heq=>⟨fun h2=>absurd h h2,fun _=>⟨fun hne=>absurd (g1i (qQ (qB heq))) hne,fun _=>by trivial⟩⟩⟩⟩
def GT {p:Xr} {n:Nat} (h:N4 p (n:Int)):p.length=n/\(∀a,a<n->p.getD a 0=(ix p a:Int)/\ix p a<n)/\∀a b,a<n->b<n->ix p a=ix p b->a=b:=by
 obtain⟨c,g,i⟩:=h;have k:p.length=n:=by omega
 have c:∀a,a<n->p.getD a 0=(ix p a:Int)/\ix p a<n:=fun a f=>by
  have:=g _ (B4 (d:=0) (show a<p.length by omega));unfold ix;omega
 refine⟨k,c,fun a b f j e=> ?_⟩;have g:=(c a f).1;have f:=(c b j).1;rw[<-e]at f;have c:p.getD a 0=p.getD b 0:=g.trans f.symm;rw[G5 _ _ (by omega),G5 _ _ (by omega)]at c;exact(wL i).1 c
def C3p {v:List D6} {n:Int} (h:N0 v n) {i:Nat} (r:(i:Int)<n) (k:∀j:Nat,(j:Int)<n->i<j->A5 v (j:Int)=0) (o:A5 v (i:Int)=1):v≠ []/\Ir (v.take (v.length-1))/\(∀e∈v.take (v.length-1),e∈v/\0<=e.1/\e.1<(i:Int))/\∀j:Nat,j<i->A5 (v.take (v.length-1)) (j:Int)=A5 v (j:Int):=by
 obtain⟨f,y,z⟩:=(A6k h r).2 ⟨k,o⟩;have A:0<v.length:=vA.2 f;have c:v=v.take (v.length-1)++ [gx F3 v ((v.length:Int)-1)]:=by
  have:=Fj (d:=F3) (l:=v) (t:=(v.length:Int)-1) (by omega) (by omega);rw[show((v.length:Int)-1+1).toNat=v.length from by omega,uT,show((v.length:Int)-1).toNat=v.length-1 from by omega]at this;exact this
 generalize gx F3 v ((v.length:Int)-1)=l at*;have b:=h.1;generalize u:v.take (v.length-1)=w at*;have s:∀e∈w,e.1<(i:Int):=fun e a=>by
  rw[c]at b;have:=(tW.1 b).2.2 e a l (qR.2 rfl);omega
 refine⟨f,u▸g0r b,fun e a=> ?_,fun j x=> ?_⟩
 . have g:e∈v:=by rw[c];exact sM _ a
   exact⟨g,(h.2 e g).1,s e a⟩
 . rw[c,O2];have:A5 [l] (j:Int)=0:=E3 fun e a hej=>by
    rw[qR]at a;subst a;omega
   rw[this,rL]
def C8r {v:List D6} {n:Int} (h:N0 v n) {i:Nat} (c:∀j:Nat,j<i->A5 v (j:Int)=0) (d:A5 v (i:Int)≠0):1<=v.length/\gx F3 v 0∈v/\rv (gx F3 v 0).2=A5 v (i:Int)/\Ir (v.drop 1)/\(∀e∈v.drop 1,e∈v/\(i:Int)<e.1/\e.1<n)/\∀j:Nat,i<j->A5 (v.drop 1) (j:Int)=A5 v (j:Int):=by
 obtain⟨k,b⟩:=(B7g h).2 ⟨c,d⟩;cases v with
 |nil=>exact absurd rfl k
 |cons e r=>
  have g:gx F3 (e::r) 0=e:=rfl;rw[g]at b⊢;obtain⟨f,l⟩:=I9.1 h.1;refine⟨by rw[rH];omega,rB, ?_,l,fun x a=>⟨qM _ a, ?_,(h.2 x (qM _ a)).2.1⟩,fun j o=> ?_⟩
  . rw[<-b,O1 h.1]
  . have:=f x a;omega
  . exact(Cu (by omega)).symm
def fwI (P:Xr) (ML MU:Dn) (b:List C0) (p:Int×List C0×Unit):Prop:=0<=p.1/\p.1<=(P.length:Int)/\∀s T,1<=s->1<=T->X0 s ML->X0 s MU->Db T b->FW s T P.length p.1.toNat (el ML) (fun i=>rv (b.getD (ix P i) zr)) p.2.1
def fiI (i:Nat) (c:Rat) (w:List D6) (ML MU:Dn) (b z0:List C0) (p:Int×List C0×Unit):Prop:=0<=p.1/\p.1<=(w.length:Int)/\∀s T,1<=s->1<=T->X0 s ML->X0 s MU->Db T b->FI s T i c w z0 p.1.toNat p.2.1
def bwI (n:Nat) (Q:Xr) (ML MU:Dn) (b:List C0) (y:Nat->Rat) (p:Int×List C0×List C0×Unit):Prop:=0<=p.1/\p.1<=(n:Int)/\(∀s T,1<=s->1<=T->X0 s ML->X0 s MU->Db T b->BW s (gK s T n) n (n-p.1.toNat) (el MU) y p.2.1)/\p.2.2.1.length=n/\∀j,n-p.1.toNat<=j->j<n->p.2.2.1.getD (ix Q j) zr=p.2.1.getD j zr
def biI (n i:Nat) (c:Rat) (w:List D6) (ML MU:Dn) (b z0:List C0) (p:Int×List C0×Unit):Prop:=0<=p.1/\p.1<=(w.length:Int)/\∀s T,1<=s->1<=T->X0 s ML->X0 s MU->Db T b->BI s (gK s T n) n i c w z0 p.1.toNat p.2.1
def C0n {T:Nat} {b:List C0} (h:Db T b) {i:Nat} (a:i<b.length):sz T (b.getD i zr):=h _ (B4 a)
def LO (x:A2 Ay.args) (b5:awf Ay.args x) (cp:Ay.pre x):Yx x:=by
 obtain⟨⟨P,Q,⟨b7,lc,L⟩,⟨bd,av,U⟩⟩,b,_⟩:=x;change Xr at P Q;change List (List D6)at L U;change List C0 at b;change Int at b7 lc bd av;have cj:dW (b7,lc,L):=Wz b5.1.2.2.1.2.2.2;have ck:dW (bd,av,U):=Wz b5.1.2.2.2.2.2.2;have cm:∀x∈b,Av x:=fun x hx=>N7 (b5.2.1.2 x hx)
 obtain⟨b1,cg,ch,ce⟩:=cp;simp only[Yx,iB,Cw,H4];refine⟨⟨b1,cg,ch⟩, ?_⟩;rintro⟨E,_⟩ _ aa;change Int at E;simp only at aa⊢;by_cases O:Bz (P,Q,(b7,lc,L),(bd,av,U)) (P.length:Int)
 case neg=>
  have ah:E=1:=aa.1 O;subst ah;exact⟨fun _=>⟨fun _=>⟨by trivial,by trivial⟩,fun A=>absurd A O⟩,fun A=>absurd A (by simp)⟩
 by_cases Z:b.length=P.length
 case neg=>
  have ah:E=4:=(aa.2 O).1 Z;subst ah;exact⟨fun _=>⟨fun A=>absurd O A,fun _=>⟨fun _=>⟨by trivial,by trivial⟩,fun A=>absurd A Z⟩⟩,fun A=>absurd A (by simp)⟩
 have ah:E=0:=(aa.2 O).2 Z;subst ah;refine⟨fun A=>absurd A (by simp),fun _=> ?_⟩;obtain⟨f,T0,a2,X,a3,R,ai,bl⟩:=ce O Z;obtain⟨bn,bo,⟨bx,ar,bs⟩,⟨bz,au,bt⟩,a4⟩:=id O;simp only at bn bo bx ar bz au;obtain⟨_,bi,d5⟩:=GT bn;obtain⟨cz,bj,bw⟩:=GT bo;subst bx bz;have ar:lc=(P.length:Int):=ar;have au:av=(P.length:Int):=au;subst ar au;have b1:P.length<=16384:=b1;have bl:hK f (gK f T0 P.length) P.length+f<=K1:=bl;have Z:b.length=P.length:=Z;have c7:L.length=P.length:=g1i bs.2.2.2.2.1;have ca:U.length=P.length:=g1i bt.2.2.2.2.1;have c9:∀i,i<P.length->N0 (L.getD i []) (P.length:Int)/\CK (L.getD i []):=fun i D=>by
  have a0:=B4 (d:=([]:List D6)) (show i<L.length by omega);exact⟨bs.2.2.2.2.2 _ a0,cj _ a0⟩
 have cb:∀i,i<P.length->N0 (U.getD i []) (P.length:Int)/\CK (U.getD i []):=fun i D=>by
  have a0:=B4 (d:=([]:List D6)) (show i<U.length by omega);exact⟨bt.2.2.2.2.2 _ a0,ck _ a0⟩
 have cc:∀i,i<P.length->ix P i<b.length/\Av (b.getD (ix P i) zr):=fun i D=>by
  have:=(bi i D).2;exact⟨by omega,cm _ (B4 (by omega))⟩
 have d7:hK f (gK f T0 P.length) 0<=hK f (gK f T0 P.length) P.length:=Mr (rM _);have d6:hK f (gK f T0 P.length) 0=gK f T0 P.length:=rfl;have d8:T0<=gK f T0 P.length:=Kf (a:=0) (rM _);refine⟨⟨qD _,qG _,by omega,by omega⟩,fwI P (↑P.length, ↑P.length,L) (↑P.length, ↑P.length,U) b,fun p=>((P.length:Int)-p.1).toNat,⟨qG _,qD _,fun s T _ _ _ _ _=>⟨rC,fun j c=>absurd c (uY j)⟩⟩, ?_⟩;rintro⟨i,z,_⟩ _ ⟨V,cw,a7⟩;change Int at i;change List C0 at z;simp only at V cw a7⊢;have an:=a7 f T0 a2 X a3 R ai;refine⟨fun D=> ?_,fun D=> ?_⟩
 . have D:=qA D;have M:i.toNat<P.length:=by omega
   obtain⟨c5,d2⟩:=bi _ M;obtain⟨ay,cd⟩:=cc _ M;rw[E5 (d:=(0:Int)) V D,YX V (show i<(L.length:Int)by omega),c5];obtain⟨ab,aq⟩:=c9 _ M;obtain⟨co,Y,F,b6⟩:=C3p ab (i:=i.toNat) (by omega) (fun j c hij=>(a4 i.toNat j (sB.2 M) c).1 hij) (a4 i.toNat i.toNat (sB.2 M) (sB.2 M)).2.1;have cn:0<(L.getD i.toNat []).length:=vA.2 co;have d4:=Gk ab;have c8:∀s,X0 s ((P.length:Int),(P.length:Int),L)->∀e∈L.getD i.toNat [],sz s e.2:=fun s hh=>hh _ (B4 (l:=L) (show i.toNat<L.length by omega))
   have a9:∀j:Nat,el ((P.length:Int),(P.length:Int),L) i.toNat j=A5 (L.getD i.toNat []) (j:Int):=fun _=>rfl
   generalize L.getD i.toNat []=v at*;rw[wv (by omega),show((v.length:Int)-1).toNat=v.length-1 from by omega];simp only[show Int.toNat 0=0 from rfl,tV];generalize v.take (v.length-1)=w at*;have a5:∀s,X0 s ((P.length:Int),(P.length:Int),L)->∀e∈w,0<=e.1/\e.1<(i.toNat:Int)/\sz s e.2/\Av e.2:=fun s hh e o=>by
    obtain⟨bh,c3,c4⟩:=F e o;exact⟨c3,c4,c8 s hh e bh,aq e bh⟩
   have ct:w.length<=16384:=by
    have:=Gk (n:=(i.toNat:Int)) (v:=w) ⟨Y,fun e o=>⟨(F e o).2.1,(F e o).2.2,(ab.2 e (F e o).1).2.2⟩⟩;omega
   refine⟨⟨V,D⟩,⟨qD _,sB.2 ay⟩,⟨V,by rw[an.1];exact D⟩,⟨V,by rw[c7];exact D⟩,⟨qG _,by omega,by omega⟩,fiI i.toNat (rv (b.getD (ix P i.toNat) zr)) w (↑P.length, ↑P.length,L) (↑P.length, ↑P.length,U) b z,fun p=>((w.length:Int)-p.1).toNat,⟨qG _,qD _,fun s T g h t r u=> ?_⟩, ?_⟩
   . show FI s T i.toNat (rv (b.getD (ix P i.toNat) zr)) w z 0 (z.set i.toNat (gx dQ b ↑(ix P i.toNat)));rw[E5 (d:=dQ) (qD _) (sB.2 ay),qH];exact FI.init ⟨C0n u ay,cd,rfl⟩
   rintro⟨am,y,_⟩ _ ⟨G,bc,J⟩;change Int at am;change List C0 at y;simp only at G bc J⊢;have af:=J f T0 a2 X a3 R ai;refine⟨fun B=> ?_,fun B=> ?_⟩
   . have B:=qA B;obtain⟨⟨ad,b8,b9⟩,_⟩:=FI.next an X a2 M Y (a5 f a3) G B af
     have az:=H6 (d:=F3) G B;obtain⟨bf,bg,aw,c2⟩:=a5 f a3 _ az;have d3:gK f T0 i.toNat<=gK f T0 P.length:=Kf (by omega);rw[wv (by omega)];refine⟨⟨G,B⟩,⟨V,by rw[ad];exact D⟩,⟨bf,by rw[ad];omega⟩,⟨F5 b8 (by omega),F5 aw (by omega),F5 b9 (by omega)⟩, ?_⟩;rintro⟨E,_⟩ _ ⟨ba,bb⟩;change C0 at E;exact⟨⟨V,by rw[ad];exact D⟩,⟨by simp only;omega,by simp only;omega,fun s T g h t r u=>(FI.next (a7 s T g h t r u) h g M Y (a5 s t) G B (J s T g h t r u)).2 E ba bb⟩,by omega⟩
   . have B:=qB B;rw[wv (by omega)];refine⟨⟨by simp only;omega,by simp only;omega,fun s T g h t r u=> ?_⟩,by omega⟩;simp only;rw[show(i+1).toNat=i.toNat+1 from by omega];exact FI.done (a7 s T g h t r u) M (fun e o=>⟨(F e o).2.1,(F e o).2.2⟩) (fun j c=>(b6 j c).trans (a9 j).symm) (show w.length<=am.toNat by omega) (J s T g h t r u)
 have D:=qB D;have cf:i.toNat=P.length:=by omega
 rw[cf]at a7 an;refine⟨⟨qD _,qG _,by omega,by omega⟩,bwI P.length Q (↑P.length, ↑P.length,L) (↑P.length, ↑P.length,U) b (fun j=>rv (z.getD j zr)),fun p=>((P.length:Int)-p.1).toNat,⟨qG _,qD _,fun s T g h t r u=> ?_,rC,fun j H W=> ?_⟩, ?_⟩
 . have A:=a7 s T g h t r u;exact⟨A.1,fun j c=>dE (A.2 j c).1 (Kf (show j<=P.length from wC c)),fun j H W=>absurd W (Nat.not_lt.2 H)⟩
 . simp only[Int.toNat_zero,g2b]at H;omega
 rintro⟨k,ae,be,_⟩ _ ⟨cx,cy,N,aj,ak⟩;change Int at k;change List C0 at ae be;simp only at cx cy N aj ak⊢;have a6:=N f T0 a2 X a3 R ai;refine⟨fun ag=> ?_,fun ag=> ?_⟩
 . have ag:=qA ag;obtain⟨q,I,cq,cr,bp⟩:∃q:Nat,q<P.length/\(P.length:Int)-1-k=(q:Int)/\P.length-k.toNat=q+1/\P.length-(k+1).toNat=q:=⟨P.length-1-k.toNat,by omega,by omega,by omega,by omega⟩;have cu:i64.wrap (i64.wrap ((P.length:Int)-1)-k)=(q:Int):=by
    rw[wv (a:=(P.length:Int)-1) (by omega),wv (by omega)];exact cq
   rw[cr]at N a6 ak;obtain⟨c6,bk⟩:=bj q I;have a1:(q:Int)<(P.length:Int):=sB.2 I;obtain⟨ab,aq⟩:=cb q I;have ax:∀s,X0 s ((P.length:Int),(P.length:Int),U)->∀e∈U.getD q [],sz s e.2:=fun s hh=>hh _ (B4 (l:=U) (show q<U.length by omega))
   have a9:∀j:Nat,el ((P.length:Int),(P.length:Int),U) q j=A5 (U.getD q []) (j:Int):=fun _=>rfl
   have b2:A5 (U.getD q []) (q:Int)≠0:=(a4 q q a1 a1).2.2.2;obtain⟨cn,b0,b4,Y,F,b6⟩:=C8r ab (i:=q) (fun j c=>(a4 q j a1 (by omega)).2.2.1 c) b2;simp only[cu];rw[YX (qD q) (show(q:Int)<(U.length:Int)by omega),E5 (d:=(0:Int)) (qD q) (show(q:Int)<(Q.length:Int)by omega)];simp only[qH,uT,show Int.toNat 1=1 from rfl];rw[c6];simp only[qH];generalize U.getD q []=v at*;generalize v.drop 1=w at*;have a5:∀s,X0 s ((P.length:Int),(P.length:Int),U)->∀e∈w,(q:Int)<e.1/\e.1<(P.length:Int)/\sz s e.2/\Av e.2:=fun s hh e o=>by
    obtain⟨bh,c3,c4⟩:=F e o;exact⟨c3,c4,ax s hh e bh,aq e bh⟩
   have ct:w.length<=16384:=by
    have:=Gk (n:=(P.length:Int)) (v:=w) ⟨Y,fun e o=>⟨by have:=(F e o).2.1;omega,(F e o).2.2,(ab.2 e (F e o).1).2.2⟩⟩;omega
   have cl:(q:Int)<(U.length:Int):=by rw[ca];exact a1
   have ao:∀s T,1<=T->1<=gK s T P.length:=fun s T A=>qW A (Kf (a:=0) (rM _))
   refine⟨⟨qD _,cl⟩,⟨by decide,by omega,qG _⟩,biI P.length q (rv (z.getD q zr)) w (↑P.length, ↑P.length,L) (↑P.length, ↑P.length,U) b ae,fun p=>((w.length:Int)-p.1).toNat,⟨qG _,qD _,fun s T g h t r u=>BI.init (N s T g h t r u) (ao s T h) I⟩, ?_⟩;rintro⟨am,y,_⟩ _ ⟨G,bc,J⟩;change Int at am;change List C0 at y;simp only at G bc J⊢;have af:=J f T0 a2 X a3 R ai;refine⟨fun B=> ?_,fun B=> ?_⟩
   . have B:=qA B;obtain⟨⟨ad,b8,b9⟩,_⟩:=BI.next a6 a2 (ao f T0 X) I Y (a5 f R) G B af
     have az:=H6 (d:=F3) G B;obtain⟨bf,bg,aw,c2⟩:=a5 f R _ az;have ac:(q:Int)<(y.length:Int):=by rw[ad];exact a1
     rw[wv (by omega)];refine⟨⟨G,B⟩,⟨qD _,ac⟩,⟨by omega,by rw[ad];exact bg⟩,⟨F5 b8 (by omega),F5 aw (by omega),F5 b9 (by omega)⟩, ?_⟩;rintro⟨E,_⟩ _ ⟨ba,bb⟩;change C0 at E;exact⟨⟨qD _,ac⟩,⟨by simp only;omega,by simp only;omega,fun s T g h t r u=>(BI.next (N s T g h t r u) g (ao s T h) I Y (a5 s r) G B (J s T g h t r u)).2 E ba bb⟩,by omega⟩
   have B:=qB B;have bm:∀s T,1<=s->1<=T->X0 s ((P.length:Int),(P.length:Int),L)->X0 s ((P.length:Int),(P.length:Int),U)->Db T b-> _:=fun s T g h t r u=>BI.done (N s T g h t r u) g (ao s T h) I (fun e o=>(F e o).2) (fun j c=>(b6 j c).trans (a9 j).symm) (fun a m a0 a8=>(a4 a m (sB.2 a8) (by omega)).2.2.1 a0) (by rw[a9];exact b2) (by rw[a9, <-b4];exact U4 (aq _ b0) (ax s r _ b0) g) (show w.length<=am.toNat by omega) (J s T g h t r u)
   obtain⟨c0,d0,d1⟩:=bm f T0 a2 X a3 R ai;have ac:y.length=P.length:=by
    obtain⟨bh,rfl,_⟩:=af;rw[qJ];exact a6.1
   have cv:∀j,j≠q->y.getD j zr=ae.getD j zr:=fun j c=>by
    obtain⟨bh,rfl,_⟩:=af;exact C9 c
   have b3:(q:Int)<(y.length:Int):=by rw[ac];exact a1
   refine⟨⟨qD _,b3⟩,⟨by decide,by omega⟩,⟨J8 (k:=K1) (F5 c0 (by omega)) (by decide),J8 (ax f R _ b0) (qW (show f<=K1 by omega) (by decide))⟩, ?_⟩;rintro⟨E,d9,_⟩ _ ⟨_,bq⟩;change C0 at E;simp only at bq⊢;have aa:E=rc (rv (y.getD q zr)/el ((P.length:Int),(P.length:Int),U) q q):=by
    rw[a9, <-b4];exact(bq (by rw[b4];exact b2)).1
   rw[show(List.set y q E).getD q dQ=E from A9 (by rw[ac];exact I),wv (by omega)];refine⟨⟨qD _,b3⟩,⟨qD _,by rw[cz];exact a1⟩,⟨qD _,by rw[qJ];exact b3⟩,⟨qD _,by rw[aj];exact sB.2 bk⟩,⟨by simp only;omega,by simp only;omega,fun s T g h t r u=> ?_,by simp only;rw[qJ];exact aj,fun j H W=> ?_⟩,by omega⟩
   . simp only;rw[bp,aa];exact(bm s T g h t r u).2.2
   . simp only at H⊢;rw[bp]at H;by_cases ap:j=q
     . subst ap;rw[A9 (by rw[aj];exact bk),A9 (by rw[ac];exact I)]
     . rw[C9 fun e=>ap (bw j q W I e),C9 ap,cv j ap];exact ak j (by omega) W
 have ag:=qB ag;have ci:P.length-k.toNat=0:=by omega
 rw[ci]at N a6 ak;have bv:∀j,j<P.length->be.getD (ix Q j) zr=ae.getD j zr:=fun j c=>ak j (rM _) c
 have bu:∀e∈be,∃j,j<P.length/\e=ae.getD j zr:=fun e o=>by
  obtain⟨a,a8,rfl⟩:=P3 zr o;obtain⟨j,c,bh⟩:=Ft (fun a a8=>(bj a a8).2) bw (show a<P.length by omega);exact⟨j,c,by rw[<-bh];exact bv j c⟩
 refine⟨fun A=>absurd O A,fun _=>⟨fun A=>absurd Z A,fun _=>⟨by trivial,aj,fun e o=> ?_,fun s T g h t r u e o=> ?_,fun a a8=> ?_⟩⟩⟩
 . obtain⟨j,c,rfl⟩:=bu e o;obtain⟨⟨x,H,_⟩,_⟩:=a6.2.2 j (rM _) c;rw[H,D7]
 . obtain⟨j,c,rfl⟩:=bu e o;obtain⟨⟨x,H,W⟩,_⟩:=(N s T g h t r u).2.2 j (rM _) c;rw[H];have:=Mr (s:=s) (T:=gK s T P.length) (a:=P.length-1-j) (b:=P.length) (by omega);exact Vm (F8 W (by omega))
 . have cs:=C4i (T:=T0) (L:=el ((P.length:Int),(P.length:Int),L)) (U:=el ((P.length:Int),(P.length:Int),U)) (v:=fun j=>rv (ae.getD j zr)) (fun j c=>(an.2 j c).2) (fun j c=>(a6.2.2 j (rM _) c).2) (fun i D=>(a4 i i (sB.2 D) (sB.2 D)).2.1) (fun i j hij c=>(a4 i j (by omega) (sB.2 c)).1 hij) a8;refine Eq.trans (B6 fun j c=> ?_) cs;rw[bv j c];rfl
def ND:An:= {loop:= [(4,⟨[0,13,14],[],[(15,false,vI)],[],[]⟩)]}
def BL:An:= {loop:= [(3,⟨[3,8],[],[(9,false,vI)],[],[(0, .row (.int .i64) 3)]⟩)]}
def HM:An:= {loop:= [(6,⟨[0,7,20,21],[],[(22,false,vI)],[],[(0, .row (.int .i64) 3)]⟩),(12,⟨[7,10,33],[],[(34,false,vI)],[],[(0, .row (.int .i64) 3),(1, .row (.int .i64) 3)]⟩)]}
def Zz:An:= {plan:= [(1,[2],[3,7],false,(.p 0 (.p 1 (.q 2 (.p 4 (.p 5 (.or 3 (.e 6 (.e 7 (.p 8 (.p 9 .done)))) (.e 6 (.e 3 (.e 7 (.p 8 (.p 9 .done))))))))))))]}
def Wo:An:= {loop:= [(1,⟨[0],[],[(1,false,vI)],[],[(0, .row (.int .i64) 3)]⟩)]}
abbrev C4w:=Int×List (Int×Int)×Unit
def Rr:A2 Bn.args->Prop:=fun(x:C4w)=>let i:=(decide (16384<x.1));let h:=(1:Int);let e:=(↑(2:Nat):Int);let d:=(x.2.1.length:Int);let b:=(0:Int);(iB (L8 (decide (x.1<b)) true i) ((3:Int)=Qd x.1 x.2.1) (∃(I:C8->Prop),∃(k: _->Nat),I (b,())/\∀(p:C8),let f:=(i64.wrap (p.1+h),());let a:=(gx (b,b) x.2.1 p.1);let l:=(decide (x.1<=a.2));let j:=(decide (x.1<=a.1));let g:=(decide (a.2<b));let c:=(L8 (decide (a.1<b)) true j);(Ty.int i64).wf p.1/\True->I p->(iB (decide (p.1<d)) ((b<=p.1/\p.1<d)/\(b<=b/\b<e)/\(decide (a.1<b)=false->b<=b/\b<e)/\(L8 (decide (a.1<b)) true j=false->b<=h/\h<e)/\(L8 c true g=false->b<=h/\h<e)/\(iB (L8 (L8 c true g) true l) ((12:Int)=Qd x.1 x.2.1) (I f/\k f<k p))) (b=Qd x.1 x.2.1))))
def Lh:A2 S9.args->Prop:=fun(x:C8)=>let c:=(0:Int);(c<=x.1/\x.1<=x.1/\(↑(8:Nat):Int)*x.1<=281474976710656/\x.1<=9223372036854775807)/\∃(I:LH->Prop),∃(d: _->Nat),I (c,List.replicate x.1.toNat c,())/\∀(p:LH),let b:Prop:=(p.1<(↑(List.replicate x.1.toNat c).length:Int));let a:=(i64.wrap (p.1+1),List.set p.2.1 p.1.toNat p.1,());(Ty.int i64).wf p.1/\MK p.2.1/\True->I p->(iB (decide b) ((c<=p.1/\p.1<(p.2.1.length:Int))/\I a/\d a<d p) (p.2.1=pC x.1))
def Mk:A2 W5.args->Prop:=fun(x:C4w)=>let d:=(x.2.1.length:Int);let b:=(0:Int);True/\Cw fun r=>r.1=Qd x.1 x.2.1->(iB (decide (r.1≠b)) ((O8 Int=if Qd x.1 x.2.1=b then K7 x.1 x.2.1 else [])/\r.1=Qd x.1 x.2.1) ((b<=x.1/\x.1<=16384)/\rT7 fun j=>j.1=pC x.1->∃(I:LH->Prop),∃(μ: _->Nat),I (b,j)/\∀(p:LH),let g:=(p.2.1.length:Int);let a:=(gx (b,b) x.2.1 p.1);(Ty.int i64).wf p.1/\MK p.2.1/\True->I p->(iB (decide (p.1<d)) ((b<=p.1/\p.1<d)/\(UF p.2.1/\VN g a/\List.length p.2.1<=16384)/\∀(k:V4) (o:Sq),let f:=(i64.wrap (p.1+1),o);True/\True->(Ty.int i64).sl.wf o.1/\True->k.1=decide (root p.2.1 a.1≠root p.2.1 a.2)->(UF o.1/\o.1.length=List.length p.2.1/\∀(i:Int),b<=i->i<g->root o.1 i=if root p.2.1 i=Max.max (root p.2.1 a.1) (root p.2.1 a.2)then Min.min (root p.2.1 a.1) (root p.2.1 a.2)else root p.2.1 i)->I f/\μ f<μ p) ((b<=x.1/\x.1<=x.1/\(↑(8:Nat):Int)*x.1<=281474976710656/\x.1<=9223372036854775807)/\∃(I:C0s->Prop),∃(μ: _->Nat),I (b,p.2.1,List.replicate x.1.toNat b,())/\∀(p:C0s),let h:=(p.2.1.length:Int);let e:Prop:=(p.1<(↑(List.replicate x.1.toNat b).length:Int));(Ty.int i64).wf p.1/\MK p.2.1/\MK p.2.2.1/\True->I p->(iB (decide e) ((UF p.2.1/\b<=p.1/\p.1<h/\List.length p.2.1<=16384)/\∀(r:C8) (o:Sq),let c:=(i64.wrap (p.1+1),o.1,List.set p.2.2.1 p.1.toNat r.1,());I2 r.1/\True->(Ty.int i64).sl.wf o.1/\True->r.1=root p.2.1 p.1->(UF o.1/\o.1.length=List.length p.2.1/\∀(i:Int),b<=i->i<h->root o.1 i=root p.2.1 i)->(b<=p.1/\p.1<(p.2.2.1.length:Int))/\I c/\μ c<μ p) ((p.2.2.1=if Qd x.1 x.2.1=b then K7 x.1 x.2.1 else [])/\b=Qd x.1 x.2.1))))))
def q2 (x:Xr×(Int×Int)×Unit) (r:C8) (j:C8) (k:Sq) (i:Int):Prop:=root (k.1.set (Max.max r.1 j.1).toNat (Min.min r.1 j.1)) i=if root x.1 i=Max.max (root x.1 x.2.1.1) (root x.1 x.2.1.2)then Min.min (root x.1 x.2.1.1) (root x.1 x.2.1.2)else root x.1 i
def Jm:A2 R2.args->Prop:=fun(x:Xr×(Int×Int)×Unit)=>let g:=(↑x.1.length:Int);let e:=(16384:Nat);let d:Prop:=(root x.1 x.2.1.1≠root x.1 x.2.1.2);let c:=(x.1.length:Int);let b:=(0:Int);let a:Prop:=(UF x.1/\b<=x.2.1.1/\x.2.1.1<c/\List.length x.1<=e);(b<=b/\b<(↑(2:Nat):Int))/\(b<=(1:Int)/\(1:Int)<(↑(2:Nat):Int))/\(a/\∀(r:C8) (o:Sq),let f:=(↑o.1.length:Int);I2 r.1/\True->(Ty.int i64).sl.wf o.1/\True->r.1=root x.1 x.2.1.1->(UF o.1/\o.1.length=List.length x.1/\∀(i:Int),b<=i->i<c->root o.1 i=root x.1 i)->(UF o.1/\b<=x.2.1.2/\x.2.1.2<f/\o.1.length<=e)/\∀(j:C8) (k:Sq),I2 j.1/\True->(Ty.int i64).sl.wf k.1/\True->j.1=root o.1 x.2.1.2->(UF k.1/\k.1.length=o.1.length/\∀(i:Int),b<=i->i<f->root k.1 i=root o.1 i)->(b<=Max.max r.1 j.1/\Max.max r.1 j.1<(↑k.1.length:Int))/\decide (r.1≠j.1)=decide d/\UF (k.1.set (Max.max r.1 j.1).toNat (Min.min r.1 j.1))/\(k.1.set (Max.max r.1 j.1).toNat (Min.min r.1 j.1)).length=x.1.length/\∀(i:Int),b<=i->i<g->q2 x r j k i)/\a/\∀(r:C8) (o:Sq),let h:=(↑o.1.length:Int);I2 r.1/\True->(Ty.int i64).sl.wf o.1/\True->r.1=root x.1 x.2.1.1->(UF o.1/\o.1.length=List.length x.1/\∀(i:Int),b<=i->i<c->root o.1 i=root x.1 i)->(UF o.1/\b<=x.2.1.2/\x.2.1.2<h/\o.1.length<=e)/\∀(j:C8) (k:Sq),I2 j.1/\True->(Ty.int i64).sl.wf k.1/\True->j.1=root o.1 x.2.1.2->(UF k.1/\k.1.length=o.1.length/\∀(i:Int),b<=i->i<h->root k.1 i=root o.1 i)->(b<=Max.max r.1 j.1/\Max.max r.1 j.1<(↑k.1.length:Int))/\decide (r.1≠j.1)=decide d/\UF (k.1.set (Max.max r.1 j.1).toNat (Min.min r.1 j.1))/\(k.1.set (Max.max r.1 j.1).toNat (Min.min r.1 j.1)).length=x.1.length/\∀(i:Int),b<=i->i<g->q2 x r j k i
def Ip:A2 P5.args->Prop:=fun(x:WB)=>let d:=(0:Int);∃(I:LH->Prop),∃(g: _->Nat),I (x.2.1,x.1,())/\∀(p:LH),let f:=(p.2.1.length:Int);let c:Prop:=(d<=p.1/\p.1<f);let b:=p.1.toNat;let j:Prop:=(List.getD p.2.1 b d≠p.1);let a:=(List.getD p.2.1 (List.getD p.2.1 b d).toNat d);let h:=(List.set p.2.1 b a);let e:=(h.getD b d,List.set p.2.1 b a,());(Ty.int i64).wf p.1/\MK p.2.1/\True->I p->c/\(iB (decide j) (c/\(d<=List.getD p.2.1 b d/\List.getD p.2.1 b d<f)/\c/\(d<=p.1/\p.1<(↑h.length:Int))/\I e/\g e<g p) (p.1=root x.1 x.2.1/\UF p.2.1/\List.length p.2.1=x.1.length/\∀(i:Int),d<=i->i<(↑x.1.length:Int)->root p.2.1 i=root x.1 i))
def FN (x:A2 Bn.args) (l:awf Bn.args x) (_:Bn.pre x):Rr x:=by
 obtain⟨n,f,_⟩:=x;have r:f.length<=9223372036854775807:=l.2.1.1;change Int at n;simp only[Rr,iB,J1,uC,rK,rT,rR];refine⟨fun h=>by rw[Qd,qP h],fun h=> ?_⟩;refine⟨fun p=>0<=p.1/\p.1<=(f.length:Int)/\∀o∈f.take p.1.toNat,VN n o,fun p=>((f.length:Int)-p.1).toNat,⟨by omega,by omega,by simp⟩, ?_⟩;rintro⟨i,_⟩ _ ⟨a,g,b⟩;change Int at i;simp only at a g b⊢;refine⟨fun c=>⟨⟨a,c⟩,by omega,fun _=>by omega,fun _=>by omega,fun _=>by omega,fun k=> ?_,fun k=> ?_⟩,fun c=> ?_⟩
 . rw[Qd,qL (by omega),qL];intro j;have:=j _ (H6 (d:=((0:Int),(0:Int))) a c);unfold VN at this;omega
 . rw[wv (by omega)];refine⟨⟨by omega,by omega,Gy (d:=((0:Int),(0:Int))) a c b ?_⟩,by omega⟩;unfold VN;omega
 . rw[D4 (by omega)]at b;rw[Qd,qL (by omega),qP b]
def We (x:A2 S9.args) (o:awf S9.args x) (k:S9.pre x):Lh x:=by
 obtain⟨n,_⟩:=x;change Int at n;obtain⟨r,s⟩:0<=n/\n<=16384:=k;simp only[Lh,iB,rC];refine⟨by omega,fun p=>0<=p.1/\p.1<=n/\p.2.1.length=n.toNat/\∀i:Nat,(i:Int)<p.1->p.2.1[i]? =some (i:Int),fun p=>(n-p.1).toNat,⟨by omega,by omega,by simp,fun i l=>by omega⟩, ?_⟩;rintro⟨i,t,_⟩ _ ⟨b,g,c,a⟩;change Int at i;change Xr at t;simp only at b g c a⊢;refine⟨fun h=> ?_,fun h=> ?_⟩
 . have h:=qA h;rw[wv (by omega)];refine⟨⟨b,by omega⟩,⟨by omega,by omega,by rw[qJ];exact c,fun j f=> ?_⟩,by omega⟩;rw[vE];by_cases d:i.toNat=j
   . rw[qP d,qP (by omega)];congr 1;omega
   . rw[qL d];exact a j (by omega)
 . have h:=qB h;unfold pC;apply vN;intro j;by_cases f:j<n.toNat
   . rw[a j (by omega),vD,yV f];rfl
   . rw[rQ (by omega),rQ (by simp;omega)]
def Qi (x:A2 P5.args) (M:awf P5.args x) (F:P5.pre x):Ip x:=by
 obtain⟨s,b,_⟩:=x;change Xr at s;change Int at b;obtain⟨G,r,u,I⟩:UF s/\0<=b/\b<(s.length:Int)/\s.length<=16384:=F;simp only[Ip,iB];refine⟨fun p=>UF p.2.1/\p.2.1.length=s.length/\0<=p.1/\p.1<(s.length:Int)/\root s p.1=root s b/\∀i:Int,0<=i->i<(s.length:Int)->root p.2.1 i=root s i,fun p=>p.1.toNat,⟨G,rfl,r,u,rfl,fun _ _ _=>rfl⟩, ?_⟩;rintro⟨c,t,_⟩ _ ⟨d,g,a,j,k,f⟩;change Int at c;change Xr at t;simp only at d g a j k f⊢;have l:=d.le a (by omega:c<(t.length:Int));have B:t.getD c.toNat 0=D9 t c:=rfl;rw[B];refine⟨⟨a,by omega⟩,fun h=> ?_,fun h=> ?_⟩
 . have J:D9 t c≠c:=qA h;have n:=d.le l.1 (by omega:D9 t c<(t.length:Int));have D:t.getD (D9 t c).toNat 0=D9 t (D9 t c):=rfl;rw[D];obtain⟨w,y⟩:=C6g d a (by omega:c<(t.length:Int));have A:c.toNat<t.length:=by omega
   have E:(t.set c.toNat (D9 t (D9 t c))).getD c.toNat 0=D9 t (D9 t c):=by
    have:=Fc (v:=D9 t (D9 t c)) (i:=c) A;rw[qP rfl]at this;exact this
   rw[E,qJ];refine⟨⟨a,by omega⟩,⟨l.1,by omega⟩,⟨a,by omega⟩,⟨a,by omega⟩,⟨w,g,n.1,by omega, ?_,fun i o H=>by rw[y i o (by omega)];exact f i o H⟩,by omega⟩;rw[<-k, <-f _ n.1 (by omega), <-f c a j,Fh d l.1 (by omega),Fh d a (by omega)]
 . have z:D9 t c=c:=by simpa using h
   refine⟨?_,d,g,f⟩;rw[<-k, <-f c a j,Dx d a (by omega) z]
def Sz (x:A2 R2.args) (Q:awf R2.args x) (N:R2.pre x):Jm x:=by
 obtain⟨s,⟨a,b⟩,_⟩:=x;change Xr at s;change Int at a b;obtain⟨l,⟨n,o,j,r⟩,J⟩:UF s/\VN s.length (a,b)/\s.length<=16384:=N;simp only at n o j r;simp only[Jm,q2];refine⟨by omega,by omega, ?_, ?_⟩;all_goals
  refine⟨⟨l,n,o,J⟩, ?_⟩;rintro⟨T,_⟩ ⟨R,_⟩ _ _ g ⟨A,I,u⟩;simp only at g A I u⊢;refine⟨⟨A,j,by omega,by omega⟩, ?_⟩;rintro⟨U,_⟩ ⟨f,_⟩ _ _ d ⟨k,H,z⟩;simp only at d k H z⊢;rw[u b j r]at d;subst g d;obtain⟨F,V,O⟩:=mJ l n o;obtain⟨G,W,P⟩:=mJ l j r;have B:∀i:Int,0<=i->i<(s.length:Int)->root f i=root s i:=fun i h v=>by rw[z i h (by omega),u i h v]
  have D:∀c:Int,0<=c->c<(s.length:Int)->D9 s c=c->D9 f c=c:=fun c c0 c1 hc=>by
   have e:=B c c0 c1;rw[Dx l c0 c1 hc]at e;have:=(mJ k c0 (by omega)).2.2;rw[e]at this;exact this
  have w:=D _ F (by omega) O;have y:=D _ G (by omega) P;have M:(max (root s a) (root s b)=root s a/\min (root s a) (root s b)=root s b/\root s b<=root s a)\/(max (root s a) (root s b)=root s b/\min (root s a) (root s b)=root s a/\root s a<=root s b):=by omega
  have E:UF (f.set (max (root s a) (root s b)).toNat (min (root s a) (root s b)))/\∀i:Int,0<=i->i<(f.length:Int)->root (f.set (max (root s a) (root s b)).toNat (min (root s a) (root s b))) i=if root f i=max (root s a) (root s b)then min (root s a) (root s b)else root f i:=by
   rcases M with⟨g,d,t⟩ | ⟨g,d,t⟩
   . rw[g,d];exact B4k k G t (by omega) y w
   . rw[g,d];exact B4k k F t (by omega) w y
  refine⟨⟨by omega,by omega⟩,rfl,E.1,by rw[qJ];omega,fun i h v=> ?_⟩;rw[E.2 i h (by omega),B i h v]
def B1q (s L:Xr):Prop:=UF s/\s.length=L.length/\∀i:Int,0<=i->i<(s.length:Int)->root s i=D9 L i
def C0d {n:Int} (f:0<=n):B1q (pC n) (pC n):=by
 have b:UF (pC n):=fun i hi=>by
  rw[Kg]at hi;rw[Qn (by omega) (by omega)];omega
 refine⟨b,rfl,fun i a c=> ?_⟩;have d:=c;rw[Kg]at d;rw[Dx b a c (Qn a (by omega)),Qn a (by omega)]
def B0a {s o L:Xr} {l:Ln} (h:B1q s L) (k:VN s.length l) (b:UF o) (a:o.length=s.length) (j:∀i:Int,0<=i->i<(s.length:Int)->root o i=if root s i=max (root s l.1) (root s l.2)then min (root s l.1) (root s l.2)else root s i):B1q o (Hd L l):=by
 obtain⟨c,d,a⟩:=h;obtain⟨c,d,f,g⟩:=k;refine⟨b,by rw[Fa];omega,fun i b k=> ?_⟩;rw[j i b (by omega),Fb b (by omega),a i b (by omega),a _ c d,a _ f g]
def Yj (x:A2 W5.args) (N:awf W5.args x) (_:W5.pre x):Mk x:=by
 obtain⟨n,a,_⟩:=x;have U:a.length<=9223372036854775807:=N.2.1.1;change Int at n;change List (Int×Int)at a;simp only[Mk,iB,Cw,rT7];refine⟨trivial, ?_⟩;rintro⟨e,_⟩ _ w;simp only at w⊢;subst w;refine⟨fun h=> ?_,fun h=> ?_⟩
 . have h:=qA h;exact⟨by rw[qL h],rfl⟩
 . have h:Qd n a=0:=by simpa using h
   have J:=lJ.1 h;obtain⟨F,O,P⟩:=J;refine⟨⟨F,O⟩, ?_⟩;rintro⟨X,_⟩ _ D;simp only at D⊢;subst D;refine⟨fun p=>0<=p.1/\p.1<=(a.length:Int)/\B1q p.2.1 (K7 n (a.take p.1.toNat)),fun p=>((a.length:Int)-p.1).toNat,⟨by omega,by omega,by simpa[K7]using C0d F⟩, ?_⟩;rintro⟨i,s,_⟩ _ ⟨t,I,f⟩;change Int at i;change Xr at s;simp only at t I f⊢;have M:s.length=n.toNat:=by rw[f.2.1,Nv]
   refine⟨fun c=> ?_,fun c=> ?_⟩
   . have c:=qA c;have z:VN (s.length:Int) (gx ((0:Int),(0:Int)) a i):=by
      rw[M,show((n.toNat:Nat):Int)=n from by omega];exact P _ (H6 t c)
     refine⟨⟨t,c⟩,⟨f.1,z,by omega⟩, ?_⟩;rintro⟨T,_⟩ ⟨Q,_⟩ _ _ _ ⟨k,l,o⟩;simp only at k l o⊢;rw[wv (by omega)];refine⟨⟨by omega,by omega, ?_⟩,by omega⟩;rw[show(i+1).toNat=i.toNat+1 from by omega,B0m (d:=((0:Int),(0:Int))) (by omega),A9a, <-E5 t c];exact B0a f z k l o
   . have c:=qB c;rw[D4 (by omega)]at f;simp only[rC];refine⟨by omega,fun p=>0<=p.1/\p.1<=n/\B1q p.2.1 (K7 n a)/\p.2.2.1.length=n.toNat/\∀j:Nat,(j:Int)<p.1->p.2.2.1[j]? =some (D9 (K7 n a) j),fun p=>(n-p.1).toNat,⟨by omega,by omega,f,by simp,fun j A=>by omega⟩, ?_⟩;rintro⟨b,H,out,_⟩ _ ⟨u,R,g,G,v⟩;change Int at b;change Xr at H out;simp only at u R g G v⊢;have V:H.length=n.toNat:=by rw[g.2.1,Nv]
     refine⟨fun r=> ?_,fun r=> ?_⟩
     . have r:=qA r;refine⟨⟨g.1,u,by omega,by omega⟩, ?_⟩;rintro⟨T,_⟩ ⟨Q,_⟩ _ _ B ⟨k,l,o⟩;simp only at B k l o⊢;rw[wv (by omega)];refine⟨⟨u,by omega⟩,⟨by omega,by omega,⟨k,by rw[l];exact g.2.1,fun i E W=>by rw[o i E (by omega)];exact g.2.2 i E (by omega)⟩,by rw[qJ];exact G,fun j A=> ?_⟩,by omega⟩;rw[vE];by_cases y:b.toNat=j
       . rw[qP y,qP (by omega),B,g.2.2 b u (by omega),show((j:Nat):Int)=b from by omega]
       . rw[qL y];exact v j (by omega)
     . have r:=qB r;rw[qP h];refine⟨?_,h.symm⟩;apply vN;intro j;by_cases A:j<n.toNat
       . rw[v j (by omega)];have:=Wy (L:=K7 n a) (i:=(j:Int)) (by omega) (by rw[Nv];omega);rw[qH]at this;exact this.symm
       . rw[rQ (by omega),rQ (by rw[Nv];omega)]
def XS:An:= {loop:= [(3,⟨[0,1,5],[],[(6,false,vI)],[],[(0, .row (.int .i64) 3)]⟩),(10,⟨[1,5,23,24],[],[(7,false,[.val .bool]),(25,false,vI)],[],[(0, .row (.int .i64) 3)]⟩),(7,⟨[1,5],[],[(7,false,[.val .bool])],[],[(0, .row (.int .i64) 3)]⟩)],plan:= [(12,[2,4,7,9],[],true,(.p 0 (.p 1 (.q 2 (.p 3 (.q 4 (.p 5 (.p 6 (.q 7 (.p 8 (.q 9 (.p 10 (.p 11 .done))))))))))))),(14,[2],[9,11],false,(.p 0 (.p 1 (.q 2 (.p 3 (.p 4 (pZ9 6 3 (.or 5 (.e 9 (.p 10 (.e 11 .done))) (.e 9 (.e 5 (.p 10 (.e 11 .done))))))))))))]}
abbrev C7q:=Bool×Int×Xr×Unit
def FJ:A2 Gi.args->Prop:=fun(x:C4w)=>let l:=(1:Int);let t:=(x.2.1.length:Int);let i:=(↑(2:Nat):Int);let e:=(0:Int);(e<=x.1/\x.1<=x.1/\(↑(8:Nat):Int)*x.1<=281474976710656/\x.1<=9223372036854775807)/\∃(I:LH->Prop),∃(a: _->Nat),I (e,List.replicate x.1.toNat e,())/\∀(p:LH),let j:=(i64.wrap (p.1+l),List.set p.2.1 p.1.toNat p.1,());(Ty.int i64).wf p.1/\MK p.2.1/\True->I p->(iB (decide (p.1<x.1)) ((e<=p.1/\p.1<(p.2.1.length:Int))/\I j/\a j<a p) (∃(I:C0q->Prop),∃(a: _->Nat),I (true,p.2.1,())/\∀(s:C0q),Ty.bool.wf s.1/\MK s.2.1/\True->I s->(iB s.1 (∃(I_1:C7q->Prop),∃(h: _->Nat),I_1 (false,e,s.2.1,())/\∀(r:C7q),let q:=(r.1,r.2.2.1,());let f:=(r.2.2.1.length:Int);let b:=(gx (e,e) x.2.1 r.2.1);let o:=b.1.toNat;let n:=b.2.toNat;let g:=(List.getD r.2.2.1 n e);let c:=(List.getD r.2.2.1 o e);let k:=(List.set r.2.2.1 o (Min.min c g));let m:Prop:=(e<=b.2/\b.2<(↑k.length:Int));let j:=(decide (List.getD r.2.2.1 o e≠Min.min c g));let d:=(L8 (L8 r.1 true j) true (decide (List.getD r.2.2.1 n e≠Min.min c g)),i64.wrap (r.2.1+l),k.set n (Min.min c g),());Ty.bool.wf r.1/\(Ty.int i64).wf r.2.1/\MK r.2.2.1/\True->I_1 r->(iB (decide (r.2.1<t)) ((e<=r.2.1/\r.2.1<t)/\(e<=e/\e<i)/\(e<=b.1/\b.1<f)/\(e<=l/\l<i)/\(e<=b.2/\b.2<f)/\(r.1=false->e<=e/\e<i)/\(r.1=false->e<=b.1/\b.1<f)/\(L8 r.1 true j=false->e<=l/\l<i)/\(L8 r.1 true j=false->e<=b.2/\b.2<f)/\(e<=e/\e<i)/\(e<=l/\l<i)/\(e<=b.1/\b.1<f)/\(m/\I_1 d/\h d<h r)/\m/\I_1 d/\h d<h r) (I q/\a q<a s))) (s.2.1=K7 x.1 x.2.1))))
def A1v (n:Int) (ls:List Ln) (L:Xr):Prop:=L.length=n.toNat/\∀i:Int,0<=i->i<n->0<=D9 L i/\D9 L i<=i/\D9 (K7 n ls) (D9 L i)=D9 (K7 n ls) i
def A9m {n:Int} {ls:List Ln} (f:ZU n ls) {L:Xr} (h:A1v n ls L) {l:Ln} (b:l∈ls):A1v n ls ((L.set l.1.toNat (min (D9 L l.1) (D9 L l.2))).set l.2.toNat (min (D9 L l.1) (D9 L l.2))):=by
 obtain⟨c,a⟩:=h;obtain⟨s,g,d⟩:=f;obtain⟨f,g,j,k⟩:=d l b;refine⟨by simp[c],fun i o r=> ?_⟩;have c:=gM s d b;obtain⟨b,s,d⟩:=a _ f g;obtain⟨b,g,f⟩:=a _ j k;have b:D9 (K7 n ls) (min (D9 L l.1) (D9 L l.2))=D9 (K7 n ls) l.1:=by
  rcases(by omega:min (D9 L l.1) (D9 L l.2)=D9 L l.1\/min (D9 L l.1) (D9 L l.2)=D9 L l.2)with e|e<;>rw[e]
  . exact d
  . rw[f,c]
 rw[Fc (by rw[qJ];omega),Fc (by omega)];split
 . rename_i e;rw[show i=l.2 from by omega];exact⟨by omega,by omega,by rw[b,c]⟩
 . split
   . rename_i e;rw[show i=l.1 from by omega];exact⟨by omega,by omega,b⟩
   . exact a i o r
def B6v {L:Xr} {l:Ln} (a:VN L.length l):(D9 L l.1=min (D9 L l.1) (D9 L l.2)/\D9 L l.2=min (D9 L l.1) (D9 L l.2)->(L.set l.1.toNat (min (D9 L l.1) (D9 L l.2))).set l.2.toNat (min (D9 L l.1) (D9 L l.2))=L)/\(¬(D9 L l.1=min (D9 L l.1) (D9 L l.2)/\D9 L l.2=min (D9 L l.1) (D9 L l.2))->LG ((L.set l.1.toNat (min (D9 L l.1) (D9 L l.2))).set l.2.toNat (min (D9 L l.1) (D9 L l.2)))<LG L):=by
 obtain⟨b,c,d,f⟩:=a;have c:l.1.toNat<L.length:=by omega
 have d:l.2.toNat<(L.set l.1.toNat (min (D9 L l.1) (D9 L l.2))).length:=by rw[qJ];omega
 constructor
 . rintro⟨a,b⟩;refine lE (by simp) fun i g f=> ?_
   rw[Fc d,Fc c];simp only[qJ]at f;split
   . rename_i e;rw[show i=l.2 from by omega];exact b.symm
   . split
     . rename_i e;rw[show i=l.1 from by omega];exact a.symm
     . rfl
 . intro f;rw[bN d,bN c];have a:L.getD l.1.toNat 0=D9 L l.1:=rfl;have b:(L.set l.1.toNat (min (D9 L l.1) (D9 L l.2))).getD l.2.toNat 0=D9 (L.set l.1.toNat (min (D9 L l.1) (D9 L l.2))) l.2:=rfl;rw[a,b,Fc c];split
   . rename_i e;have:l.2=l.1:=by omega
     rw[this]at f⊢;omega
   . omega
def PO (x:A2 Gi.args) (ac:awf Gi.args x) (ab:Gi.pre x):FJ x:=by
 obtain⟨n,a,_⟩:=x;have ag:a.length<=9223372036854775807:=ac.2.1.1;change Int at n;change List (Int×Int)at a;have W:ZU n a:=ab;obtain⟨N,aj,Z⟩:=id W;simp only[FJ,iB];refine⟨⟨N,qG _,by omega,by omega⟩,fun p=>0<=p.1/\p.1<=n/\p.2.1.length=n.toNat/\∀i:Int,0<=i->i<p.1->D9 p.2.1 i=i,fun p=>(n-p.1).toNat,⟨by omega,by omega,by simp,fun i f=>by omega⟩, ?_⟩;rintro⟨b,a0,_⟩ _ ⟨P,F,r,G⟩;change Int at b;change Xr at a0;simp only at P F r G⊢;refine⟨fun h=> ?_,fun h=> ?_⟩
 . have h:=qA h;rw[wv (by omega)];refine⟨⟨P,by omega⟩,⟨by omega,by omega,by rw[qJ];exact r,fun ad a8 af=> ?_⟩,by omega⟩;rw[Fc (by omega)];split
   . omega
   . exact G ad a8 (by omega)
 . have h:=qB h;have c:a0=pC n:=lE (by rw[r,Kg]) fun i g u=>by rw[G i g (by omega),Qn g (by omega)]
   subst c;have a9:A1v n a (pC n):=⟨Kg n,fun i g u=>by rw[Qn g u];exact⟨g,qG _,rfl⟩⟩;have V:∀ {L:Xr},A1v n a L->0<=LG L:=fun {L} hL=>TZ fun y hy=>by
    obtain⟨i,g,u,rfl⟩:=B9g hy;rw[hL.1]at u;exact(hL.2 i g (by omega)).1
   refine⟨fun p=>A1v n a p.2.1/\(p.1=false->∀l∈a,D9 p.2.1 l.1=D9 p.2.1 l.2),fun p=>2*(LG p.2.1).toNat+(if p.1=true then 1 else 0),⟨a9,fun h=>by cases h⟩, ?_⟩;rintro⟨a1,L,_⟩ _ ⟨o,O⟩;change Xr at L;change Bool at a1;simp only at o O⊢;refine⟨fun H=> ?_,fun H=> ?_⟩
   . subst H;refine⟨fun p=>0<=p.2.1/\p.2.1<=(a.length:Int)/\A1v n a p.2.2.1/\(p.1=true->LG p.2.2.1<LG L)/\(p.1=false->p.2.2.1=L/\∀l∈a.take p.2.1.toNat,D9 L l.1=D9 L l.2),fun p=>((a.length:Int)-p.2.1).toNat,⟨qG _,qD _,o,fun h=>(by cases h),fun _=>⟨rfl,by simp⟩⟩, ?_⟩;rintro⟨k,i,M,_⟩ _ ⟨v,ae,j,w,z⟩;change Int at i;change Xr at M;change Bool at k;simp only at v ae j w z⊢;refine⟨fun f=> ?_,fun f=> ?_⟩
     . have f:=qA f;have I:=H6 (d:=((0:Int),(0:Int))) v f;have Q:∀(q:Ln->Prop),(∀x∈a.take i.toNat,q x)->q (gx ((0:Int),(0:Int)) a i)->∀x∈a.take (i+1).toNat,q x:=fun q F r=>Gy v f F r
       generalize gx ((0:Int),(0:Int)) a i=l at I Q⊢;have T:=B8q N j.1 (Z l I);have J:=B6v T;have aa:=A9m W j I;obtain⟨A,B,D,E⟩:=T;have a2:M.getD l.1.toNat 0=D9 M l.1:=rfl;have a3:M.getD l.2.toNat 0=D9 M l.2:=rfl;rw[a2,a3,wv (by omega)];simp only[J1];have Y:(0<=i+1/\i+1<=(a.length:Int)/\A1v n a ((M.set l.1.toNat (min (D9 M l.1) (D9 M l.2))).set l.2.toNat (min (D9 M l.1) (D9 M l.2)))/\((k||decide (D9 M l.1≠min (D9 M l.1) (D9 M l.2)) ||decide (D9 M l.2≠min (D9 M l.1) (D9 M l.2)))=true->LG ((M.set l.1.toNat (min (D9 M l.1) (D9 M l.2))).set l.2.toNat (min (D9 M l.1) (D9 M l.2)))<LG L)/\((k||decide (D9 M l.1≠min (D9 M l.1) (D9 M l.2)) ||decide (D9 M l.2≠min (D9 M l.1) (D9 M l.2)))=false->(M.set l.1.toNat (min (D9 M l.1) (D9 M l.2))).set l.2.toNat (min (D9 M l.1) (D9 M l.2))=L/\∀l∈a.take (i+1).toNat,D9 L l.1=D9 L l.2)):=by
        refine⟨by omega,by omega,aa,fun c=> ?_,fun R=> ?_⟩
        . by_cases t:D9 M l.1=min (D9 M l.1) (D9 M l.2)/\D9 M l.2=min (D9 M l.1) (D9 M l.2)
          . rw[J.1 t];simp only[uC,rT]at c;rcases c with(c|c) |c
            . exact w c
            . exact absurd t.1 c
            . exact absurd t.2 c
          . have:=J.2 t;cases s:k with
            |true=>have:=w s;omega
            |false=>rw[(z s).1]at this⊢;exact this
        . simp only[rK,rR,g4s,uN]at R;obtain⟨⟨a4,a5⟩,a6⟩:=R;rw[J.1 ⟨a5,a6⟩];obtain⟨eL,a7⟩:=z a4;subst eL;exact⟨rfl,Q (fun l=>D9 M l.1=D9 M l.2) a7 (by omega)⟩
       have X:0<=l.2/\l.2<((M.set l.1.toNat (min (D9 M l.1) (D9 M l.2))).length:Int):=by rw[qJ];exact⟨D,E⟩
       have U:((a.length:Int)-(i+1)).toNat<((a.length:Int)-i).toNat:=by omega
       refine⟨⟨v,f⟩,⟨by omega,by omega⟩,⟨A,B⟩,⟨by omega,by omega⟩,⟨D,E⟩,fun _=>⟨by omega,by omega⟩,fun _=>⟨A,B⟩,fun _=>⟨by omega,by omega⟩,fun _=>⟨D,E⟩,⟨by omega,by omega⟩,⟨by omega,by omega⟩,⟨A,B⟩,⟨X,Y,U⟩,X,Y,U⟩
     . have f:=qB f;have ah:=V o;have ai:=V j;cases s:k with
       |true=>
        refine⟨⟨j,fun h=>by cases h⟩, ?_⟩;have:=w s;simp only[xP];omega
       |false=>
        obtain⟨eL,t⟩:=z s;rw[D4 (by omega)]at t;subst eL;refine⟨⟨j,fun _=>t⟩, ?_⟩;simp
   . exact pO N Z o.1 o.2 (O H)
def UT:An:= {loop:= [(4,⟨[1,20,21],[0],[(22,false,vI)],[],[]⟩)]}
def XE:An:= {loop:= [(3,⟨[1,2,5,13],[0],[(14,false,vI)],[],[(1, .row tQ 43)]⟩),(8,⟨[1,5,23,24],[],[(25,false,vI)],[],[(1, .row tQ 43)]⟩)],plan:= [(10,[2,5,7,11],[14],true,(.p 0 (.p 1 (.q 2 (.p 3 (.p 4 (.q 5 (.p 6 (.q 7 (pZ9 8 3 (.q 11 (.e 12 (.p 13 (.e 14 .done)))))))))))))),(11,[2,5,7,11],[14],true,(.p 0 (.p 1 (.q 2 (.p 3 (.p 4 (.q 5 (.p 6 (.q 7 (pZ9 8 3 (.q 11 (.e 12 (.p 13 (.e 14 .done))))))))))))))]}
def BF:An:= {}
def JP:An:= {loop:= [(3,⟨[1,5,11,12],[],[(13,false,vI)],[],[(0, .row tQ 43)]⟩)],plan:= [(5,[5,9],[12],true,(pZ9 0 5 (.q 5 (pZ9 6 3 (.q 9 (.e 10 (.p 11 (.e 12 .done))))))))]}
def QC:An:= {loop:= [(3,⟨[1,13,14],[0],[(3,false,[.own (.pair (.int .i64) (.int .i64)) 74]),(15,false,vI)],[],[]⟩)]}
def Iv:An:= {}
def Lk:An:= {loop:= [(2,⟨[0,1,7],[],[(8,false,vI)],[],[]⟩)]}
def jN:An:= {loop:= [(3,⟨[7,8],[],[(3,false,[.own (.pair (.int .i64) (.int .i64)) 74]),(9,false,vI)],[],[]⟩)]}
def jO:An:= {plan:= [(1,[1,2],[],true,(.p 0 (.q 1 (.q 2 (.e 3 (.e 4 (.p 5 .done)))))))]}
abbrev A4w:=(Int×List (Int×Int×QQ×(Bool×Xr)×Xr))×Unit
def Yv:A2 Ea.args->Prop:=fun(x:A4w)=>let e:=(0:Int);let a:=(L8 (decide (x.1.1<e)) true (decide (16384<x.1.1)));let c:=(x.1.2.length:Int);let g:=(decide ((16384:Int)<c));(iB (L8 a true g) (false=decide (E2 x.1)) (∃(I:C8->Prop),∃(d: _->Nat),I (e,())/\∀(p:C8),let f:=(i64.wrap (p.1+1),());let a:=(gx (e,e,dQ,(false,[]),[]) x.1.2 p.1);let h:=(decide (a.1=a.2.1));let b:=(L8 (L8 (L8 (decide (a.1<e)) true (decide (x.1.1<=a.1))) true (decide (a.2.1<e))) true (decide (x.1.1<=a.2.1)));(Ty.int i64).wf p.1/\True->I p->(iB (decide (p.1<c)) ((e<=p.1/\p.1<c)/\(iB (L8 b true h) (false=decide (E2 x.1)) (True/\Cw fun r=>r.1=(rv a.2.2.1).num.sign->(iB (decide (r.1<=e)) (false=decide (E2 x.1)) (I f/\d f<d p))))) (true=decide (E2 x.1)))))
abbrev C4q:=(Int×List (Int×Int×QQ×(Bool×Xr)×Xr))×List QQ×Unit
def EK:A2 Fw.args->Prop:=fun(x:C4q)=>let f:=(x.1.2.length:Int);let c:=(0:Int);(c<=x.1.1/\x.1.1<=x.1.1/\(↑(56:Nat):Int)*x.1.1<=281474976710656/\x.1.1<=9223372036854775807)/\∃(I:Ja->Prop),∃(d: _->Nat),I (c,List.replicate x.1.1.toNat dQ,())/\∀(p:Ja),let h:Prop:=(p.1<(↑(List.replicate x.1.1.toNat dQ).length:Int));(Ty.int i64).wf p.1/\MG p.2.1/\True->I p->(iB (decide h) (True/\H4 fun r=>let a:=(i64.wrap (p.1+1),List.set p.2.1 p.1.toNat r.1,());r.1=ri c->(c<=p.1/\p.1<(p.2.1.length:Int))/\I a/\d a<d p) (∃(I:Ja->Prop),∃(d: _->Nat),I (c,p.2.1,())/\∀(p:Ja),let j:Prop:=(c<=p.1/\p.1<(x.2.1.length:Int));let g:=(gx dQ x.2.1 p.1);let a:=(gx (c,c,dQ,(false,[]),[]) x.1.2 p.1);let m:=a.2.1.toNat;let l:=(List.getD p.2.1 a.1.toNat dQ);let i:Prop:=(c<=a.1/\a.1<(p.2.1.length:Int));(Ty.int i64).wf p.1/\MG p.2.1/\True->I p->(iB (decide (p.1<f)) ((c<=p.1/\p.1<f)/\i/\j/\(D8 l/\D8 g)/\H4 fun r=>let b:=(List.set p.2.1 a.1.toNat r.1);let k:Prop:=(c<=a.2.1/\a.2.1<(↑b.length:Int));r.1=rc (rv l+rv g)->i/\k/\j/\(D8 (b.getD m dQ)/\D8 g)/\H4 fun n=>let e:=(i64.wrap (p.1+1),b.set m n.1,());n.1=rc (rv (b.getD m dQ)-rv g)->k/\I e/\d e<d p) (p.2.1=IU x.1.1.toNat (Ke x.1.2 (O3 x.2.1))))))
def La:A2 S5.args->Prop:=fun(x:D5)=>True/\Cw fun r=>r.1=(rv x.1).num.sign->decide (r.1≠0)=decide (rv x.1≠(0:Rat))
abbrev C4x:=Xr×List QQ×Unit
def Pn:A2 Z4.args->Prop:=fun(x:C4x)=>let b:=(0:Int);let a:=(x.1.length:Int);(b<=a/\a<=a/\(↑(56:Nat):Int)*a<=(281474976710656:Int)/\a<=(9223372036854775807:Int))/\∃(I:Ja->Prop),∃(h: _->Nat),I (b,List.replicate a.toNat dQ,())/\∀(p:Ja),let g:=(gx dQ x.2.1 p.1);let e:=(List.getD p.2.1 (gx b x.1 p.1).toNat dQ);let f:Prop:=(b<=gx b x.1 p.1/\gx b x.1 p.1<(p.2.1.length:Int));(Ty.int i64).wf p.1/\MG p.2.1/\True->I p->(iB (decide (p.1<a)) ((b<=p.1/\p.1<a)/\f/\(b<=p.1/\p.1<(x.2.1.length:Int))/\(D8 e/\D8 g)/\H4 fun r=>let c:=(i64.wrap (p.1+1),List.set p.2.1 (gx b x.1 p.1).toNat r.1,());r.1=rc (rv e+rv g)->f/\I c/\h c<h p) (∃(a:D5->Prop),∃(d:D5->Bool),(∀(y:D5),tQ.wf y.1/\True->a y->True/\Ni fun z=>z.1=decide (rv y.1≠(0:Rat))->false=false/\z.1=d y)/\(∀(i:QQ),i∈p.2.1->(a,d).1 (i,()))/\Ni fun r=>r.1=decide (∃(i:QQ),i∈p.2.1/\(a,d).2 (i,())=true)->(!r.1)=decide (Dq x.1 x.2.1)))
abbrev B0u:=List (Int×Int)×Int×Unit
def Vr:A2 Cl.args->Prop:=fun(x:A4w)=>let c:=(0:Int);let b:=(x.1.2.length:Int);(c<=c/\c<=b/\(↑(16:Nat):Int)*b<=(281474976710656:Int)/\b<=(9223372036854775807:Int))/\∃(I:B0u->Prop),∃(f: _->Nat),I (List.replicate c.toNat (c,c),c,())/\∀(p:B0u),let a:=(gx (c,c,dQ,(false,[]),[]) x.1.2 p.2.1);let e:=(a.1,a.2.1);let d:=(p.1++ [e],i64.wrap (p.2.1+1),());((Ty.int i64).pair (Ty.int i64)).sl.wf p.1/\(Ty.int i64).wf p.2.1/\True->I p->(iB (decide (p.2.1<b)) ((c<=p.2.1/\p.2.1<b)/\((p.1.length+ [e].length)*(16:Nat)<=(140737488355328:Nat)/\p.1.length+ [e].length<=9223372036854775807)/\I d/\f d<f p) (True/\∀(r:WB),MK r.1/\I2 r.2.1/\True->(r.1=if Qd x.1.1 p.1=c then K7 x.1.1 p.1 else [])/\r.2.1=Qd x.1.1 p.1->r.1=K7 x.1.1 (Nh x.1.2)))
def Ak:A2 H3.args->Prop:=fun(x:List QQ×((QQ×Unit->Prop)×(QQ×Unit->Bool))×Unit)=>let a:=(x.2.1.1,fun(z:D5)=>x.2.1.2 z);Go.Proofs.Tryz.prog=Go.Proofs.Tryz.prog/\false=false/\(∀(i:QQ),i∈x.1->a.1 (i,()))/\Cw fun r=>r.1=pE (fun(i:QQ)=>a.2 (i,())) x.1->decide (0<=r.1)=decide (∃(i:QQ),i∈x.1/\x.2.1.2 (i,())=true)
def Cs:A2 I5.args->Prop:=fun(x:List QQ×((QQ×Unit->Prop)×(QQ×Unit->Bool))×Unit)=>let b:=(x.1.length:Int);∃(I:C8->Prop),∃(d: _->Nat),I ((0:Int),())/\∀(p:C8),let c:=(i64.wrap (p.1+1),());let a:=(gx dQ x.1 p.1,());(Ty.int i64).wf p.1/\True->I p->(iB (decide (p.1<b)) ((0<=p.1/\p.1<b)/\Go.Proofs.Tryz.prog=Go.Proofs.Tryz.prog/\x.2.1.1 a/\(Ty.bool.wf (x.2.1.2 a)->(iB (x.2.1.2 a) (p.1=pE (fun(i:QQ)=>x.2.1.2 (i,())) x.1) (I c/\d c<d p)))) ((-1:Int)=pE (fun(i:QQ)=>x.2.1.2 (i,())) x.1))
def PP:A2 Kv.args->Prop:=fun(x:A4w)=>let e:=(0:Int);let c:=(x.1.2.length:Int);∃(I:B0u->Prop),∃(f: _->Nat),I ([],e,())/\∀(p:B0u),let a:=(gx (e,e,dQ,(false,[]),[]) x.1.2 p.2.1);let d:=(a.1,a.2.1);let b:=(p.1++ [d],i64.wrap (p.2.1+1),());((Ty.int i64).pair (Ty.int i64)).sl.wf p.1/\(Ty.int i64).wf p.2.1/\True->I p->(iB (decide (p.2.1<c)) ((e<=p.2.1/\p.2.1<c)/\((p.1.length+ [d].length)*(16:Nat)<=(140737488355328:Nat)/\p.1.length+ [d].length<=9223372036854775807)/\I b/\f b<f p) (p.1=Nh x.1.2))
def PQ:A2 Kw.args->Prop:=fun(x:A4w)=>List.length x.1.2<=100000/\∀(r:List (Int×Int)×Unit),(List.length r.1<=9223372036854775807/\∀(x:Int×Int),x∈r.1->I2 x.1/\I2 x.2)/\True->r.1=Nh x.1.2->ZU x.1.1 r.1/\rT7 fun a=>a.1=K7 x.1.1 r.1->a.1=K7 x.1.1 (Nh x.1.2)
def B9u {q:Rat} :0<q.num↔0<q:=by
 rw[<-Rat.not_le, <-Int.not_le];refine g4p ?_;have a:=Rat.num_nonneg (q:= -q);rw[g1g]at a;constructor
 . intro h;have:0<= -q:=a.1 (by omega);grind
 . intro h;have:0<= -q:=by grind
   have:=a.2 this;omega
def Mu (n:Nat) (f:Nat->Rat):(IU n f).length=n:=by simp[IU]
def Ts {n:Nat} {f:Nat->Rat} {b:Nat} (h:b<n):(IU n f).getD b zr=rc (f b):=by
 unfold IU;rw[qF,vD,yV h];rfl
def B9d {n:Nat} {f:Nat->Rat} {b:Nat} (h:b<n):O3 (IU n f) b=f b:=by unfold O3;rw[Ts h,D7]
def B9c {n:Nat} {f:Nat->Rat} {z:List C0} (a:z.length=n) (h:∀b,b<n->z.getD b zr=rc (f b)):z=IU n f:=by
 refine yQ (by rw[Mu,a]) fun i d g=> ?_
 have a:=h i (by omega);have c:=Ts (f:=f) (show i<n by omega);rw[G5 _ _ d]at a;rw[G5 _ _ g]at c;rw[a,c]
def A6l {n:Nat} {f:Nat->Rat} {e:C0} (h:e∈IU n f):∃i,i<n/\e=rc (f i):=by
 unfold IU at h;obtain⟨i,a,rfl⟩:=sQ.1 h;exact⟨i,wS.1 a,rfl⟩
def RR {N:Hj} (h:E2 N) {i:Nat} (a:i<N.2.length):nY N.1 (N.2.getD i dB):=h.2.2.2 _ (B4 a)
def KN {N:Hj} (h:E2 N) {i:Nat} (a:i<N.2.length):W8 N.2 i<N.1.toNat/\W9 N.2 i<N.1.toNat:=by
 obtain⟨d,b,c,f,_⟩:=RR h a;unfold W8 W9;exact⟨by omega,by omega⟩
def B5f {N:Hj} (h:E2 N) {i:Nat} (a:i<N.2.length):W8 N.2 i≠W9 N.2 i:=by
 obtain⟨d,b,c,f,e,_⟩:=RR h a;unfold W8 W9;omega
def B9k {N:Hj} (h:E2 N) {i:Nat} (a:i<N.2.length):0<Gz N.2 i:=(RR h a).2.2.2.2.2
def RU {N:Hj} (h:E2 N):ZU N.1 (Nh N.2):=by
 refine⟨h.1,h.2.1,fun l a=> ?_⟩;unfold Nh at a;obtain⟨e,g,rfl⟩:=sQ.1 a;obtain⟨d,b,c,f,_⟩:=h.2.2.2 e g;exact⟨d,b,c,f⟩
def aT {E:List Pz} {i:Int} (a:0<=i) (b:i<(E.length:Int)):Nh (E.take (i+1).toNat)=Nh (E.take i.toNat)++ [((gx dB E i).1,(gx dB E i).2.1)]:=by
 unfold Nh;rw[Fj (d:=dB) a b,uM];rfl
def LM (x:A2 Ea.args) (G:awf Ea.args x) (_:Ea.pre x):Yv x:=by
 obtain⟨⟨n,E⟩,_⟩:=x;have T:E.length<=9223372036854775807:=G.1.2.1;change Int at n;change List Pz at E;simp only[Yv,iB,Cw];refine⟨fun h=> ?_,fun h=> ?_⟩
 . rw[J1,J1]at h;simp only[uC,rT]at h;refine(rE fun s=> ?_).symm;obtain⟨z,b,c,_⟩:=s;simp only at z b c;rcases h with(h|h) |h
   . omega
   . omega
   . exact absurd (sB.1 h) (by omega)
 . rw[J1,J1]at h;simp only[rK,rR]at h;obtain⟨⟨Q,R⟩,l⟩:=h;have l:E.length<=16384:=g4m fun h=>l (sB.2 h)
   refine⟨fun p=>0<=p.1/\p.1<=(E.length:Int)/\∀e∈E.take p.1.toNat,nY n e,fun p=>((E.length:Int)-p.1).toNat,⟨qG _,qD _,fun e B=>(by cases B)⟩, ?_⟩;rintro⟨i,_⟩ _ ⟨k,H,g⟩;change Int at i;simp only at k H g⊢;refine⟨fun a=> ?_,fun a=> ?_⟩
   . have a:=qA a;have F:=Fj (d:=dB) k a;have D:=H6 (d:=dB) k a;have A:gx (0,0,dQ,(false,[]),[]) E i=gx dB E i:=rfl;rw[A];generalize gx dB E i=e at*;have t:¬nY n e->false=decide (E2 (n,E)):=fun hn=>(rE fun s=>hn (s.2.2.2 e D)).symm
     refine⟨⟨k,a⟩,fun r=>t fun o=> ?_,fun r=>⟨trivial, ?_⟩⟩
     . obtain⟨I,J,M,N,O,P⟩:=o;simp only[J1,uC,rT]at r;omega
     . simp only[J1,rK,rR]at r;rintro⟨w,_⟩ _ u;change Int at w;simp only at u⊢;have v:0<w↔0<rv e.2.2.1:=by rw[u,Int.sign_pos_iff];exact B9u
       refine⟨fun j=>t fun o=> ?_,fun j=> ?_⟩
       . have:=v.2 o.2.2.2.2.2;have:=qA j;omega
       . have j:=qB j;rw[wv (by omega)];refine⟨⟨by omega,by omega,fun y f=> ?_⟩,by omega⟩;rw[F]at f;rcases rA.1 f with f|f
         . exact g y f
         . rw[qR]at f;subst f;exact⟨by omega,by omega,by omega,by omega,by omega,v.1 (by omega)⟩
   . have a:=qB a;rw[D4 (by omega)]at g;exact(rD ⟨by simp only;omega,by simp only;omega,l,g⟩).symm
def A2p {k:Nat} {fr to:Nat->Nat} {b i:Nat} {f:Rat} (g:1<=k) (d:qs k f):qs k (IQ fr to b i*f):=by
 unfold IQ;by_cases a:fr i=b<;>by_cases c:to i=b
 . rw[qP a,qP c,show(1:Rat)-1=0 from by grind,sZ];exact N3 g
 . rw[qP a,qL c,show(1:Rat)-0=1 from by grind,wU];exact d
 . rw[qL a,qP c,show(0:Rat)-1= -1 from by grind,Rat.neg_mul,wU];exact SG d
 . rw[qL a,qL c,show(0:Rat)-0=0 from by grind,sZ];exact N3 g
def B3d {m k:Nat} {fr to:Nat->Nat} {f:Nat->Rat} (d:1<=k) (a:∀i,i<m->qs k (f i)) (b:Nat):qs (m*(k+1)+1) (GG m fr to f b):=OH fun i c=>A2p d (a i c)
def C4j (n:Nat) (E:List Pz) (f:List C0) (p:Int×List C0×Unit):Prop:=0<=p.1/\p.1<=(E.length:Int)/\p.2.1.length=n/\∀b,b<n->p.2.1.getD b zr=rc (GG p.1.toNat (W8 E) (W9 E) (O3 f) b)
def OQ (x:A2 Fw.args) (a6:awf Fw.args x) (a4:Fw.pre x):EK x:=by
 obtain⟨⟨n,E⟩,f,_⟩:=x;have M:∀x∈f,Av x:=fun x hx=>N7 (a6.2.1.2 x hx)
 change Int at n;change List Pz at E;change List C0 at f;obtain⟨l,ae,af,O⟩:E2 (n,E)/\E.length<=9/\f.length=E.length/\Db K2 f:=a4;obtain⟨n,rfl⟩:∃k:Nat,n=(k:Int):=⟨n.toNat,by have:=l.1;simp only at this;omega⟩;have ag:n<=16384:=by have:=l.2.1;simp only at this;omega
 simp only[EK,iB,H4,qH];refine⟨⟨qD _,qG _,by omega,by omega⟩,fun p=>0<=p.1/\p.1<=(n:Int)/\p.2.1.length=n/\∀b:Nat,(b:Int)<p.1->p.2.1.getD b zr=rc 0,fun p=>((n:Int)-p.1).toNat,⟨qG _,qD _,rC,fun b a=>by simp only at a;omega⟩, ?_⟩;rintro⟨i,z,_⟩ _ ⟨Q,a7,t,G⟩;change Int at i;change List C0 at z;simp only at Q a7 t G⊢;simp only[rC];refine⟨fun c=>⟨trivial, ?_⟩,fun c=> ?_⟩
 . have c:=qA c;rintro⟨r,_⟩ _ h;simp only at h⊢;rw[wv (by omega)];refine⟨⟨Q,by rw[t];exact c⟩,⟨by omega,by omega,by rw[qJ];exact t,fun b a=> ?_⟩,by omega⟩;by_cases I:b=i.toNat
   . subst I;rw[A9 (by rw[t];omega),h,DK];rfl
   . rw[C9 I];exact G b (by omega)
 have c:=qB c;refine⟨C4j n E f,fun p=>((E.length:Int)-p.1).toNat,⟨qG _,qD _,t,fun b a=>G b (by omega)⟩, ?_⟩;rintro⟨j,y,_⟩ _ ⟨s,a8,g,o⟩;change Int at j;change List C0 at y;simp only at s a8 g o⊢;refine⟨fun d=> ?_,fun d=> ?_⟩
 . have d:=qA d;have F:j.toNat<E.length:=by omega
   obtain⟨u,v⟩:=KN l F;have w:=B5f l F;simp only[qH]at u v w;obtain⟨V,W,X,Y,ac,ad⟩:=RR l F;have Z:gx (0,0,dQ,(false,[]),[]) E j=E.getD j.toNat dB:=E5 s d;have a0:gx dQ f j=f.getD j.toNat zr:=E5 s (show j<(f.length:Int)by omega);rw[Z,a0];have J:f.getD j.toNat zr∈f:=B4 (by omega);have D:=O _ J;have a3:=M _ J;have a1:(E.getD j.toNat dB).1.toNat=W8 E j.toNat:=rfl;have a2:(E.getD j.toNat dB).2.1.toNat=W9 E j.toNat:=rfl;have H:rv (f.getD j.toNat zr)=O3 f j.toNat:=rfl;rw[a1,a2];have N:∀b,b<n->qs K1 (GG j.toNat (W8 E) (W9 E) (O3 f) b):=fun b a=>F8 (B3d (k:=K2) (by decide) (fun i c=>U4 (M _ (B4 (by omega))) (O _ (B4 (by omega))) (by decide)) b) (by
    have:j.toNat*(K2+1)<=9*(K2+1):=rJ _ (by omega);refine qW (g4o this) (by decide))
   have ah:qs K2 (O3 f j.toNat):=U4 a3 D (by decide);have R:0<=(E.getD j.toNat dB).1/\(E.getD j.toNat dB).1<(y.length:Int):=⟨V,by rw[g];exact W⟩;have T:∀r:C0,0<=(E.getD j.toNat dB).2.1/\(E.getD j.toNat dB).2.1<((List.set y (W8 E j.toNat) r).length:Int):=fun r=>⟨X,by rw[qJ,g];exact Y⟩
   have U:0<=j/\j<(f.length:Int):=⟨s,by omega⟩;have aa:y.getD (W8 E j.toNat) dQ=rc (GG j.toNat (W8 E) (W9 E) (O3 f) (W8 E j.toNat)):=o _ u;rw[aa];refine⟨⟨s,d⟩,R,U,⟨J7 (N _ u) (by decide),J8 D (by decide)⟩, ?_⟩;rintro⟨r,_⟩ _ h;change C0 at r;simp only at h⊢;have ab:(List.set y (W8 E j.toNat) r).getD (W9 E j.toNat) dQ=rc (GG j.toNat (W8 E) (W9 E) (O3 f) (W9 E j.toNat)):=by
    rw[C9 (Ne.symm w)];exact o _ v
   rw[ab];refine⟨R,T r,U,⟨J7 (N _ v) (by decide),J8 D (by decide)⟩, ?_⟩;rintro⟨a9,_⟩ _ P;change C0 at a9;simp only at P⊢;rw[wv (by omega)];refine⟨T r,⟨by simp only;omega,by simp only;omega,by simp only;rw[qJ,qJ];exact g,fun b a=> ?_⟩,by omega⟩;simp only;have a5:GG (j+1).toNat (W8 E) (W9 E) (O3 f) b=GG j.toNat (W8 E) (W9 E) (O3 f) b+IQ (W8 E) (W9 E) b j.toNat*O3 f j.toNat:=by
    rw[show(j+1).toNat=j.toNat+1 from by omega];rfl
   rw[a5];by_cases B:b=W9 E j.toNat
   . subst B;rw[A9 (by rw[qJ,g];exact v),P,H,D7];congr 1;unfold IQ;rw[qL w,qP rfl];grind
   . rw[C9 B];by_cases A:b=W8 E j.toNat
     . subst A;rw[A9 (by rw[g];exact u),h,H,D7];congr 1;unfold IQ;rw[qP rfl,qL (Ne.symm w)];grind
     . rw[C9 A,o b a];congr 1;unfold IQ;rw[qL (Ne.symm A),qL (Ne.symm B)];grind
 . have d:=qB d;exact B9c g fun b a=>by rw[o b a,show j.toNat=E.length from by omega];rfl
def Vq (x:A2 S5.args) (b:awf S5.args x) (_:S5.pre x):La x:=by
 obtain⟨v,_⟩:=x;simp only[La,Cw];refine⟨trivial, ?_⟩;rintro⟨r,_⟩ _ a;change Int at r;simp only at a⊢;refine vL.2 (g4p ?_);rw[a,B6l]
def Jb (x:A2 I5.args) (u:awf I5.args x) (f:I5.pre x):Cs x:=by
 obtain⟨l,⟨v,g⟩,_⟩:=x;have z:l.length<=9223372036854775807:=u.1.1;change List C0 at l;have f:∀i∈l,v (i,()):=f;simp only[Cs,iB];refine⟨fun p=>0<=p.1/\p.1<=(l.length:Int)/\∀y∈l.take p.1.toNat,g (y,())=false,fun p=>((l.length:Int)-p.1).toNat,⟨qG _,qD _,by simp⟩, ?_⟩;rintro⟨i,_⟩ _ ⟨b,o,c⟩;change Int at i;simp only at b o c⊢;refine⟨fun h=> ?_,fun h=> ?_⟩
 . have h:=qA h;refine⟨⟨b,h⟩,by trivial,f _ (H6 b h),fun _=>⟨fun t=> ?_,fun r=> ?_⟩⟩
   . have s:l.findIdx? (fun i=>g (i,()))=some i.toNat:=by
      rw[wA];have j:=H1 (d:=dQ) b h;have k:i.toNat<l.length:=by omega
      rw[qO k]at j;refine⟨k,by rw[vX j];exact t,fun n w=> ?_⟩;have:=c l[n] (uA.2 ⟨n,by rw[qU];omega,by simp⟩);simp[this]
     unfold pE;rw[s];show i=((i.toNat:Nat):Int);omega
   . rw[wv (by omega)];refine⟨⟨by omega,by omega,fun y a=> ?_⟩,by omega⟩;rw[Fj (d:=dQ) b h]at a;rcases rA.1 a with a|a
     . exact c y a
     . rw[qR]at a;subst a;exact r
 . have h:=qB h;rw[D4 (by omega)]at c;unfold pE;have:l.findIdx? (fun i=>g (i,()))=none:=by
    rw[xJ];exact c
   rw[this]
def B8n {b:Type} (p:b->Bool) (l:List b):0<=pE p l↔∃i,i∈l/\p i=true:=by
 unfold pE;cases h:l.findIdx? p with
 |none=>
  rw[xJ]at h;constructor
  . intro c;simp at c
  . rintro⟨i,d,a⟩;have:=h i d;rw[this]at a;cases a
 |some k=>
  rw[wA]at h;obtain⟨a,c,_⟩:=h;exact⟨fun _=>⟨_,wM a,c⟩,fun _=>qD _⟩
def Gv (x:A2 H3.args) (d:awf H3.args x) (a:H3.pre x):Ak x:=by
 obtain⟨l,⟨c,f⟩,_⟩:=x;change List C0 at l;have a:∀i∈l,c (i,()):=a;simp only[Ak,Cw];refine⟨by trivial,by trivial,a, ?_⟩;rintro⟨r,_⟩ _ b;simp only at b⊢;rw[b];exact vL.2 (B8n _ _)
def D0d (s:Xr) (x:List C0) (p:Int×List C0×Unit):Prop:=0<=p.1/\p.1<=(s.length:Int)/\p.2.1.length=s.length/\∀t,t<s.length->zok (p.1.toNat*(K0+1)+1) (B7 p.1.toNat fun b=>(if s.getD b 0=(t:Int)then 1 else 0)*O3 x b) (p.2.1.getD t zr)
def AT (x:A2 Z4.args) (r:awf Z4.args x) (T:Z4.pre x):Pn x:=by
 obtain⟨s,x,_⟩:=x;have Q:∀y∈x,Av y:=fun y j=>N7 (r.2.1.2 y j)
 change Xr at s;change List C0 at x;obtain⟨a4,a3,X,a0⟩:s.length=x.length/\s.length<=7/\(∀b∈s,0<=b/\b<(s.length:Int))/\Db K0 x:=T;simp only[Pn,iB,H4,Ni];refine⟨⟨qD _,qG _,by omega,by omega⟩,D0d s x,fun p=>((s.length:Int)-p.1).toNat,⟨qG _,qD _,rC,fun t h=> ?_⟩, ?_⟩
 . have e:(List.replicate ((s.length:Nat):Int).toNat dQ).getD t zr=zr:=by
    rw[qF,tX];split<;>rfl
   simp only;rw[e];exact⟨⟨rM _,rM _⟩,⟨fun y j=>(by cases j),fun y j=>(by cases j)⟩,bE⟩
 rintro⟨i,z,_⟩ _ ⟨k,a2,n,f⟩;change Int at i;change List C0 at z;simp only at k a2 n f⊢;refine⟨fun a=> ?_,fun a=> ?_⟩
 . have a:=qA a;have o:i.toNat<s.length:=by omega
   have M:gx 0 s i=s.getD i.toNat 0:=E5 k a;have I:i<(x.length:Int):=by omega
   have N:gx dQ x i=x.getD i.toNat zr:=E5 k I;have J:x.getD i.toNat zr∈x:=B4 (by omega);have F:=X _ (B4 (d:=(0:Int)) o);rw[M,N];have G:=a0 _ J;have W:qs K0 (O3 x i.toNat):=U4 (Q _ J) G (by decide);have a1:rv (x.getD i.toNat zr)=O3 x i.toNat:=rfl;generalize P:s.getD i.toNat 0=c at*;have B:c.toNat<s.length:=by omega
   have u:zok (i.toNat*(K0+1)+1) (B7 i.toNat fun b=>(if s.getD b 0=((c.toNat:Nat):Int)then 1 else 0)*O3 x b) (z.getD c.toNat dQ):=f _ B;have Y:i.toNat*(K0+1)+1<=K1:=by
    have:i.toNat*(K0+1)<=7*(K0+1):=rJ _ (by omega);exact qW (g4o this) (by decide)
   have D:0<=c/\c<(z.length:Int):=⟨F.1,by rw[n];exact F.2⟩;refine⟨⟨k,a⟩,D,⟨k,I⟩,⟨J8 (F5 u.1 Y) (by decide),J8 G (by decide)⟩, ?_⟩;rintro⟨v,_⟩ _ g;change C0 at v;simp only at g⊢;rw[wv (by omega)];refine⟨D,⟨by simp only;omega,by simp only;omega,by simp only;rw[qJ];exact n,fun t h=> ?_⟩,by omega⟩;simp only;have Z:(B7 (i+1).toNat fun b=>(if s.getD b 0=(t:Int)then 1 else 0)*O3 x b)=(B7 i.toNat fun b=>(if s.getD b 0=(t:Int)then 1 else 0)*O3 x b)+(if c=(t:Int)then 1 else 0)*O3 x i.toNat:=by
    rw[show(i+1).toNat=i.toNat+1 from by omega,B7,P]
   rw[Z];have E:(i+1).toNat*(K0+1)+1=i.toNat*(K0+1)+1+K0+1:=by
    rw[show(i+1).toNat=i.toNat+1 from by omega,uJ,wT];omega
   by_cases H:t=c.toNat
   . subst H;rw[A9 (by rw[n];exact B),g,qP (show c=((c.toNat:Nat):Int)by omega),wU,a1,u.2.2];refine A5c (F8 (Sg (C5d u (by omega)) W) (g4a E.symm))
   . rw[C9 H,qL (show¬c=(t:Int)by omega),sZ,rL];exact dE (f t h) (qW (qW (Nat.le_add_right _ K0) (uS _)) (g4a E.symm))
 . have a:=qB a;have o:i.toNat=s.length:=by omega
   rw[o]at f;refine⟨fun _=>True,fun y=>decide (rv y.1≠0),fun y _ _=>⟨trivial,fun w _ r=>⟨by trivial,r⟩⟩,fun _ _=>trivial, ?_⟩;rintro⟨v,_⟩ _ g;change Bool at v;simp only at g⊢;rw[g];by_cases l:Dq s x
   . rw[rD l,rE];rfl;rintro⟨q,U,V⟩;obtain⟨t,h,rfl⟩:=P3 zr U;have A:=(f t (by omega)).2.2;rw[l t (by omega)]at A;exact qA V A
   . rw[rE l,rD];rfl;refine qQ fun R=>l fun t h=> ?_
     rw[<-(f t h).2.2];refine qQ fun O=>R ⟨z.getD t zr,B4 (by omega),rD O⟩
def IC (x:A2 Cl.args) (r:awf Cl.args x) (j:Cl.pre x):Vr x:=by
 obtain⟨⟨n,E⟩,_⟩:=x;change Int at n;change List Pz at E;have f:E2 (n,E):=j;have o:E.length<=16384:=f.2.2.1;simp only[Vr,iB];refine⟨⟨qG _,qD _,by omega,by omega⟩,fun p=>0<=p.2.1/\p.2.1<=(E.length:Int)/\p.1=Nh (E.take p.2.1.toNat),fun p=>((E.length:Int)-p.2.1).toNat,⟨qG _,qD _,rfl⟩, ?_⟩;rintro⟨l,i,_⟩ _ ⟨c,k,b⟩;change List Ln at l;change Int at i;simp only at c k b⊢;have h:l.length<=16384:=by rw[b];unfold Nh;rw[sL,qU];omega
 refine⟨fun a=> ?_,fun a=>⟨trivial, ?_⟩⟩
 . have a:=qA a;rw[wv (by omega)];have g:∀z:Nat,z<=16384->(z+1)*16<=140737488355328/\z+1<=9223372036854775807:=fun z g=>⟨by omega,by omega⟩
   exact⟨⟨c,a⟩,g _ h,⟨by omega,by omega,by rw[aT c a,b];rfl⟩,by omega⟩
 . have a:=qB a;rw[D4 (by omega)]at b;subst b;rintro⟨s,e,_⟩ _ ⟨d,_⟩;simp only at d⊢;rw[d,qP (lJ.2 (RU f))]
def WH (x:A2 Kv.args) (j:awf Kv.args x) (d:Kv.pre x):PP x:=by
 obtain⟨⟨n,E⟩,_⟩:=x;change Int at n;change List Pz at E;have g:E.length<=100000:=d;simp only[PP,iB];refine⟨fun p=>0<=p.2.1/\p.2.1<=(E.length:Int)/\p.1=Nh (E.take p.2.1.toNat),fun p=>((E.length:Int)-p.2.1).toNat,⟨qG _,qD _,rfl⟩, ?_⟩;rintro⟨l,i,_⟩ _ ⟨c,f,b⟩;change List Ln at l;change Int at i;simp only at c f b⊢;have h:l.length<=100000:=by rw[b];unfold Nh;rw[sL,qU];omega
 refine⟨fun a=> ?_,fun a=> ?_⟩
 . have a:=qA a;rw[wv (by omega)];exact⟨⟨c,a⟩,⟨by rw[qY];omega,by rw[qY];omega⟩,⟨by omega,by omega,by rw[aT c a,b];rfl⟩,by omega⟩
 . have a:=qB a;rw[D4 (by omega)]at b;exact b
def WI (x:A2 Kw.args) (g:awf Kw.args x) (c:Kw.pre x):PQ x:=by
 obtain⟨⟨n,E⟩,_⟩:=x;change Int at n;change List Pz at E;have b:E2 (n,E):=c;have f:E.length<=16384:=b.2.2.1;simp only[PQ,rT7];refine⟨show E.length<=100000 by omega, ?_⟩;rintro⟨r,_⟩ _ a;simp only at a⊢;rw[a];exact⟨RU b,fun q _ d=>d⟩
def HE:An:= {loop:= [(5,⟨[1,2,4,18,19],[0,1],[(20,false,vI)],[],[(2, .rows tE 79 106)]⟩),(12,⟨[1,2,4,68,69],[0,1],[(70,false,vI)],[],[(2, .row (.sl tE) 79)]⟩)],plan:= [(8,[5,7,9,11,14,15],[18,20],false,(.p 0 (.p 1 (.p 3 (.p 4 (.q 5 (.p 6 (.q 7 (.p 8 (.q 9 (.p 10 (.q 11 (.p 12 (.p 13 (.q 14 (.q 15 (.p 16 (.or 2 (.e 17 (.e 18 (.p 19 (.e 20 .done)))) (.e 17 (.or 2 (.e 18 (.p 19 (.e 20 .done))) (.e 18 (.e 2 (.p 19 (.e 20 .done)))))))))))))))))))))))),(9,[5,7,9,11,14,15],[18,20],false,(.p 0 (.p 1 (.p 3 (.p 4 (.q 5 (.p 6 (.q 7 (.p 8 (.q 9 (.p 10 (.q 11 (.p 12 (.p 13 (.q 14 (.q 15 (.p 16 (.or 2 (.e 17 (.e 18 (.p 19 (.e 20 .done)))) (.e 17 (.or 2 (.e 18 (.p 19 (.e 20 .done))) (.e 18 (.e 2 (.p 19 (.e 20 .done))))))))))))))))))))))))]}
def Mg:A2 W0.args->Prop:=fun(x:A4w)=>let A:=(140737488355328:Nat);let f:=(x.1.2.length:Int);let n:=(1:Int);let j:=(0:Int);True/\Ni fun r=>r.1=decide (E2 x.1)->(iB ((!r.1)) ((¬E2 x.1->(j,j,[])=zm/\n=n)/\(E2 x.1->Qm x.1.1.toNat x.1.1.toNat (Hr x.1.2) (j,j,[])/\n=j)) ((j<=x.1.1/\x.1.1<=x.1.1/\(↑(24:Nat):Int)*x.1.1<=281474976710656/\x.1.1<=9223372036854775807)/\∃(I:A1g->Prop),∃(d: _->Nat),I (j,List.replicate x.1.1.toNat [],())/\∀(p:A1g),let o:=(p.2.1.length:Int);let a:=(gx (j,j,dQ,(false,[]),[]) x.1.2 p.1);let v:=(a.1,a.2.2.1);let t:Prop:=(j<=a.1/\a.1<o);let s:=a.1.toNat;let z:=(List.getD p.2.1 s []);let i:=(a.2.1,a.2.2.1);let g:=a.2.1.toNat;(Ty.int i64).wf p.1/\Rw p.2.1/\True->I p->(iB (decide (p.1<f)) ((j<=p.1/\p.1<f)/\D8 a.2.2.1/\H4 fun r=>let w:=(a.2.1,r.1);let l:=(a.1,r.1);let k:Prop:=((z.length+ [v,w].length)*(64:Nat)<=A/\z.length+ [v,w].length<=9223372036854775807);let b:=(List.set p.2.1 s (List.getD p.2.1 s []++ [v,w]));let h:Prop:=(j<=a.2.1/\a.2.1<(↑b.length:Int));let e:Prop:=(((b.getD g []).length+ [i,l].length)*(64:Nat)<=A/\(b.getD g []).length+ [i,l].length<=9223372036854775807);let c:Prop:=(e/\h/\Int.toNat a.2.1=Int.toNat a.2.1/\I (i64.wrap (p.1+n),b.set g (b.getD g []++ [i,l]),())/\d (i64.wrap (p.1+n),b.set g (b.getD g []++ [i,l]),())<d p);let f:Prop:=(k/\t/\Int.toNat a.1=Int.toNat a.1/\h/\c/\c/\e/\h/\Int.toNat a.2.1=Int.toNat a.2.1/\I (i64.wrap (p.1+n),b.set g (b.getD g []++ [i,l]),())/\d (i64.wrap (p.1+n),b.set g (b.getD g []++ [i,l]),())<d p);r.1=rc (-rv a.2.2.1)->t/\f/\f/\k/\t/\Int.toNat a.1=Int.toNat a.1/\h/\c/\c/\e/\h/\Int.toNat a.2.1=Int.toNat a.2.1/\I (i64.wrap (p.1+n),b.set g (b.getD g []++ [i,l]),())/\d (i64.wrap (p.1+n),b.set g (b.getD g []++ [i,l]),())<d p) (∃(I:A1g->Prop),∃(d: _->Nat),I (j,p.2.1,())/\∀(B:A1g),let y:=(x.1.1,x.1.1,B.2.1);let u:=(List.getD B.2.1 B.1.toNat []);let q:Prop:=(j<=B.1/\B.1<(B.2.1.length:Int));(Ty.int i64).wf B.1/\Rw B.2.1/\True->I B->(iB (decide (B.1<o)) (q/\Qq u/\mE fun r=>let m:=(i64.wrap (B.1+n),List.set B.2.1 B.1.toNat r.1,());VO (A5 u) r.1->q/\I m/\d m<d B) ((¬E2 x.1->y=zm/\j=n)/\(E2 x.1->Qm x.1.1.toNat x.1.1.toNat (Hr x.1.2) y/\j=j)))))))
def KJ (n t:Nat) (E:List Pz) (b:Nat) (row:List D6):Prop:=row.length<=2*t/\(∀e∈row,0<=e.1/\e.1<(n:Int)/\sz 2 e.2)/\∀j:Nat,A5 row (j:Int)=RG t (W8 E) (W9 E) (Gz E) b j
def C6p (n:Nat) (E:List Pz) (p:Int×List (List D6)×Unit):Prop:=0<=p.1/\p.1<=(E.length:Int)/\p.2.1.length=n/\∀b,b<n->KJ n p.1.toNat E b (p.2.1.getD b [])
def gN (t:Nat) (fr to:Nat->Nat) (s:Nat->Rat) (b c:Nat):RG (t+1) fr to s b c=RG t fr to s b c+s t*(IQ fr to b t*IQ fr to c t):=rfl
def KJ.skip {n t:Nat} {E:List Pz} {b:Nat} {row:List D6} (h:KJ n t E b row) (a:W8 E t≠b) (c:W9 E t≠b):KJ n (t+1) E b row:=by
 refine⟨qW h.1 (by omega),h.2.1,fun j=> ?_⟩;rw[gN,h.2.2,show IQ (W8 E) (W9 E) b t=0 from by unfold IQ;rw[qL a,qL c];grind,sZ,uX,rL]
def KJ.add {n t:Nat} {E:List Pz} {b:Nat} {row:List D6} (h:KJ n t E b row) {x y:D6} (d:0<=x.1/\x.1<(n:Int)/\sz 2 x.2) (f:0<=y.1/\y.1<(n:Int)/\sz 2 y.2)
 (c:∀j:Nat,(if x.1=(j:Int)then rv x.2 else 0)+(if y.1=(j:Int)then rv y.2 else 0)=Gz E t*(IQ (W8 E) (W9 E) b t*IQ (W8 E) (W9 E) j t)):KJ n (t+1) E b (row++ [x,y]):=by
 refine⟨by rw[rN,rH,qY];have:=h.1;omega,fun e a=> ?_,fun j=> ?_⟩
 . rcases rA.1 a with a|a
   . exact h.2.1 e a
   . simp only[qI,rY,vH]at a;rcases a with rfl|rfl
     . exact d
     . exact f
 . rw[O2,h.2.2,gN, <-c];simp only[A5,rL]
def C9t (n:Nat) (rows:List (List D6)) (p:Int×List (List D6)×Unit):Prop:=0<=p.1/\p.1<=(n:Int)/\p.2.1.length=n/\(∀b:Nat,(b:Int)<p.1->VO (A5 (rows.getD b [])) (p.2.1.getD b []))/\∀b:Nat,p.1<=(b:Int)->p.2.1.getD b []=rows.getD b []
def Yf (x:A2 W0.args) (I:awf W0.args x) (P:W0.pre x):Mg x:=by
 obtain⟨⟨n,E⟩,_⟩:=x;have ah:∀e∈E,Av e.2.2.1:=fun e o=>N7 (I.1.2.2 e o).2.2.1
 change Int at n;change List Pz at E;have P:E2 (n,E)->N5 (n,E):=P;simp only[Mg,iB,H4,Ni,mE];refine⟨trivial, ?_⟩;rintro⟨A,_⟩ _ v;change Bool at A;simp only at v⊢;by_cases l:E2 (n,E)
 case neg=>
  rw[v,rE l];exact⟨fun _=>⟨fun _=>⟨rfl,by trivial⟩,fun t=>absurd t l⟩,fun t=>(by cases t)⟩
 rw[v,rD l];refine⟨fun t=>(by cases t),fun _=> ?_⟩;obtain⟨ak,ab,a2⟩:=P l;simp only at ak ab a2;obtain⟨n,rfl⟩:∃k:Nat,n=(k:Int):=⟨n.toNat,by have:=l.1;simp only at this;omega⟩;have ax:n<=16384:=by omega
 simp only[qH];refine⟨⟨qD _,qG _,by omega,by omega⟩,C6p n E,fun p=>((E.length:Int)-p.1).toNat,⟨qG _,qD _,rC,fun b d=> ?_⟩, ?_⟩
 . have e:(List.replicate n ([]:List D6)).getD b []= []:=by
    rw[qF,tX];split<;>rfl
   simp only;rw[e];exact⟨rM _,fun e o=>(by cases o),fun j=>rfl⟩
 rintro⟨i,rows,_⟩ _ ⟨R,ao,rl,g⟩;change Int at i;change List (List D6)at rows;simp only at R ao rl g⊢;refine⟨fun u=> ?_,fun u=> ?_⟩
 . have u:=qA u;have G:i.toNat<E.length:=by omega
   obtain⟨r,s⟩:=KN l G;have B:=B5f l G;simp only[qH]at r s B;obtain⟨a8,ar,a9,au,av,aw⟩:=RR l G;have aa:gx (0,0,dQ,(false,[]),[]) E i=E.getD i.toNat dB:=E5 R u;rw[aa];have W:E.getD i.toNat dB∈E:=B4 G;obtain⟨H,_⟩:=a2 _ W;have ai:=ah _ W;have ac:(E.getD i.toNat dB).1.toNat=W8 E i.toNat:=rfl;have ae:(E.getD i.toNat dB).2.1.toNat=W9 E i.toNat:=rfl;have U:rv (E.getD i.toNat dB).2.2.1=Gz E i.toNat:=rfl;have ad:(E.getD i.toNat dB).1=(W8 E i.toNat:Int):=(sP a8).symm;have af:(E.getD i.toNat dB).2.1=(W9 E i.toNat:Int):=(sP a9).symm;refine⟨⟨R,u⟩,J8 H (by decide), ?_⟩;rintro⟨A,_⟩ _ v;change C0 at A;simp only at v⊢;rw[ac,ae,ad,af];have a0:sz 2 A:=by rw[v];exact Vm (SG (U4 ai H (by decide)))
   have a1:rv A= -Gz E i.toNat:=by rw[v,D7];rfl
   have ag:∀X:List D6,(List.set rows (W8 E i.toNat) X).getD (W9 E i.toNat) []=rows.getD (W9 E i.toNat) []:=fun X=>C9 (Ne.symm B)
   simp only[ag];rw[wv (by omega)];have a5:0<=(W8 E i.toNat:Int)/\(W8 E i.toNat:Int)<(rows.length:Int):=⟨qD _,by rw[rl];exact sB.2 r⟩;have aq:∀X:List D6,0<=(W9 E i.toNat:Int)/\(W9 E i.toNat:Int)<((List.set rows (W8 E i.toNat) X).length:Int):=fun X=>⟨qD _,by rw[qJ,rl];exact sB.2 s⟩
   have Q:∀z:Nat,z<=18->(z+2)*64<=140737488355328/\z+2<=9223372036854775807:=fun z Q=>⟨by omega,by omega⟩
   have a6:=Q _ (qW (g _ r).1 (by omega));have a7:=Q _ (qW (g _ s).1 (by omega));have am:C6p n E (i+1,(rows.set (W8 E i.toNat) (rows.getD (W8 E i.toNat) []++ [((W8 E i.toNat:Int),(E.getD i.toNat dB).2.2.1),((W9 E i.toNat:Int),A)])).set (W9 E i.toNat) (rows.getD (W9 E i.toNat) []++ [((W9 E i.toNat:Int),(E.getD i.toNat dB).2.2.1),((W8 E i.toNat:Int),A)]),()):=by
    refine⟨by simp only;omega,by simp only;omega,by simp only;rw[qJ,qJ];exact rl,fun b d=> ?_⟩;simp only;rw[show(i+1).toNat=i.toNat+1 from by omega];by_cases O:b=W9 E i.toNat
    . subst O;rw[A9 (by rw[qJ,rl];exact s)];refine(g _ s).add ⟨qD _,sB.2 s,H⟩ ⟨qD _,sB.2 r,a0⟩ fun j=> ?_
      simp only;rw[U,a1];unfold IQ;rw[qL B,qP rfl];by_cases a:W8 E i.toNat=j<;>by_cases f:W9 E i.toNat=j
      . exact absurd (a.trans f.symm) B
      . rw[qL (by omega),qP (by omega),qP a,qL f];grind
      . rw[qP (by omega),qL (by omega),qL a,qP f];grind
      . rw[qL (by omega),qL (by omega),qL a,qL f];grind
    . rw[C9 O];by_cases N:b=W8 E i.toNat
      . subst N;rw[A9 (by rw[rl];exact r)];refine(g _ r).add ⟨qD _,sB.2 r,H⟩ ⟨qD _,sB.2 s,a0⟩ fun j=> ?_
        simp only;rw[U,a1];unfold IQ;rw[qP rfl,qL (Ne.symm B)];by_cases a:W8 E i.toNat=j<;>by_cases f:W9 E i.toNat=j
        . exact absurd (a.trans f.symm) B
        . rw[qP (by omega),qL (by omega),qP a,qL f];grind
        . rw[qL (by omega),qP (by omega),qL a,qP f];grind
        . rw[qL (by omega),qL (by omega),qL a,qL f];grind
      . rw[C9 N];exact(g b d).skip (Ne.symm N) (Ne.symm O)
   have aj:((E.length:Int)-(i+1)).toNat<((E.length:Int)-i).toNat:=by omega
   repeat' first
    |exact am
    |exact aj
    |exact True.intro
    |exact rfl
    |exact a5.1
    |exact a5.2
    |exact qD _
    |exact(aq _).2
    |exact a6.1
    |exact a6.2
    |exact a7.1
    |exact a7.2
    |apply And.intro
 have u:=qB u;rw[show i.toNat=E.length from by omega]at g;refine⟨C9t n rows,fun p=>((n:Int)-p.1).toNat,⟨qG _,qD _,rl,fun b d=>by simp only at d;omega,fun b _=>rfl⟩, ?_⟩;rintro⟨j,out,_⟩ _ ⟨a4,ap,F,J,M⟩;change Int at j;change List (List D6)at out;simp only at a4 ap F J M⊢;refine⟨fun h=> ?_,fun h=> ?_⟩
 . have h:=qA h;have Y:j<(n:Int):=by rw[rl]at h;exact h
   have Z:0<=j/\j<(out.length:Int):=⟨a4,by rw[F];exact Y⟩;have D:=g j.toNat (by omega);rw[M j.toNat (by omega)];refine⟨Z, .inr ⟨qW D.1 (by omega),fun e o=>F5 (D.2.1 e o).2.2 (by decide)⟩, ?_⟩;rintro⟨w,_⟩ _ I;change List D6 at w;simp only at I⊢;rw[wv (by omega)];refine⟨Z,⟨by simp only;omega,by simp only;omega,by simp only;rw[qJ];exact F,fun b d=> ?_,fun b d=> ?_⟩,by omega⟩
   . simp only at d⊢;by_cases V:b=j.toNat
     . subst V;rw[A9 (by rw[F];omega)];exact I
     . rw[C9 V];exact J b (by omega)
   . simp only at d⊢;rw[C9 (by omega)];exact M b (by omega)
 . have h:=qB h;have Y:¬j<(n:Int):=by rw[rl]at h;exact h
   refine⟨fun t=>absurd l t,fun _=>⟨⟨rfl,rfl,F,fun b d=> ?_⟩,by trivial⟩⟩;obtain⟨c1,T⟩:=J b (by omega);have D:=g b d;refine⟨c1,fun e o=> ?_,fun c _=> ?_⟩
   . have a:A5 (rows.getD b []) e.1≠0:=by rw[<-T,R9 c1.1 o];exact(c1.2 e o).1
     obtain⟨y,a3,an⟩:=GD a;rw[<-an];exact⟨(D.2.1 y a3).1,(D.2.1 y a3).2.1⟩
   . rw[T,D.2.2];rfl
def UU:An:= {}
def QB:An:= {join:= [(23,⟨[1,2,10,58,59,60],[0],[(11,false,[.own (.int .i64) 3]),(12,false,[.own tQ 43])],[],[]⟩)],loop:= [(10,⟨[1,2,6,40,41],[0],[(7,false,[.own tQ 43]),(42,false,vI)],[],[]⟩),(18,⟨[1,2,10,58,59],[0],[(11,false,[.own (.int .i64) 3]),(12,false,[.own tQ 43]),(60,false,vI)],[],[]⟩),(29,⟨[11,15,17,99],[],[(100,false,vI)],[],[(5, .row tQ 43)]⟩),(34,⟨[15,17,108,109],[],[(110,false,vI)],[],[(5, .row tQ 43)]⟩)],plan:= [(22,[4,8],[11],false,(pZ9 0 4 (.q 4 (pZ9 5 3 (.q 8 (.e 9 (.e 10 (.e 11 (.p 12 .done)))))))))]}
def US:An:= {loop:= [(6,⟨[6,26,27],[],[(8,false,[.own tQ 43]),(28,false,vI)],[],[]⟩)],plan:= [(8,[2,4,7,9,12],[15],true,(.p 0 (.p 1 (.q 2 (.p 3 (.q 4 (.p 5 (.p 6 (.q 7 (.p 8 (.q 9 (.p 11 (.q 12 (.or 10 (.or 13 (.e 14 (.e 15 .done)) (.e 14 (.e 13 (.e 15 .done)))) (.e 14 (.e 10 (.e 13 (.e 15 .done))))))))))))))))))]}
abbrev Ra:=List QQ×Int×Unit
def Yw:A2 Eb.args->Prop:=fun(x:(Int×List (Int×Int×QQ×(Bool×Xr)×Xr))×Xr×List QQ×Unit)=>let o:=x.2.1.length;let n:=(1:Int);let l:=(1:Nat);let k:=(16384:Nat);let g:Prop:=(∀(e:QQ),e∈ []->e=rc (rv e));let d:=(0:Int);(E2 x.1->N5 x.1)/\∀(r:OM),let f:Prop:=((∃(i:Int),i∈x.2.1/\(i<d\/r.1.1<=i))\/∃(i:Int),i∈x.2.1/\(i<d\/r.1.2.1<=i));WfM r.1/\I2 r.2.1/\True->(¬E2 x.1->r.1=zm/\r.2.1=n)/\(E2 x.1->Qm x.1.1.toNat x.1.1.toNat (Hr x.1.2) r.1/\r.2.1=d)->(iB (decide (r.2.1≠d)) (r.2.1=d/\0=x.2.1.length/\g/\Db K0 []/\∀(a:Nat),a<x.2.1.length->(B7 x.2.1.length fun(c:Nat)=>Hr x.1.2 (ix x.2.1 a) (ix x.2.1 c)*O3 [] c)=O3 x.2.2.1 a) ((X0 K1 r.1/\List.length x.2.1<=1000/\List.length x.2.1<=1000/\List.Nodup x.2.1)/\∀(q:OM),let h:=q.1.1.toNat;WfM q.1/\I2 q.2.1/\True->(¬D1 r.1->q.1=zm/\q.2.1=n)/\(D1 r.1->(f->q.1=zm/\q.2.1=3)/\(¬f->(k<List.length x.2.1\/k<List.length x.2.1->q.1=zm/\q.2.1=8)/\(List.length x.2.1<=k/\List.length x.2.1<=k->Qm o o (fun(i j:Nat)=>el r.1 (List.getD x.2.1 i d).toNat (List.getD x.2.1 j d).toNat) q.1/\q.2.1=d)))->(iB (decide (q.2.1≠d)) (q.2.1=d/\0=x.2.1.length/\g/\Db K0 []/\∀(a:Nat),a<x.2.1.length->(B7 x.2.1.length fun(c:Nat)=>Hr x.1.2 (ix x.2.1 a) (ix x.2.1 c)*O3 [] c)=O3 x.2.2.1 a) ((∃(s:Nat),l<=s/\X0 s q.1/\s<=K1/\(D1 q.1->q.1.1=q.1.2.1->sK s (Int.toNat q.1.1-l)<=K1))/\∀(r:C4r),let b:=r.1.1.length;let p:=(↑b:Int);(MK r.1.1/\MK r.1.2.1/\WfM r.1.2.2.1/\I2 r.1.2.2.2.1/\I2 r.1.2.2.2.2.1/\Rw r.1.2.2.2.2.2)/\I2 r.2.1/\True->(¬D1 q.1->r.1=fB/\r.2.1=n)/\(D1 q.1->(q.1.1≠q.1.2.1->r.1=fB/\r.2.1=4)/\(q.1.1=q.1.2.1->(¬nonsing h (el q.1)->r.1=fB/\r.2.1=6)/\(nonsing h (el q.1)->Bz r.1 q.1.1/\r.2.1=d/\(∀(v:List EE),v∈r.1.2.2.1.2.2->Ae v)/\(∀(v:List EE),v∈r.1.2.2.2.2.2->Ae v)/\(∀(s:Nat),l<=s->X0 s q.1->∀(i j:Nat),i<Int.toNat q.1.1->qs (sK s h) (el r.1.2.2.1 i j)/\qs (sK s i) (el r.1.2.2.2 i j))/\∀(i j:Nat),i<Int.toNat q.1.1->j<Int.toNat q.1.1->luM r.1 h i j=el q.1 (ix r.1.1 i) (ix r.1.2.1 j))))->(iB (decide (r.2.1≠d)) (r.2.1=d/\0=x.2.1.length/\g/\Db K0 []/\∀(a:Nat),a<x.2.1.length->(B7 x.2.1.length fun(c:Nat)=>Hr x.1.2 (ix x.2.1 a) (ix x.2.1 c)*O3 [] c)=O3 x.2.2.1 a) ((List.length r.1.1<=k/\X0 K1 r.1.2.2.1/\X0 K1 r.1.2.2.2/\(Bz r.1 p->List.length x.2.2.1=List.length r.1.1->∃(s:Nat),∃(T:Nat),l<=s/\l<=T/\X0 s r.1.2.2.1/\X0 s r.1.2.2.2/\Db T x.2.2.1/\hK s (gK s T b) b+s<=K1))/\∀(t:Ra),let m:Prop:=(∀(e:QQ),e∈t.1->e=rc (rv e));MG t.1/\I2 t.2.1/\True->(¬Bz r.1 p->t.1= []/\t.2.1=n)/\(Bz r.1 p->(List.length x.2.2.1≠List.length r.1.1->t.1= []/\t.2.1=4)/\(List.length x.2.2.1=List.length r.1.1->t.2.1=d/\t.1.length=List.length r.1.1/\m/\(∀(s T:Nat),l<=s->l<=T->X0 s r.1.2.2.1->X0 s r.1.2.2.2->Db T x.2.2.1->Db (hK s (gK s T b) b+s) t.1)/\∀(i:Nat),i<List.length r.1.1->(B7 b fun(j:Nat)=>luM r.1 b i j*rv (t.1.getD (ix r.1.2.1 j) zr))=rv (List.getD x.2.2.1 (ix r.1.1 i) zr)))->t.2.1=d/\List.length t.1=x.2.1.length/\m/\Db K0 t.1/\∀(a:Nat),a<x.2.1.length->(B7 x.2.1.length fun(c:Nat)=>Hr x.1.2 (ix x.2.1 a) (ix x.2.1 c)*O3 t.1 c)=O3 x.2.2.1 a))))))
abbrev C8o:=Xr×List QQ×Int×Unit
def Vp:A2 Ck.args->Prop:=fun(x:C4q)=>let K:=(281474976710656:Int);let H:=(9223372036854775807:Int);let G:=(56:Nat);let B:=x.1.1.toNat;let z:=(140737488355328:Nat);let w:=(↑(0:Nat):Int);let t:=(4:Int);let s:=(x.2.1.length:Int);let q:=(14:Int);let o:Prop:=(∀(e:QQ),e∈ []->e=rc (rv e));let k:=(1:Int);let i:=(x.1.2.length:Int);let h:=(↑x.2.1.length:Int);let g:=(K7 x.1.1 (Nh x.1.2));let j:Prop:=(∀(b:Nat),b<x.1.1.toNat->Ke x.1.2 (PX x.1.2 (O3 [])) b=O3 x.2.1 b);let d:=(0:Int);True/\Ni fun r=>r.1=decide (E2 x.1)->(iB ((!r.1)) ((¬E2 x.1->O8 QQ= []/\k=k)/\(E2 x.1->(h≠x.1.1->O8 QQ= []/\k=t)/\(h=x.1.1->(¬Dq g x.2.1->O8 QQ= []/\k=q)/\(Dq g x.2.1->k=d/\w=x.1.1/\o/\Db K0 []/\j/\∀(b:Nat),b<x.1.1.toNat->J4 x.1 b=b->O3 [] b=(0:Rat))))) ((iB (decide (s≠x.1.1)) ((¬E2 x.1->O8 QQ= []/\t=k)/\(E2 x.1->(h≠x.1.1->O8 QQ= []/\t=t)/\(h=x.1.1->(¬Dq g x.2.1->O8 QQ= []/\t=q)/\(Dq g x.2.1->t=d/\w=x.1.1/\o/\Db K0 []/\j/\∀(b:Nat),b<x.1.1.toNat->J4 x.1 b=b->O3 [] b=(0:Rat))))) (E2 x.1/\rT7 fun r=>let n:=(r.1.length:Int);r.1=K7 x.1.1 (Nh x.1.2)->(List.length r.1=List.length x.2.1/\List.length r.1<=7/\(∀(b:Int),b∈r.1->d<=b/\b<n)/\Db K0 x.2.1)/\Ni fun O=>O.1=decide (Dq r.1 x.2.1)->(iB ((!O.1)) ((¬E2 x.1->O8 QQ= []/\q=k)/\(E2 x.1->(h≠x.1.1->O8 QQ= []/\q=t)/\(h=x.1.1->(¬Dq g x.2.1->O8 QQ= []/\q=q)/\(Dq g x.2.1->q=d/\w=x.1.1/\o/\Db K0 []/\j/\∀(b:Nat),b<x.1.1.toNat->J4 x.1 b=b->O3 [] b=(0:Rat))))) ((d<=d/\d<=i/\(↑G:Int)*i<=K/\i<=H)/\∃(I:Ra->Prop),∃(a: _->Nat),I (List.replicate d.toNat dQ,d,())/\∀(p:Ra),let l:=(gx (d,d,dQ,(false,[]),[]) x.1.2 p.2.1);tQ.sl.wf p.1/\(Ty.int i64).wf p.2.1/\True->I p->(iB (decide (p.2.1<i)) ((d<=p.2.1/\p.2.1<i)/\(D8 l.2.2.1/\D8 l.2.2.2)/\H4 fun r=>let y:=(p.1++ [r.1],i64.wrap (p.2.1+k),());r.1=rc (rv l.2.2.1*rv l.2.2.2)->((p.1.length+ [r.1].length)*G<=z/\p.1.length+ [r.1].length<=9223372036854775807)/\I y/\a y<a p) ((E2 x.1/\List.length x.1.2<=9/\p.1.length=List.length x.1.2/\Db K2 p.1)/\∀(N:OL),MG N.1/\True->N.1=IU B (Ke x.1.2 (O3 p.1))->∃(I:C8o->Prop),∃(a: _->Nat),I ([],[],d,())/\∀(p:C8o),let F:=(gx dQ N.1 p.2.2.1);let E:=(gx dQ x.2.1 p.2.2.1);let C:Prop:=(p.2.2.1≠gx d r.1 p.2.2.1);let A:=(↑p.1.length:Int);(Ty.int i64).sl.wf p.1/\tQ.sl.wf p.2.1/\(Ty.int i64).wf p.2.2.1/\True->I p->(iB (decide (p.2.2.1<n)) (∃(J:C4x->Prop),((d<=p.2.2.1/\p.2.2.1<n)/\(iB (decide C) (((p.1.length+ [p.2.2.1].length)*(8:Nat)<=z/\p.1.length+ [p.2.2.1].length<=9223372036854775807)/\(d<=p.2.2.1/\p.2.2.1<s)/\(d<=p.2.2.1/\p.2.2.1<(N.1.length:Int))/\(D8 E/\D8 F)/\H4 fun r=>r.1=rc (rv E-rv F)->((p.2.1.length+ [r.1].length)*G<=z/\p.2.1.length+ [r.1].length<=9223372036854775807)/\J (p.1++ [p.2.2.1],p.2.1++ [r.1],())) (J (p.1,p.2.1,()))))/\∀(M:C4x),let v:=(M.1,M.2.1,i64.wrap (p.2.2.1+k),());(Ty.int i64).sl.wf M.1/\tQ.sl.wf M.2.1/\True->J M->I v/\a v<a p) ((E2 x.1/\N5 x.1/\p.1.Nodup/\p.1.length<=(6:Nat)/\(∀(b:Int),b∈p.1->d<=b/\b<x.1.1)/\p.2.1.length=p.1.length/\Db (256:Nat) p.2.1/\nonsing p.1.length fun(f c:Nat)=>Hr x.1.2 (ix p.1 f) (ix p.1 c))/\∀(r:Ra),MG r.1/\I2 r.2.1/\True->(r.2.1=d/\r.1.length=p.1.length/\(∀(e:QQ),e∈r.1->e=rc (rv e))/\Db K0 r.1/\∀(f:Nat),f<p.1.length->(B7 p.1.length fun(c:Nat)=>Hr x.1.2 (ix p.1 f) (ix p.1 c)*O3 r.1 c)=O3 p.2.1 f)->(iB (decide (r.2.1≠d)) ((¬E2 x.1->O8 QQ= []/\r.2.1=k)/\(E2 x.1->(h≠x.1.1->O8 QQ= []/\r.2.1=t)/\(h=x.1.1->(¬Dq g x.2.1->O8 QQ= []/\r.2.1=q)/\(Dq g x.2.1->r.2.1=d/\w=x.1.1/\o/\Db K0 []/\j/\∀(b:Nat),b<x.1.1.toNat->J4 x.1 b=b->O3 [] b=(0:Rat))))) ((d<=x.1.1/\x.1.1<=x.1.1/\(↑G:Int)*x.1.1<=K/\x.1.1<=H)/\∃(I:Ja->Prop),∃(a: _->Nat),I (d,List.replicate B dQ,())/\∀(M:Ja),let P:Prop:=(M.1<(↑(List.replicate B dQ).length:Int));(Ty.int i64).wf M.1/\MG M.2.1/\True->I M->(iB (decide P) (True/\H4 fun r=>let u:=(i64.wrap (M.1+k),List.set M.2.1 M.1.toNat r.1,());r.1=ri d->(d<=M.1/\M.1<(M.2.1.length:Int))/\I u/\a u<a M) (∃(I:Ja->Prop),∃(a: _->Nat),I (d,M.2.1,())/\∀(L:Ja),let D:=(L.2.1.length:Int);let m:=(i64.wrap (L.1+k),List.set L.2.1 (gx d p.1 L.1).toNat (gx dQ r.1 L.1),());(Ty.int i64).wf L.1/\MG L.2.1/\True->I L->(iB (decide (L.1<A)) ((d<=L.1/\L.1<A)/\(d<=L.1/\L.1<(r.1.length:Int))/\(d<=gx d p.1 L.1/\gx d p.1 L.1<D)/\I m/\a m<a L) ((¬E2 x.1->L.2.1= []/\d=k)/\(E2 x.1->(h≠x.1.1->L.2.1= []/\d=t)/\(h=x.1.1->(¬Dq g x.2.1->L.2.1= []/\d=q)/\(Dq g x.2.1->d=d/\D=x.1.1/\(∀(e:QQ),e∈L.2.1->e=rc (rv e))/\Db K0 L.2.1/\(∀(b:Nat),b<x.1.1.toNat->Ke x.1.2 (PX x.1.2 (O3 L.2.1)) b=O3 x.2.1 b)/\∀(b:Nat),b<x.1.1.toNat->J4 x.1 b=b->O3 L.2.1 b=(0:Rat))))))))))))))))))))
def Yu:A2 Dz.args->Prop:=fun(x:C4q)=>let u:=(56:Nat);let o:=(x.2.1.length:Int);let n:=(1:Int);let m:=(140737488355328:Nat);let h:=(↑x.2.1.length:Int);let f:=(0:Int);let d:=(K7 x.1.1 (Nh x.1.2));let c:=(x.1.2.length:Int);(E2 x.1->N5 x.1/\Db (128:Nat) x.2.1)/\∀(r:Ra),let s:=(r.1.length:Int);MG r.1/\I2 r.2.1/\True->(¬E2 x.1->r.1= []/\r.2.1=n)/\(E2 x.1->(o≠x.1.1->r.1= []/\r.2.1=4)/\(o=x.1.1->(¬Dq d x.2.1->r.1= []/\r.2.1=14)/\(Dq d x.2.1->r.2.1=f/\(↑r.1.length:Int)=x.1.1/\(∀(e:QQ),e∈r.1->e=rc (rv e))/\Db K0 r.1/\(∀(b:Nat),b<Int.toNat x.1.1->Ke x.1.2 (PX x.1.2 (O3 r.1)) b=O3 x.2.1 b)/\∀(b:Nat),b<Int.toNat x.1.1->J4 x.1 b=b->O3 r.1 b=(0:Rat))))->(iB (decide (r.2.1≠f)) ((¬E2 x.1->O8 QQ= []/\r.2.1=n)/\(E2 x.1->(h≠x.1.1->O8 QQ= []/\r.2.1=4)/\(h=x.1.1->(¬Dq d x.2.1->O8 QQ= []/\r.2.1=14)/\(Dq d x.2.1->r.2.1=f/\Db K2 []/\∃(t:Nat->Rat),(∀(b:Nat),b<x.1.1.toNat->Ke x.1.2 (PX x.1.2 t) b=O3 x.2.1 b)/\O8 QQ=IU x.1.2.length (PX x.1.2 t))))) ((f<=f/\f<=c/\(↑u:Int)*c<=(281474976710656:Int)/\c<=(9223372036854775807:Int))/\∃(I:Ra->Prop),∃(g: _->Nat),I (List.replicate f.toNat dQ,f,())/\∀(p:Ra),let a:=(gx (f,f,dQ,(false,[]),[]) x.1.2 p.2.1);let l:=(gx dQ r.1 a.1);let j:=(gx dQ r.1 a.2.1);tQ.sl.wf p.1/\(Ty.int i64).wf p.2.1/\True->I p->(iB (decide (p.2.1<c)) ((f<=p.2.1/\p.2.1<c)/\(f<=a.1/\a.1<s)/\(f<=a.2.1/\a.2.1<s)/\((D8 l/\D8 j)/\H4 fun y=>let v:Prop:=(D8 y.1/\D8 a.2.2.2);let q:=(rv y.1+rv a.2.2.2);y.1=rc (rv l-rv j)->(v/\H4 fun r=>r.1=rc q->(D8 a.2.2.1/\D8 r.1)/\H4 fun w=>let i:=(p.1++ [w.1],i64.wrap (p.2.1+n),());w.1=rc (rv a.2.2.1*rv r.1)->((p.1.length+ [w.1].length)*u<=m/\p.1.length+ [w.1].length<=9223372036854775807)/\I i/\g i<g p)/\v/\H4 fun r=>r.1=rc q->(D8 a.2.2.1/\D8 r.1)/\H4 fun w=>let k:=(p.1++ [w.1],i64.wrap (p.2.1+n),());w.1=rc (rv a.2.2.1*rv r.1)->((p.1.length+ [w.1].length)*u<=m/\p.1.length+ [w.1].length<=9223372036854775807)/\I k/\g k<g p)/\(D8 l/\D8 j)/\H4 fun y=>y.1=rc (rv l-rv j)->(D8 y.1/\D8 a.2.2.2)/\H4 fun r=>r.1=rc (rv y.1+rv a.2.2.2)->(D8 a.2.2.1/\D8 r.1)/\H4 fun w=>let k:=(p.1++ [w.1],i64.wrap (p.2.1+n),());w.1=rc (rv a.2.2.1*rv r.1)->((p.1.length+ [w.1].length)*u<=m/\p.1.length+ [w.1].length<=9223372036854775807)/\I k/\g k<g p) ((¬E2 x.1->p.1= []/\f=n)/\(E2 x.1->(h≠x.1.1->p.1= []/\f=(4:Int))/\(h=x.1.1->(¬Dq d x.2.1->p.1= []/\f=(14:Int))/\(Dq d x.2.1->f=f/\Db K2 p.1/\∃(t:Nat->Rat),(∀(b:Nat),b<x.1.1.toNat->Ke x.1.2 (PX x.1.2 t) b=O3 x.2.1 b)/\p.1=IU x.1.2.length (PX x.1.2 t))))))))
def iS {n:Nat} {d:Nat->Nat} (j:∀a,a<n->d a<n) (i:∀a b,a<n->b<n->d a=d b->a=b) (f:Nat->Rat):B7 n (fun a=>f (d a))=B7 n f:=by
 have k:B7 n f=B7 n fun c=>B7 n fun a=>if d a=c then f c else 0:=B6 fun c h=>by
  obtain⟨a,g,rfl⟩:=Ft j i h;rw[O4 g fun b l o=>qL fun e=>o (i b a l g e),qP rfl]
 rw[k,Jw];refine B6 fun a g=> ?_
 rw[O4 (j a g) fun c _ h=>qL (Ne.symm h),qP rfl]
def IV {n:Nat} {A B:Nat->Nat->Rat} (h:∀i j,i<n->j<n->A i j=B i j) (b:nonsing n A):nonsing n B:=fun x c=>b x fun i a=>by
 rw[<-c i a];exact B6 fun j b=>by rw[h i j a b]
def C3k {t:Nat} {E:List Pz} (h:∀i,i<t->qs 2 (Gz E i)) (a:t<=9) (b c:Nat):qs 28 (RG t (W8 E) (W9 E) (Gz E) b c):=by
 unfold RG;refine F8 (OH (k:=2) fun i a=> ?_) (by omega);rw[show Gz E i*(IQ (W8 E) (W9 E) b i*IQ (W8 E) (W9 E) c i)=IQ (W8 E) (W9 E) b i*(IQ (W8 E) (W9 E) c i*Gz E i)from by grind];exact A2p (by decide) (A2p (by decide) (h i a))
def iX {N:Hj} (d:N5 N) (f:∀e∈N.2,Av e.2.2.1) (b c:Nat):qs 28 (Hr N.2 b c):=C3k (fun i a=>U4 (f _ (B4 a)) (d.2.2 _ (B4 a)).1 (by decide)) d.2.1 b c
def lT {k:Nat} {m:Dn} (b:D1 m) (c:∀v∈m.2.2,Ae v) (o:1<=k) (h:∀i j:Nat,(i:Int)<m.1->qs k (el m i j)):X0 k m:=fun v a=>by
 obtain⟨i,g,rfl⟩:=P3 [] a;have l:(i:Int)<m.1:=by rw[<-b.2.2.2.2.1];exact sB.2 g
 refine NI (c _ a) fun j=> ?_
 by_cases n:0<=j
 . have:=h i j.toNat l;unfold el at this;rwa[show((j.toNat:Nat):Int)=j from by omega]at this
 . rw[E3 fun e d f=>n (by rw[<-f];exact((b.2.2.2.2.2 _ a).2 e d).1)];exact N3 o
def B6p {k:Nat} (h:k<=6):hK (sK 28 k) (gK (sK 28 k) 256 k) k+sK 28 k<=K0/\1<=sK 28 k/\sK 28 (k-1)<=K1/\sK 28 k<=K1:=by
 have:k=0\/k=1\/k=2\/k=3\/k=4\/k=5\/k=6:=by omega
 rcases this with rfl|rfl|rfl|rfl|rfl|rfl|rfl<;>decide+kernel
def LN (x:A2 Eb.args) (W:awf Eb.args x) (aw:Eb.pre x):Yw x:=by
 obtain⟨⟨n,E⟩,o,b,_⟩:=x;have aj:∀e∈E,Av e.2.2.1:=fun e s=>N7 (W.1.2.2 e s).2.2.1
 have b2:∀y∈b,Av y:=fun y O=>N7 (W.2.2.1.2 y O)
 change Int at n;change List Pz at E;change Xr at o;change List C0 at b;obtain⟨A,N,ao,ar,R,ae,V,ap⟩:E2 (n,E)/\N5 (n,E)/\o.Nodup/\o.length<=6/\(∀b∈o,0<=b/\b<n)/\b.length=o.length/\Db 256 b/\nonsing o.length (fun g c=>Hr E (ix o g) (ix o c)):=aw;obtain⟨n,rfl⟩:∃k:Nat,n=(k:Int):=⟨n.toNat,by have:=A.1;simp only at this;omega⟩;have b3:n<=7:=by have:=N.1;simp only at this;omega
 have P:∀b c,qs 28 (Hr E b c):=iX N aj;simp only[Yw,iB];refine⟨fun _=>N, ?_⟩;rintro⟨m,e,_⟩ _ ⟨_,f⟩;change Int at e;simp only at f⊢;obtain⟨w,s⟩:=f A;simp only[qH]at w;subst s;refine⟨fun l=>absurd l (by simp),fun _=> ?_⟩;have an:=Nf w (by omega) (by omega);refine⟨⟨KG w (by decide) fun i j _ _=>F8 (P i j) (by decide),show o.length<=1000 by omega,show o.length<=1000 by omega,ao⟩, ?_⟩;rintro⟨B,a2,_⟩ _ ⟨_,f⟩;change Int at a2;simp only at f⊢;have ai:¬((∃i,i∈o/\(i<0\/m.1<=i))\/∃i,i∈o/\(i<0\/m.2.1<=i)):=by
  rw[w.1,w.2.1];rintro(⟨i,a,l⟩ | ⟨i,a,l⟩)<;>(have:=R i a;omega)
 obtain⟨z,af⟩:=((f an).2 ai).2 ⟨show o.length<=16384 by omega,show o.length<=16384 by omega⟩;subst af;refine⟨fun l=>absurd l (by simp),fun _=> ?_⟩;have T:∀g,g<o.length->ix o g<n:=fun g r=>by
  have:=R _ (B4 (d:=0) r);unfold ix;omega
 have I:∀i j,i<o.length->j<o.length->el B i j=Hr E (ix o i) (ix o j):=fun i j a h=>by
  rw[CH z a h];exact CH w (T i a) (T j h)
 have ak:=Nf z (by omega) (by omega);have Q:X0 28 B:=KG z (by decide) fun i j a h=>by
  rw[<-CH z a h,I i j a h];exact P _ _
 obtain⟨Z,F,b1,a0⟩:=B6p ar;have H:B.1=(o.length:Int):=z.1;have a6:B.2.1=(o.length:Int):=z.2.1;have a9:Int.toNat B.1=o.length:=by rw[H,qH]
 rw[a9];refine⟨⟨28,by decide,Q,by decide,fun _ _=>b1⟩, ?_⟩;rintro⟨t,a3,_⟩ _ ⟨_,f⟩;change Int at a3;simp only at f⊢;have aq:nonsing o.length (el B):=IV (fun i j a h=>(I i j a h).symm) ap;obtain⟨u,ag,c1,a1,ax,am⟩:=((f ak).2 (H.trans a6.symm)).2 aq;subst ag;refine⟨fun l=>absurd l (by simp),fun _=> ?_⟩;rw[H]at u;have D:=GT u.1;have G:=GT u.2.1;have a7:t.1.length=o.length:=D.1;have a8:List.length t.1=o.length:=a7;obtain⟨ay,b4,az⟩:=u.2.2.1;obtain⟨Y,b5,b0⟩:=u.2.2.2.1;have U:=ax 28 (by decide) Q;have J:X0 (sK 28 o.length) t.2.2.1:=lT az c1 F fun i j a=>(U i j (by rw[ay]at a;omega)).1
 have M:X0 (sK 28 o.length) t.2.2.2:=lT b0 a1 F fun i j a=>F8 (U i j (by rw[Y]at a;omega)).2 (Xo (by rw[Y]at a;omega))
 have au:X0 K1 t.2.2.1:=fun v A e s=>F5 (J v A e s) a0
 have av:X0 K1 t.2.2.2:=fun v A e s=>F5 (M v A e s) a0
 rw[a8];refine⟨⟨show o.length<=16384 by omega,au,av,fun _ _=>⟨sK 28 o.length,256,F,by decide,J,M,V,qW Z (by decide)⟩⟩, ?_⟩;rintro⟨X,a4,_⟩ _ ⟨_,f⟩;change Int at a4;change List C0 at X;simp only at f⊢;obtain⟨ah,ac,ab,ad,aa⟩:=(f u).2 ae;refine⟨ah,ac,ab,fun y O=>F5 (ad _ _ F (by decide) J M V y O) Z,fun g r=> ?_⟩;obtain⟨i,a,rfl⟩:=Ft (fun g r=>(D.2.1 g r).2) D.2.2 r;have a5:=aa i a;rw[<-iS (fun g r=>(G.2.1 g r).2) G.2.2 (fun c=>Hr E (ix o (ix t.1 i)) (ix o c)*O3 X c)];refine Eq.trans (B6 fun j h=> ?_) a5;rw[am i j a h,I _ _ (D.2.1 i a).2 (G.2.1 j h).2];rfl
variable {N:Hj}
def Au (a:E2 N):(K7 N.1 (Nh N.2)).length=N.1.toNat/\∀b,b<N.1.toNat->(K7 N.1 (Nh N.2)).getD b 0=(J4 N b:Int)/\J4 N b<=b/\J4 N (J4 N b)=J4 N b:=by
 have c:=RU a;have a:=Nv N.1 (Nh N.2);have g:=pN c.1 c.2.2;refine⟨a,fun b c=> ?_⟩;obtain⟨d,h,f⟩:=g (b:Int) (qD b) (by rw[a];exact sB.2 c);have c:D9 (K7 N.1 (Nh N.2)) (b:Int)=(K7 N.1 (Nh N.2)).getD b 0:=rfl;have a:((J4 N b:Nat):Int)=D9 (K7 N.1 (Nh N.2)) (b:Int):=sP d;refine⟨by rw[a,c],by omega, ?_⟩;have c:J4 N (J4 N b)=(D9 (K7 N.1 (Nh N.2)) (J4 N b:Int)).toNat:=rfl;rw[c,a,f];rfl
def C3j (c:E2 N) {b:Nat} (a:b<N.1.toNat):J4 N b<N.1.toNat:=xZ ((Au c).2 b a).2.1 a
def C2o {i:Nat} (a:i<N.2.length):((N.2.getD i dB).1,(N.2.getD i dB).2.1)∈Nh N.2:=vB (f:=fun e:Pz=>(e.1,e.2.1)) (B4 a)
def jX (f:E2 N) {i:Nat} (d:i<N.2.length):(N.2.getD i dB).1=(W8 N.2 i:Int)/\(N.2.getD i dB).2.1=(W9 N.2 i:Int):=by
 obtain⟨a,b,c,g,_⟩:=RR f d;exact⟨(sP a).symm,(sP c).symm⟩
def A3i (c:E2 N) {i:Nat} (a:i<N.2.length):J4 N (W8 N.2 i)=J4 N (W9 N.2 i):=by
 have b:=RU c;have h:=gM b.1 b.2.2 (C2o a);obtain⟨b,d⟩:=jX c a;simp only[b,d]at h;unfold J4;rw[h]
def B4p (g:E2 N) {φ:Nat->Rat} (h:∀i,i<N.2.length->φ (W8 N.2 i)=φ (W9 N.2 i)):∀b,b<N.1.toNat->φ b=φ (J4 N b):=by
 have a:=RU g;intro b j;have:=gL a.1 a.2.2 (f:=fun i:Int=>φ i.toNat) (fun l hl=> ?_) (b:Int) (qD b) (by omega)
 . exact this.symm
 . unfold Nh at hl;obtain⟨e,c,rfl⟩:=sQ.1 hl;obtain⟨i,d,rfl⟩:=P3 dB c;exact h i d
def I8 (N:Hj) (b:Nat):Xr:=List.map (fun c:Nat=>(c:Int)) ((List.range b).filter fun c=>decide (J4 N c≠c))
def iG (N:Hj) (b:Nat):I8 N (b+1)=if J4 N b≠b then I8 N b++ [(b:Int)]else I8 N b:=by
 unfold I8;rw[g0c,g3o,uM];by_cases h:J4 N b≠b
 . rw[qP h];congr 1;simp[h]
 . rw[qL h];simp[h]
def Ug {b:Nat} {c:Int} :c∈I8 N b↔0<=c/\c<(b:Int)/\J4 N c.toNat≠c.toNat:=by
 unfold I8;rw[sQ];constructor
 . rintro⟨d,a,rfl⟩;rw[wF,wS]at a;exact⟨qD d,sB.2 a.1,qA a.2⟩
 . rintro⟨g,h,f⟩;exact⟨c.toNat,wF.2 ⟨wS.2 (by omega),rD f⟩,by omega⟩
def Xi (N:Hj) (b:Nat):(I8 N b).Nodup:=by
 unfold I8 List.Nodup;rw[vO];refine g3y (R:=fun a b:Nat=>a<b) (fun {a b} h=>by omega) ?_;exact List.pairwise_lt_range.filter _
def A0h (f:E2 N):(I8 N N.1.toNat).length<=N.1.toNat-1:=by
 have h:=GR (l:=(I8 N N.1.toNat).map fun c=>c-1) (n:=N.1.toNat-1) ?_ ?_
 . rwa[sL]at h
 . unfold List.Nodup;rw[vO];exact(Xi N _).imp fun h=>by omega
 . intro y g;obtain⟨c,b,rfl⟩:=sQ.1 g;obtain⟨i,j,a⟩:=Ug.1 b;have d:c.toNat<N.1.toNat:=by omega
   have:=((Au f).2 c.toNat d).2.1;have:c≠0:=fun e=>by subst e;simp at a this;omega
   omega
def SF (f:E2 N):(∀a,a<(I8 N N.1.toNat).length->ix (I8 N N.1.toNat) a<N.1.toNat/\J4 N (ix (I8 N N.1.toNat) a)≠ix (I8 N N.1.toNat) a/\(I8 N N.1.toNat).getD a 0=(ix (I8 N N.1.toNat) a:Int))/\(∀a c,a<(I8 N N.1.toNat).length->c<(I8 N N.1.toNat).length->ix (I8 N N.1.toNat) a=ix (I8 N N.1.toNat) c->a=c)/\∀b,b<N.1.toNat->J4 N b≠b->∃a,a<(I8 N N.1.toNat).length/\ix (I8 N N.1.toNat) a=b:=by
 have g:∀a,a<(I8 N N.1.toNat).length->0<=(I8 N N.1.toNat).getD a 0/\(I8 N N.1.toNat).getD a 0<(N.1.toNat:Int)/\J4 N ((I8 N N.1.toNat).getD a 0).toNat≠((I8 N N.1.toNat).getD a 0).toNat:=fun a f=>Ug.1 (B4 (d:=(0:Int)) f)
 refine⟨fun a f=> ?_,fun a c f h e=> ?_,fun b l i=> ?_⟩
 . obtain⟨i,j,k⟩:=g a f;unfold ix;exact⟨by omega,k,by omega⟩
 . have e:((I8 N N.1.toNat).getD a 0).toNat=((I8 N N.1.toNat).getD c 0).toNat:=e;have i:=g a f;have j:=g c h;have g:(I8 N N.1.toNat).getD a 0=(I8 N N.1.toNat).getD c 0:=by omega
   rw[G5 _ _ f,G5 _ _ h]at g;exact(wL (Xi N _)).1 g
 . have h:(b:Int)∈I8 N N.1.toNat:=Ug.2 ⟨qD b,sB.2 l,by rwa[qH]⟩;obtain⟨a,f,g⟩:=P3 (0:Int) h;exact⟨a,f,by unfold ix;rw[g,qH]⟩
def TV (d:E2 N):nonsing (I8 N N.1.toNat).length fun a c=>Hr N.2 (ix (I8 N N.1.toNat) a) (ix (I8 N N.1.toNat) c):=by
 obtain⟨h,k,f⟩:=SF d;refine A0m (lab:=J4 N) (fun i g=>KN d g) (fun i g=>B9k d g) (fun a f=>(h a f).1) k (fun l j b g=>B4p d j b g) fun b g a f e=> ?_
 have:=(h a f).2.1;rw[e,((Au d).2 b g).2.2]at this;exact this rfl
def A5n (d:E2 N) {x:List C0} (h:Dq (K7 N.1 (Nh N.2)) x):∀t,t<N.1.toNat->B7 N.1.toNat (fun b=>(if J4 N b=t then 1 else 0)*O3 x b)=0:=by
 obtain⟨a,c⟩:=Au d;intro t d;have:=h t (by rw[a];exact d);rw[a]at this;refine Eq.trans (B6 fun b a=> ?_) this;rw[(c b a).1];congr 1;by_cases a:J4 N b=t
 . rw[qP a,qP (by rw[a])]
 . rw[qL a,qL (show¬((J4 N b:Nat):Int)=(t:Int)from fun e=>a (by omega))]
def A8q (f:E2 N) {t u:Nat->Rat} (h:∀b,b<N.1.toNat->t b=u b) {i:Nat} (d:i<N.2.length):PX N.2 t i=PX N.2 u i:=by
 obtain⟨a,c⟩:=KN f d;unfold PX flw;rw[h _ a,h _ c]
def A0i (f:E2 N) {J right X:Nat->Rat} (k:∀a,a<(I8 N N.1.toNat).length->B7 (I8 N N.1.toNat).length (fun c=>Hr N.2 (ix (I8 N N.1.toNat) a) (ix (I8 N N.1.toNat) c)*X c)=right a)
 (n:∀a,a<(I8 N N.1.toNat).length->right a=J (ix (I8 N N.1.toNat) a)-Ke N.2 (fun i=>Gz N.2 i*Tl N.2 i) (ix (I8 N N.1.toNat) a)) (j:∀t,t<N.1.toNat->B7 N.1.toNat (fun b=>(if J4 N b=t then 1 else 0)*J b)=0):∀b,b<N.1.toNat->Ke N.2 (PX N.2 (Qb (I8 N N.1.toNat).length (ix (I8 N N.1.toNat)) X)) b=J b:=by
 obtain⟨g,d,h⟩:=SF f;exact B6h (lab:=J4 N) (fun i d=>KN f d) (fun a l=>(g a l).1) h (fun i d=>A3i f d) k n j
def pT (f:Nat->Rat) {i:Int} (a:0<=i):IU (i+1).toNat f=IU i.toNat f++ [rc (f i.toNat)]:=by
 unfold IU;rw[show(i+1).toNat=i.toNat+1 from by omega,g0c,uM];rfl
def A9j {a b:Type} (g:a->b) (l:List a) (x:a):(l++ [x]).map g=l.map g++ [g x]:=by rw[uM];rfl
def WV {N:Hj} (c:N5 N) (b:∀e∈N.2,Av e.2.2.1/\Av e.2.2.2) {i:Nat} (d:i<N.2.length):qs 2 (Gz N.2 i)/\qs 2 (Tl N.2 i):=by
 have a:N.2.getD i dB∈N.2:=B4 d;exact⟨U4 (b _ a).1 (c.2.2 _ a).1 (by decide),U4 (b _ a).2 (c.2.2 _ a).2 (by decide)⟩
def C6w (N:Hj) (J:List C0) (D:Nat->Rat) (p:Xr×List C0×Int×Unit):Prop:=0<=p.2.2.1/\p.2.2.1<=(N.1.toNat:Int)/\p.1=I8 N p.2.2.1.toNat/\p.2.1=p.1.map fun c=>rc (O3 J c.toNat-D c.toNat)
def D0b (n:Nat) (o:Xr) (X:List C0) (p:Int×List C0×Unit):Prop:=0<=p.1/\p.1<=(o.length:Int)/\p.2.1.length=n/\(∀a:Nat,(a:Int)<p.1->p.2.1.getD (ix o a) zr=X.getD a zr)/\∀c,c<n->(∀a:Nat,(a:Int)<p.1->ix o a≠c)->p.2.1.getD c zr=rc 0
def IB (x:A2 Ck.args) (Y:awf Ck.args x) (a7:Ck.pre x):Vp x:=by
 obtain⟨⟨n,E⟩,J,_⟩:=x;have au:∀e∈E,Av e.2.2.1/\Av e.2.2.2:=fun e l=>⟨N7 (Y.1.2.2 e l).2.2.1,N7 (Y.1.2.2 e l).2.2.2⟩
 have bm:∀y∈J,Av y:=fun y u=>N7 (Y.2.1.2 y u)
 have bz:J.length<=9223372036854775807:=Y.2.1.1;change Int at n;change List Pz at E;change List C0 at J;have a7:E2 (n,E)->N5 (n,E)/\Db 128 J:=a7;simp only[Vp,iB,H4,Ni,rT7];refine⟨trivial, ?_⟩;rintro⟨b3,_⟩ _ H;change Bool at b3;simp only at H⊢;by_cases g:E2 (n,E)
 case neg=>
  rw[H,rE g];exact⟨fun _=>⟨fun _=>⟨by trivial,by trivial⟩,fun h=>absurd h g⟩,fun h=>(by cases h)⟩
 rw[H,rD g];refine⟨fun h=>(by cases h),fun _=>⟨fun D=> ?_,fun W=> ?_⟩⟩
 . have D:=qA D;exact⟨fun h=>absurd g h,fun _=>⟨fun _=>⟨by trivial,by trivial⟩,fun h=>absurd h D⟩⟩
 have W:(J.length:Int)=n:=qQ (qB W);obtain⟨F,a8⟩:=a7 g;obtain⟨n,rfl⟩:∃k:Nat,n=(k:Int):=⟨n.toNat,by have:=g.1;simp only at this;omega⟩;have bo:n<=7:=by have:=F.1;simp only at this;omega
 have bd:E.length<=9:=F.2.1;have be:J.length=n:=by omega
 simp only[qH];obtain⟨V,O⟩:=Au g;simp only[qH]at V O;have aw:=A0h g;have a5:=SF g;have a6:=TV g;simp only[qH]at aw a5 a6;refine⟨g, ?_⟩;rintro⟨L,_⟩ _ a2;change Xr at L;simp only at a2⊢;rw[<-a2]at V O⊢;have bg:∀b∈L,0<=b/\b<(L.length:Int):=fun b f=>by
  obtain⟨i,j,rfl⟩:=P3 (0:Int) f;rw[(O i (by omega)).1];have:=(O i (by omega)).2.1;omega
 refine⟨⟨V.trans be.symm,by rw[V];exact bo,bg,fun y u=>F5 (a8 y u) (by decide)⟩, ?_⟩;rintro⟨b5,_⟩ _ a3;change Bool at b5;simp only at a3⊢;refine⟨fun h=> ?_,fun h=> ?_⟩
 . have bp:¬Dq L J:=fun f=>by rw[a3,rD f]at h;cases h
   exact⟨fun h=>absurd g h,fun _=>⟨fun h=>absurd W h,fun _=>⟨fun _=>⟨by trivial,by trivial⟩,fun h=>absurd h bp⟩⟩⟩
 have f:Dq L J:=qQ fun hn=>by rw[a3,rE hn]at h;cases h
 have an:=A5n g (a2▸f);simp only[qH]at an;refine⟨⟨qG _,qD _,by omega,by omega⟩,fun p=>0<=p.2.1/\p.2.1<=(E.length:Int)/\p.1=IU p.2.1.toNat fun i=>Gz E i*Tl E i,fun p=>((E.length:Int)-p.2.1).toNat,⟨qG _,qD _,rfl⟩, ?_⟩;rintro⟨due,i,_⟩ _ ⟨a1,bu,A⟩;change List C0 at due;change Int at i;simp only at a1 bu A⊢;refine⟨fun j=> ?_,fun j=> ?_⟩
 . have j:=qA j;have bk:i.toNat<E.length:=by omega
   have b7:gx (0,0,dQ,(false,[]),[]) E i=E.getD i.toNat dB:=E5 a1 j;have av:E.getD i.toNat dB∈E:=B4 bk;rw[b7];refine⟨⟨a1,j⟩,⟨J8 (F.2.2 _ av).1 (by decide),J8 (F.2.2 _ av).2 (by decide)⟩, ?_⟩;rintro⟨q,_⟩ _ P;change C0 at q;simp only at P⊢;have ao:due.length=i.toNat:=by rw[A,Mu]
   rw[wv (by omega)];refine⟨⟨by rw[qY];omega,by rw[qY];omega⟩,⟨by omega,by omega, ?_⟩,by omega⟩;rw[pT _ a1,A,P];rfl
 have j:=qB j;rw[show i.toNat=E.length from by omega]at A;have ao:due.length=E.length:=by rw[A,Mu]
 have ap:∀i,i<E.length->qs 4 (Gz E i*Tl E i):=fun i j=>Ju (WV F au j).1 (WV F au j).2
 have bj:∀i,i<E.length->O3 due i=Gz E i*Tl E i:=fun i j=>by rw[A];exact B9d j
 refine⟨⟨g,bd,ao,fun y u=> ?_⟩, ?_⟩
 . rw[A]at u;obtain⟨i,j,rfl⟩:=A6l u;exact Vm (F8 (ap i j) (by decide))
 rintro⟨sh,_⟩ _ a9;change List C0 at sh;simp only at a9⊢;have bc:∀b,Ke E (O3 due) b=Ke E (fun i=>Gz E i*Tl E i) b:=fun b=>Tp bj b
 have af:∀b,qs 46 (Ke E (fun i=>Gz E i*Tl E i) b):=fun b=>F8 (B3d (k:=4) (by decide) ap b) (by omega)
 have c2:sh.length=n:=by rw[a9,Mu]
 have bt:∀b,b<n->sh.getD b zr=rc (Ke E (fun i=>Gz E i*Tl E i) b):=fun b f=>by rw[a9,Ts f,bc]
 have bf:∀b,b<n->qs 128 (O3 J b):=fun b f=>U4 (bm _ (B4 (by omega))) (a8 _ (B4 (by omega))) (by decide)
 refine⟨C6w ((n:Int),E) J (Ke E fun i=>Gz E i*Tl E i),fun p=>((n:Int)-p.2.2.1).toNat,⟨qG _,qD _,rfl,rfl⟩, ?_⟩;rintro⟨o,M,b,_⟩ _ ⟨v,b4,r,I⟩;change Xr at o;change List C0 at M;change Int at b;simp only[qH]at v b4 r I;simp only;refine⟨fun w=> ?_,fun w=> ?_⟩
 . have w:=qA w;have am:b.toNat<n:=by omega
   have eL:gx 0 L b=(J4 ((n:Int),E) b.toNat:Int):=by rw[E5 v w];exact(O _ am).1
   have b8:gx dQ J b=J.getD b.toNat zr:=E5 v (show b<(J.length:Int)by omega);have eS:gx dQ sh b=rc (Ke E (fun i=>Gz E i*Tl E i) b.toNat):=by rw[E5 v (show b<(sh.length:Int)by omega)];exact bt _ am
   rw[eL,b8,eS];have bq:o.length<=b.toNat:=by rw[r];unfold I8;rw[sL];exact qW (g2m _ _) (by rw[zO];exact qZ _)
   have c0:M.length<=b.toNat:=by rw[I,sL];exact bq
   have Q:=iG ((n:Int),E) b.toNat;rw[show b.toNat+1=(b+1).toNat from by omega]at Q;have bi:((b.toNat:Nat):Int)=b:=by omega
   refine⟨fun q=>q.1=I8 ((n:Int),E) (b+1).toNat/\q.2.1=q.1.map fun c=>rc (O3 J c.toNat-Ke E (fun i=>Gz E i*Tl E i) c.toNat),⟨⟨v,w⟩,fun D=> ?_,fun aq=> ?_⟩, ?_⟩
   . have D:=qA D;rw[qP (show J4 ((n:Int),E) b.toNat≠b.toNat from fun e=>D (by rw[e];omega)),bi, <-r]at Q;refine⟨⟨by rw[qY];omega,by rw[qY];omega⟩,⟨v,by omega⟩,⟨v,by omega⟩,⟨J8 (a8 _ (B4 (by omega))) (by decide),J7 (af _) (by decide)⟩, ?_⟩;rintro⟨q,_⟩ _ P;change C0 at q;simp only at P⊢;refine⟨⟨by rw[qY];omega,by rw[qY];omega⟩,Q.symm, ?_⟩;rw[A9j, <-I,P,D7];rfl
   . have aq:b=(J4 ((n:Int),E) b.toNat:Int):=qQ (qB aq);rw[qL (show¬J4 ((n:Int),E) b.toNat≠b.toNat from fun h=>h (by omega)), <-r]at Q;exact⟨Q.symm,I⟩
   . rintro⟨c3,c5,_⟩ _ ⟨ad,ae⟩;simp only at ad ae⊢;rw[wv (by omega)];exact⟨⟨by simp only;omega,by simp only[qH];omega,ad,ae⟩,by omega⟩
 have w:=qB w;rw[show b.toNat=n from by omega]at r;rw[<-r]at aw a5 a6;obtain⟨ab,b2,c4⟩:=a5;have bs:M.length=o.length:=by rw[I,sL]
 have ax:∀a,a<o.length->M.getD a zr=rc (O3 J (ix o a)-Ke E (fun i=>Gz E i*Tl E i) (ix o a)):=fun a d=>by
  rw[I,qF,vD,qO d];unfold ix;rw[G5 _ _ d];rfl
 refine⟨⟨g,F,r▸Xi _ _,by omega,fun c t=> ?_,bs,fun y u=> ?_,a6⟩, ?_⟩
 . rw[r]at t;obtain⟨b6,c1,_⟩:=Ug.1 t;exact⟨b6,c1⟩
 . obtain⟨a,d,rfl⟩:=P3 zr u;rw[ax a (by omega)];exact Vm (F8 (Si (bf _ (ab a (by omega)).1) (af _)) (by decide))
 rintro⟨X,e,_⟩ _ ⟨l,bh,ah,ai,ag⟩;change List C0 at X;change Int at e;simp only at l bh ah ai ag⊢;subst l;refine⟨fun h=>absurd h (by simp),fun _=> ?_⟩;refine⟨⟨qD _,qG _,by omega,by omega⟩,fun p=>0<=p.1/\p.1<=(n:Int)/\p.2.1.length=n/\∀b:Nat,(b:Int)<p.1->p.2.1.getD b zr=rc 0,fun p=>((n:Int)-p.1).toNat,⟨qG _,qD _,rC,fun b f=>by simp only at f;omega⟩, ?_⟩;rintro⟨b0,z,_⟩ _ ⟨b1,bv,U,aa⟩;change Int at b0;change List C0 at z;simp only at b1 bv U aa⊢;simp only[rC];refine⟨fun G=>⟨trivial, ?_⟩,fun G=> ?_⟩
 . have G:=qA G;rintro⟨b3,_⟩ _ H;simp only at H⊢;rw[wv (by omega)];refine⟨⟨b1,by rw[U];exact G⟩,⟨by omega,by omega,by rw[qJ];exact U,fun b f=> ?_⟩,by omega⟩;by_cases ak:b=b0.toNat
   . subst ak;rw[A9 (by rw[U];omega),H,DK];rfl
   . rw[C9 ak];exact aa b (by omega)
 have G:=qB G;refine⟨D0b n o X,fun p=>((o.length:Int)-p.1).toNat,⟨qG _,qD _,U,fun a d=>by simp only at d;omega,fun c t _=>aa c (by omega)⟩, ?_⟩;rintro⟨k,y,_⟩ _ ⟨R,bw,T,Z,a0⟩;change Int at k;change List C0 at y;simp only at R bw T Z a0⊢;refine⟨fun B=> ?_,fun B=> ?_⟩
 . have B:=qA B;have ar:k.toNat<o.length:=by omega
   obtain⟨ac,bx,bb⟩:=ab _ ar;have ba:gx 0 o k=(ix o k.toNat:Int):=by rw[E5 R B];exact bb
   have b9:gx dQ X k=X.getD k.toNat zr:=E5 R (show k<(X.length:Int)by omega);rw[ba,b9,wv (by omega)];simp only[qH];refine⟨⟨R,B⟩,⟨R,by omega⟩,⟨qD _,by rw[T];exact sB.2 ac⟩,⟨by simp only;omega,by simp only;omega,by simp only;rw[qJ];exact T,fun a d=> ?_,fun c t s=> ?_⟩,by omega⟩
   . simp only at d⊢;by_cases aj:a=k.toNat
     . subst aj;rw[A9 (by rw[T];exact ac)]
     . rw[C9 fun e=>aj (b2 a _ (by omega) ar e)];exact Z a (by omega)
   . simp only at s⊢;rw[C9 (Ne.symm (s k.toNat (by omega)))];exact a0 c t fun a d=>s a (by omega)
 have B:=qB B;have bl:k=(o.length:Int):=by omega
 subst bl;have az:∀c,c<n->O3 y c=Qb o.length (ix o) (O3 X) c:=fun c t=>by
  by_cases s:∃a,a<o.length/\ix o a=c
  . obtain⟨a,d,rfl⟩:=s;rw[WL b2 _ d];unfold O3;rw[Z a (sB.2 d)]
  . rw[Ns _ fun a d e=>s ⟨a,d,e⟩];unfold O3;rw[a0 c t fun a d e=>s ⟨a,sB.1 d,e⟩,D7]
 have ay:∀e∈y,(∃a,a<o.length/\e=X.getD a zr)\/e=rc 0:=fun e l=>by
  obtain⟨c,t,rfl⟩:=P3 zr l;by_cases s:∃a,a<o.length/\ix o a=c
  . obtain⟨a,d,rfl⟩:=s;exact .inl ⟨a,d,Z a (sB.2 d)⟩
  . exact .inr (a0 c (by omega) fun a d e=>s ⟨a,sB.1 d,e⟩)
 refine⟨fun h=>absurd g h,fun _=>⟨fun h=>absurd W h,fun _=>⟨fun h=>absurd f h,fun _=>⟨by trivial,by rw[T],fun e l=> ?_,fun e l=> ?_,fun b f=> ?_,fun b f bn=> ?_⟩⟩⟩⟩
 . rcases ay e l with⟨a,d,rfl⟩ |rfl
   . exact ah _ (B4 (by omega))
   . rw[D7]
 . rcases ay e l with⟨a,d,rfl⟩ |rfl
   . exact ai _ (B4 (by omega))
   . exact Vm (N3 (by decide))
 . have a4:=A0i (N:=((n:Int),E)) g (J:=O3 J) (right:=O3 M) (X:=O3 X) (fun a d=> ?_) (fun a d=> ?_) (by simp only[qH];exact an) b (by simp only[qH];exact f)
   . simp only[qH]at a4;rw[<-r]at a4;rw[<-a4];exact Tp (fun i j=>A8q g (fun b f=>az b (by simpa using f)) j) b
   . simp only[qH]at d⊢;rw[<-r]at d⊢;exact ag a d
   . simp only[qH]at d⊢;rw[<-r]at d⊢;show rv (M.getD a zr)= _;rw[ax a d,D7]
 . rw[az b f];exact Ns _ fun a d e=>(ab a d).2.1 (by rw[e];exact bn)
def LK (x:A2 Dz.args) (Y:awf Dz.args x) (B:Dz.pre x):Yu x:=by
 obtain⟨⟨n,E⟩,J,_⟩:=x;have W:∀e∈E,Av e.2.2.1/\Av e.2.2.2:=fun e c=>⟨N7 (Y.1.2.2 e c).2.2.1,N7 (Y.1.2.2 e c).2.2.2⟩
 change Int at n;change List Pz at E;change List C0 at J;have B:E2 (n,E)->N5 (n,E)/\Db 128 J:=B;simp only[Yu,iB,H4];refine⟨B, ?_⟩;rintro⟨A,e,_⟩ ⟨⟨_,ac⟩,_⟩ ⟨T,U⟩;have ab:∀y∈A,Av y:=fun y G=>N7 (ac y G)
 change List C0 at A;change Int at e;simp only at T U⊢;by_cases a:E2 (n,E)
 case neg=>
  obtain⟨_,c⟩:=T a;subst c;exact⟨fun _=>⟨fun _=>⟨by trivial,by trivial⟩,fun h=>absurd h a⟩,fun h=>absurd h (by simp)⟩
 obtain⟨a5,a6⟩:=U a;by_cases t:(J.length:Int)=n
 case neg=>
  obtain⟨_,c⟩:=a5 t;subst c;exact⟨fun _=>⟨fun h=>absurd a h,fun _=>⟨fun _=>⟨by trivial,by trivial⟩,fun h=>absurd h t⟩⟩,fun h=>absurd h (by simp)⟩
 obtain⟨a7,a8⟩:=a6 t;by_cases s:Dq (K7 n (Nh E)) J
 case neg=>
  obtain⟨_,c⟩:=a7 s;subst c;exact⟨fun _=>⟨fun h=>absurd a h,fun _=>⟨fun h=>absurd t h,fun _=>⟨fun _=>⟨by trivial,by trivial⟩,fun h=>absurd h s⟩⟩⟩,fun h=>absurd h (by simp)⟩
 obtain⟨c,ap,ao,I,V,_⟩:=a8 s;subst c;obtain⟨u,ax⟩:=B a;obtain⟨n,rfl⟩:∃k:Nat,n=(k:Int):=⟨n.toNat,by have:=a.1;simp only at this;omega⟩;have ar:E.length<=9:=u.2.1;have aq:A.length=n:=by omega
 simp only[qH]at V;have v:∀b,b<n->qs K0 (O3 A b):=fun b s=>U4 (ab _ (B4 (by omega))) (I _ (B4 (by omega))) (by decide)
 have a9:∀i,i<E.length->qs K2 (PX E (O3 A) i):=fun i d=>by
  obtain⟨l,o⟩:=KN a d;simp only[qH]at l o;obtain⟨D,M⟩:=WV u W d;exact F8 (Ju D (Sg (Si (v _ l) (v _ o)) M)) (by decide)
 refine⟨fun h=>absurd h (by simp),fun _=>⟨⟨qG _,qD _,by omega,by omega⟩,fun p=>0<=p.2.1/\p.2.1<=(E.length:Int)/\p.1=IU p.2.1.toNat (PX E (O3 A)),fun p=>((E.length:Int)-p.2.1).toNat,⟨qG _,qD _,rfl⟩, ?_⟩⟩;rintro⟨g,i,_⟩ _ ⟨H,af,f⟩;change List C0 at g;change Int at i;simp only at H af f⊢;refine⟨fun d=> ?_,fun d=> ?_⟩
 . have d:=qA d;have z:i.toNat<E.length:=by omega
   have a2:gx (0,0,dQ,(false,[]),[]) E i=E.getD i.toNat dB:=E5 H d;have X:E.getD i.toNat dB∈E:=B4 z;obtain⟨l,o⟩:=KN a z;simp only[qH]at l o;obtain⟨O,P⟩:=jX a z;have ad:=J8 (u.2.2 _ X).1 (by decide);have ae:=J8 (u.2.2 _ X).2 (by decide);have av:rv (E.getD i.toNat dB).2.2.1=Gz E i.toNat:=rfl;have au:rv (E.getD i.toNat dB).2.2.2=Tl E i.toNat:=rfl;have O:(E.getD i.toNat dB).1=(W8 E i.toNat:Int):=O;have P:(E.getD i.toNat dB).2.1=(W9 E i.toNat:Int):=P;rw[a2,O,P];have Q:(W8 E i.toNat:Int)<(A.length:Int):=by omega
   have R:(W9 E i.toNat:Int)<(A.length:Int):=by omega
   have a3:gx dQ A (W8 E i.toNat:Int)=A.getD (W8 E i.toNat) zr:=by rw[E5 (qD _) Q,qH];rfl
   have a4:gx dQ A (W9 E i.toNat:Int)=A.getD (W9 E i.toNat) zr:=by rw[E5 (qD _) R,qH];rfl
   rw[a3,a4];have ai:=v _ l;have aj:=v _ o;have a0:D8 (A.getD (W8 E i.toNat) zr):=J8 (I _ (B4 (by omega))) (by decide);have a1:D8 (A.getD (W9 E i.toNat) zr):=J8 (I _ (B4 (by omega))) (by decide);have aw:g.length=i.toNat:=by rw[f,Mu]
   rw[wv (by omega)];have Z:qs (K0+K0+1) (O3 A (W8 E i.toNat)-O3 A (W9 E i.toNat)):=Si ai aj;obtain⟨ay,ah⟩:=WV u W z;have ag:qs (K0+K0+1+2+1) (O3 A (W8 E i.toNat)-O3 A (W9 E i.toNat)+Tl E i.toNat):=Sg (j:=K0+K0+1) (k:=2) Z ah;have F:∀(r_1:QQ×Unit),Zr r_1.1/\True->r_1.1=rc (rv (A.getD (W8 E i.toNat) zr)-rv (A.getD (W9 E i.toNat) zr))->(D8 r_1.1/\D8 (E.getD i.toNat dB).2.2.2)/\∀(r:QQ×Unit),Zr r.1/\True->r.1=rc (rv r_1.1+rv (E.getD i.toNat dB).2.2.2)->(D8 (E.getD i.toNat dB).2.2.1/\D8 r.1)/\∀(r_2:QQ×Unit),Zr r_2.1/\True->r_2.1=rc (rv (E.getD i.toNat dB).2.2.1*rv r.1)->((g.length+ [r_2.1].length)*56<=140737488355328/\g.length+ [r_2.1].length<=9223372036854775807)/\(0<=i+1/\i+1<=(E.length:Int)/\g++ [r_2.1]=IU (i+1).toNat (PX E (O3 A)))/\((E.length:Int)-(i+1)).toNat<((E.length:Int)-i).toNat:=by
    rintro⟨ak,_⟩ _ M;change C0 at ak;simp only at M⊢;refine⟨⟨by rw[M];exact J7 Z (by decide),ae⟩, ?_⟩;rintro⟨am,_⟩ _ D;change C0 at am;simp only at D⊢;rw[M,D7]at D;refine⟨⟨ad,by rw[D];exact J7 ag (by decide)⟩, ?_⟩;rintro⟨an,_⟩ _ N;change C0 at an;simp only at N⊢;rw[D,D7]at N;refine⟨⟨by rw[qY];omega,by rw[qY];omega⟩,⟨by omega,by omega, ?_⟩,by omega⟩;rw[pT _ H,f,N];rfl
   exact⟨⟨H,d⟩,⟨qD _,Q⟩,⟨qD _,R⟩,⟨⟨a0,a1⟩,fun r w h=>⟨F r w h,F r w h⟩⟩,⟨a0,a1⟩,F⟩
 . have d:=qB d;rw[show i.toNat=E.length from by omega]at f;refine⟨fun h=>absurd a h,fun _=>⟨fun h=>absurd t h,fun _=>⟨fun h=>absurd s h,fun _=>⟨by trivial,fun y G=> ?_,O3 A,by simpa using V,f⟩⟩⟩⟩;rw[f]at G;obtain⟨k,aa,rfl⟩:=A6l G;exact Vm (a9 k aa)
def UY:An:= {join:= [(8,⟨[2,3,4,5,6],[0,2,3],[],[(1,98,[.val (.sl (.int .i64)), .val (.int .i64)]),(4,45,[.val (.int .i64), .val (.int .i64), .val .bool, .val (.sl (.int .u32)), .val (.sl (.int .u32)), .val .bool, .val (.sl (.int .u32)), .val (.sl (.int .u32))])],[]⟩),(10,⟨[2,3,4,5,6],[0,2,3],[],[(1,98,[.val (.sl (.int .i64)), .val (.int .i64)]),(4,45,[.val (.int .i64), .val (.int .i64), .val .bool, .val (.sl (.int .u32)), .val (.sl (.int .u32)), .val .bool, .val (.sl (.int .u32)), .val (.sl (.int .u32))])],[]⟩)],loop:= [(4,⟨[2,3,4],[0],[(5,false,vI)],[(1,98,[.val (.sl (.int .i64)), .val (.int .i64)]),(2,25,[.val (.int .i64), .own (.pair (.int .i64) (.pair (.int .i64) (.pair tQ tQ))) 45])],[]⟩)],plan:= [(7,[5],[7,13],false,(.p 0 (.p 3 (.p 4 (.q 5 (.p 6 (.p 9 (.or 1 (.p 2 (.or 7 (.p 8 (.e 10 (.p 11 (.p 12 (.e 13 .done))))) (.e 10 (.e 7 (.p 8 (.p 11 (.p 12 (.e 13 .done)))))))) (.or 7 (.or 1 (.p 2 (.p 8 (.e 10 (.p 11 (.p 12 (.e 13 .done)))))) (.e 10 (.e 1 (.p 2 (.p 8 (.p 11 (.p 12 (.e 13 .done)))))))) (.e 10 (.or 1 (.p 2 (.e 7 (.p 8 (.p 11 (.p 12 (.e 13 .done)))))) (.e 7 (.e 1 (.p 2 (.p 8 (.p 11 (.p 12 (.e 13 .done))))))))))))))))))]}
def Zs:An:= {join:= [(4,⟨[1,5,6],[0],[],[],[(1, .row tQ 43)]⟩),(14,⟨[1,5,7,8,9],[0,1],[],[(2,43,[.val .bool, .val (.sl (.int .u32)), .val (.sl (.int .u32))])],[]⟩),(9,⟨[1,5,7],[0],[],[],[(1, .row tQ 43)]⟩)],loop:= [(3,⟨[1,5],[0],[(6,false,vI)],[],[(1, .row tQ 43)]⟩),(13,⟨[1,5,7,8],[0,1],[(9,false,vI)],[(2,43,[.val .bool, .val (.sl (.int .u32)), .val (.sl (.int .u32))])],[]⟩),(8,⟨[1,5],[0],[(7,false,vI)],[],[(1, .row tQ 43)]⟩)],plan:= [(6,[4,9,11,15],[18],true,(pZ9 0 4 (.q 4 (pZ9 5 4 (.q 9 (.p 10 (.q 11 (pZ9 12 3 (.q 15 (.e 16 (.p 17 (.e 18 .done)))))))))))),(16,[0,4],[6],true,(.q 0 (pZ9 1 3 (.q 4 (.e 5 (.e 6 .done))))))]}
abbrev C8a:=Int×Xr×Int×Int×List (Int×Int×QQ×(Bool×Xr)×Xr)×Unit
abbrev C0t:=Xr×Int×Int×Int×Bool×Xr×Xr×Bool×Xr×Xr×Unit
def Za:A2 Ef.args->Prop:=fun(x:Sq)=>let h:=(1:Int);let d:=(0:Int);True/\∀(r:Sp),let j:=(r.1.1.length:Int);(MK r.1.1/\I2 r.1.2)/\True->r.1=(x.1,d)->(d<(6:Int)/\d<=r.1.2/\r.1.2<=j)/\∀(C:C8) (o:Sp),let k:=(o.1.1.length:Int);I2 C.1/\True->((Ty.int i64).sl.pair (Ty.int i64)).wf o.1/\True->d<=C.1/\C.1<6->o.1.1=r.1.1/\d<=o.1.2/\o.1.2<=j->(d<(10:Int)/\d<=o.1.2/\o.1.2<=k)/\∀(r:C8) (A:Sp),I2 r.1/\True->((Ty.int i64).sl.pair (Ty.int i64)).wf A.1/\True->d<=r.1/\r.1<10->A.1.1=o.1.1/\d<=A.1.2/\A.1.2<=k->∃(I:C8a->Prop),∃(x: _->Nat),I (r.1,A.1.1,A.1.2,i64.wrap (h+C.1),[],())/\∀(p:C8a),let q:=(decide (h<p.2.2.2.1));let l:=(p.2.1.length:Int);(Ty.int i64).wf p.1/\(Ty.int i64).sl.wf p.2.1/\(Ty.int i64).wf p.2.2.1/\(Ty.int i64).wf p.2.2.2.1/\((Ty.int i64).pair ((Ty.int i64).pair (tQ.pair tQ))).sl.wf p.2.2.2.2.1/\True->I p->(iB (L8 (decide (d<p.1)) q false) ((d<p.2.2.2.1/\d<=p.2.2.1/\p.2.2.1<=l)/\∀(r:C8) (o:Sp),let m:=(o.1.1.length:Int);I2 r.1/\True->((Ty.int i64).sl.pair (Ty.int i64)).wf o.1/\True->d<=r.1/\r.1<p.2.2.2.1->o.1.1=p.2.1/\d<=o.1.2/\o.1.2<=l->(d<=o.1.2/\o.1.2<=m)/\∀(w:D5) (z:Sp),let g:=(z.1.1.length:Int);let c:Prop:=(d<i64.wrap (p.2.2.2.1-h)/\d<=z.1.2/\z.1.2<=g);Zr w.1/\True->((Ty.int i64).sl.pair (Ty.int i64)).wf z.1/\True->Qc w.1/\(0:Rat)<rv w.1->z.1.1=o.1.1/\d<=z.1.2/\z.1.2<=m->True/\H4 fun y=>y.1=rc (0:Rat)->∃(J:C0t->Prop),let a:Prop:=(c/\∀(v:C8) (o:Sp),I2 v.1/\True->((Ty.int i64).sl.pair (Ty.int i64)).wf o.1/\True->d<=v.1/\v.1<i64.wrap (p.2.2.2.1-h)->o.1.1=z.1.1/\d<=o.1.2/\o.1.2<=g->p.2.2.2.1≠d/\J (o.1.1,o.1.2,r.1,(i64.wrap (i64.wrap (r.1+h)+v.1)).tmod p.2.2.2.1,w.1.1.1,w.1.1.2,w.1.2,y.1.1.1,y.1.1.2,y.1.2,()));((a/\c/\∀(v:C8) (o:Sp),I2 v.1/\True->((Ty.int i64).sl.pair (Ty.int i64)).wf o.1/\True->d<=v.1/\v.1<i64.wrap (p.2.2.2.1-h)->o.1.1=z.1.1/\d<=o.1.2/\o.1.2<=g->p.2.2.2.1≠d/\J (o.1.1,o.1.2,r.1,(i64.wrap (i64.wrap (r.1+h)+v.1)).tmod p.2.2.2.1,w.1.1.1,w.1.1.2,w.1.2,y.1.1.1,y.1.1.2,y.1.2,()))/\(c/\∀(v:C8) (o:Sp),let f:=(o.1.1,o.1.2,r.1,(i64.wrap (i64.wrap (r.1+h)+v.1)).tmod p.2.2.2.1,w.1.1.1,w.1.1.2,w.1.2,y.1.1.1,y.1.1.2,y.1.2,());I2 v.1/\True->((Ty.int i64).sl.pair (Ty.int i64)).wf o.1/\True->d<=v.1/\v.1<i64.wrap (p.2.2.2.1-h)->o.1.1=z.1.1/\d<=o.1.2/\o.1.2<=g->(p.2.2.2.1≠d/\J f)/\p.2.2.2.1≠d/\J f)/\a/\c/\∀(v:C8) (o:Sp),I2 v.1/\True->((Ty.int i64).sl.pair (Ty.int i64)).wf o.1/\True->d<=v.1/\v.1<i64.wrap (p.2.2.2.1-h)->o.1.1=z.1.1/\d<=o.1.2/\o.1.2<=g->p.2.2.2.1≠d/\J (o.1.1,o.1.2,r.1,(i64.wrap (i64.wrap (r.1+h)+v.1)).tmod p.2.2.2.1,w.1.1.1,w.1.1.2,w.1.2,y.1.1.1,y.1.1.2,y.1.2,()))/\∀(t:C0t),let s:=(t.1.length:Int);(Ty.int i64).sl.wf t.1/\(Ty.int i64).wf t.2.1/\(Ty.int i64).wf t.2.2.1/\(Ty.int i64).wf t.2.2.2.1/\Ty.bool.wf t.2.2.2.2.1/\(Ty.int u32).sl.wf t.2.2.2.2.2.1/\(Ty.int u32).sl.wf t.2.2.2.2.2.2.1/\Ty.bool.wf t.2.2.2.2.2.2.2.1/\(Ty.int u32).sl.wf t.2.2.2.2.2.2.2.2.1/\(Ty.int u32).sl.wf t.2.2.2.2.2.2.2.2.2.1/\True->J t->∃(J:C0t->Prop),((d<(4:Int)/\d<=t.2.1/\t.2.1<=s)/\∀(r:C8) (o:Sp),let n:=(o.1.1.length:Int);I2 r.1/\True->((Ty.int i64).sl.pair (Ty.int i64)).wf o.1/\True->d<=r.1/\r.1<4->o.1.1=t.1/\d<=o.1.2/\o.1.2<=s->(iB (decide (r.1=3)) ((d<=o.1.2/\o.1.2<=n)/\∀(r:D5) (B:Sp),Zr r.1/\True->((Ty.int i64).sl.pair (Ty.int i64)).wf B.1/\True->Qc r.1->B.1.1=o.1.1/\d<=B.1.2/\B.1.2<=n->J (B.1.1,B.1.2,t.2.2.1,t.2.2.2.1,t.2.2.2.2.1,t.2.2.2.2.2.1,t.2.2.2.2.2.2.1,r.1.1.1,r.1.1.2,r.1.2,())) (J (o.1.1,o.1.2,t.2.2.1,t.2.2.2.1,t.2.2.2.2.1,t.2.2.2.2.2.1,t.2.2.2.2.2.2.1,t.2.2.2.2.2.2.2.1,t.2.2.2.2.2.2.2.2.1,t.2.2.2.2.2.2.2.2.2.1,()))))/\∀(u:C0t),let b:=(u.2.2.1,u.2.2.2.1,((u.2.2.2.2.1,u.2.2.2.2.2.1),u.2.2.2.2.2.2.1),(u.2.2.2.2.2.2.2.1,u.2.2.2.2.2.2.2.2.1),u.2.2.2.2.2.2.2.2.2.1);let i:=(i64.wrap (p.1-h),u.1,u.2.1,p.2.2.2.1,p.2.2.2.2.1++ [b],());(Ty.int i64).sl.wf u.1/\(Ty.int i64).wf u.2.1/\(Ty.int i64).wf u.2.2.1/\(Ty.int i64).wf u.2.2.2.1/\Ty.bool.wf u.2.2.2.2.1/\(Ty.int u32).sl.wf u.2.2.2.2.2.1/\(Ty.int u32).sl.wf u.2.2.2.2.2.2.1/\Ty.bool.wf u.2.2.2.2.2.2.2.1/\(Ty.int u32).sl.wf u.2.2.2.2.2.2.2.2.1/\(Ty.int u32).sl.wf u.2.2.2.2.2.2.2.2.2.1/\True->J u->((p.2.2.2.2.1.length+ [b].length)*(128:Nat)<=(140737488355328:Nat)/\p.2.2.2.2.1.length+ [b].length<=9223372036854775807)/\I i/\x i<x p) (E2 (p.2.2.2.1,p.2.2.2.2.1)/\h<=p.2.2.2.1/\p.2.2.2.1<=6/\p.2.2.2.2.1.length<=(9:Nat)/\∀(e:Pz),e∈p.2.2.2.2.1->Qc e.2.2.1/\Qc e.2.2.2))
def Jf:A2 Q6.args->Prop:=fun(x:(Xr×Int)×Xr×Unit)=>let n:=(x.1.1.length:Int);let b:=(0:Int);let a:=(x.2.1.length:Int);(a<=(1000:Int)/\b<=x.1.2/\x.1.2<=n)/\∀(r:OL) (o:Sp),MG r.1/\True->((Ty.int i64).sl.pair (Ty.int i64)).wf o.1/\True->((↑r.1.length:Int)=Max.max a b/\∀(e:QQ),e∈r.1->Qc e)->o.1.1=x.1.1/\b<=o.1.2/\o.1.2<=n->∃(I:Ja->Prop),∃(d: _->Nat),I (b,r)/\∀(p:Ja),let y:=(gx b x.2.1 p.1);let v:Prop:=(gx b x.2.1 p.1≠p.1);let s:=(p.2.1.length:Int);let l:=(List.getD p.2.1 p.1.toNat dQ);let h:Prop:=(b<=p.1/\p.1<a);let g:=(List.getD p.2.1 y.toNat dQ);let f:Prop:=(b<=gx b x.2.1 p.1/\gx b x.2.1 p.1<s);(Ty.int i64).wf p.1/\MG p.2.1/\True->I p->(iB (decide (p.1<a)) (∃(J:OL->Prop),(h/\(iB (decide v) (h/\h/\f/\(b<=p.1/\p.1<s)/\(D8 g/\D8 l)/\H4 fun r=>r.1=rc (rv g-rv l)->f/\J (List.set p.2.1 y.toNat r.1,())) (J (p.2.1,()))))/\∀(z:OL),let j:=(i64.wrap (p.1+1),z);MG z.1/\True->J z->I j/\d j<d p) (∃(I:Ja->Prop),∃(d: _->Nat),I (b,p.2.1,())/\∀(p:Ja),let w:Prop:=(gx b x.2.1 p.1=p.1);let t:=(p.2.1.length:Int);(Ty.int i64).wf p.1/\MG p.2.1/\True->I p->(iB (decide (p.1<a)) (∃(J:OL->Prop),((b<=p.1/\p.1<a)/\(iB (decide w) (True/\H4 fun r=>r.1=rc (0:Rat)->∃(I:B0r->Prop),∃(d: _->Nat),I (b,r.1.1.1,r.1.1.2,r.1.2,())/\∀(z:B0r),let u:Prop:=(z.1≠p.1);let m:=(decide (gx b x.2.1 z.1=p.1));let i:=(List.getD p.2.1 z.1.toNat dQ);let c:=((z.2.1,z.2.2.1),z.2.2.2.1);(Ty.int i64).wf z.1/\Ty.bool.wf z.2.1/\(Ty.int u32).sl.wf z.2.2.1/\(Ty.int u32).sl.wf z.2.2.2.1/\True->I z->(iB (decide (z.1<a)) (∃(J:HZ->Prop),((decide u=true->b<=z.1/\z.1<a)/\(iB (L8 (decide u) m false) ((b<=z.1/\z.1<t)/\(D8 c/\D8 i)/\H4 fun r=>r.1=rc (rv c+rv i)->J (r.1.1.1,r.1.1.2,r.1.2,())) (J (z.2.1,z.2.2.1,z.2.2.2.1,()))))/\∀(p:HZ),let f:=(i64.wrap (z.1+1),p.1,p.2.1,p.2.2.1,());Ty.bool.wf p.1/\(Ty.int u32).sl.wf p.2.1/\(Ty.int u32).sl.wf p.2.2.1/\True->J p->I f/\d f<d z) (D8 c/\H4 fun r=>r.1=rc (-rv c)->(b<=p.1/\p.1<t)/\J (List.set p.2.1 p.1.toNat r.1,())))) (J (p.2.1,()))))/\∀(z:OL),let k:=(i64.wrap (p.1+1),z);MG z.1/\True->J z->I k/\d k<d p) ((List.length p.2.1=x.2.1.length/\Dq x.2.1 p.2.1/\∀(e:QQ),e∈p.2.1->∃(q:Rat),qs (64:Nat) q/\e=rc q)/\o.1.1=x.1.1/\b<=o.1.2/\o.1.2<=(↑x.1.1.length:Int)))))
def B7a {s n:Int} (a:0<=s) (b:s<n+n):s.tmod n=if s<n then s else s-n:=by
 rw[tU a];split
 . rename_i h;exact g3u a h
 . rename_i h;have:s%n=(s-n)%n:=by rw[Int.sub_emod_right]
   rw[this];exact g3u (by omega) (by omega)
def C9v (p:Int×Xr×Int×Int×List Pz×Unit):Prop:=(0<=p.2.2.1/\p.2.2.1<=(p.2.1.length:Int))/\(1<=p.2.2.2.1/\p.2.2.2.1<=6)/\(0<=p.1/\(p.2.2.2.2.1.length:Int)+p.1<=9)/\∀e∈p.2.2.2.2.1,nY p.2.2.2.1 e/\Qc e.2.2.1/\Qc e.2.2.2
def brJ (n:Int) (q:Xr×Int×Int×Int×Bool×Xr×Xr×Bool×Xr×Xr×Unit):Prop:=(0<=q.2.1/\q.2.1<=(q.1.length:Int))/\nY n (q.2.2.1,q.2.2.2.1,((q.2.2.2.2.1,q.2.2.2.2.2.1),q.2.2.2.2.2.2.1),((q.2.2.2.2.2.2.2.1,q.2.2.2.2.2.2.2.2.1),q.2.2.2.2.2.2.2.2.2.1))/\Qc ((q.2.2.2.2.1,q.2.2.2.2.2.1),q.2.2.2.2.2.2.1)/\Qc ((q.2.2.2.2.2.2.2.1,q.2.2.2.2.2.2.2.2.1),q.2.2.2.2.2.2.2.2.2.1)
def LR (x:A2 Ef.args) (ag:awf Ef.args x) (_:Ef.pre x):Za x:=by
 obtain⟨t,_⟩:=x;have av:t.length<=9223372036854775807:=ag.1.1;change Xr at t;simp only[Za,iB,H4];refine⟨trivial, ?_⟩;rintro⟨⟨ba,G⟩,_⟩ _ ar;cases ar;simp only;refine⟨⟨by decide,qG _,qD _⟩, ?_⟩;rintro⟨n,_⟩ ⟨⟨b0,r⟩,_⟩ _ _ ⟨f,g⟩ ⟨ac,B,D⟩;change Int at n r;change Xr at b0;simp only at f g ac B D⊢;subst ac;refine⟨⟨by decide,B,D⟩, ?_⟩;rintro⟨J,_⟩ ⟨⟨b1,aw⟩,_⟩ _ _ ⟨h,s⟩ ⟨ad,E,F⟩;change Int at J aw;change Xr at b1;simp only at h s ad E F⊢;subst ad;rw[wv (by omega)];refine⟨C9v,fun p=>p.1.toNat,⟨⟨E,F⟩,⟨by simp only;omega,by simp only;omega⟩,⟨h,by simp only[xL];omega⟩,fun e d=>(by cases d)⟩, ?_⟩;clear ag av f g B D h s E F;rintro⟨J,t,i,n,br,_⟩ _ ⟨⟨G,r⟩,⟨f,g⟩,⟨h,s⟩,k⟩;change Int at J i n;change Xr at t;change List Pz at br;simp only at G r f g h s k⊢;refine⟨fun l=> ?_,fun l=>⟨⟨by simp only;omega,by simp only;omega,by simp only;omega,fun e d=>(k e d).1⟩,f,g,by omega,fun e d=>(k e d).2⟩⟩;rw[J6]at l;simp only[qC,rT]at l;obtain⟨c1,b6⟩:=l;refine⟨⟨by omega,G,r⟩, ?_⟩;rintro⟨j,_⟩ ⟨⟨b2,ax⟩,_⟩ _ _ ⟨aa,ab⟩ ⟨a1,a2,a3⟩;change Int at j ax;change Xr at b2;simp only at aa ab a1 a2 a3⊢;subst a1;refine⟨⟨a2,a3⟩, ?_⟩;rintro⟨S,_⟩ ⟨⟨u,I⟩,_⟩ _ _ ⟨ak,am⟩ ⟨a4,a5,a6⟩;change C0 at S;change Int at I;change Xr at u;simp only at ak am a4 a5 a6⊢;subst a4;refine⟨trivial, ?_⟩;rintro⟨Z,_⟩ _ af;change C0 at Z;simp only at af⊢;have au:Qc Z:=⟨0,N3 (by decide),af⟩;rw[wv (a:=n-1) (by omega)];have A:0<n-1/\0<=I/\I<=(u.length:Int):=⟨by omega,a5,a6⟩;have K:∀(r_4:Int×Unit) (o:(Xr×Int)×Unit),I2 r_4.1/\True->((Ty.int i64).sl.pair (Ty.int i64)).wf o.1/\True->0<=r_4.1/\r_4.1<n-1->o.1.1=u/\0<=o.1.2/\o.1.2<=(u.length:Int)->n≠0/\brJ n (o.1.1,o.1.2,j,(i64.wrap (i64.wrap (j+1)+r_4.1)).tmod n,S.1.1,S.1.2,S.2,Z.1.1,Z.1.2,Z.2,()):=by
  rintro⟨ao,_⟩ ⟨⟨b3,ay⟩,_⟩ _ _ ⟨ap,aq⟩ ⟨a7,a8,a9⟩;change Int at ao ay;change Xr at b3;simp only at ap aq a7 a8 a9⊢;subst a7;rw[wv (a:=j+1) (by omega),wv (by omega),B7a (by omega) (by omega)];refine⟨by omega,⟨a8,a9⟩,⟨aa,ab, ?_, ?_, ?_,am⟩,ak,au⟩
  . simp only;split<;>omega
  . simp only;split<;>omega
  . simp only;split<;>omega
 refine⟨brJ n,⟨⟨⟨A,K⟩,A,K⟩,⟨A,fun aj o a b c V=>⟨K aj o a b c V,K aj o a b c V⟩⟩,⟨A,K⟩,A,K⟩, ?_⟩;rintro⟨b4,az,an,b5,S1,S2,S3,Z1,Z2,Z3,_⟩ _ ⟨⟨M,N⟩,v,w,Q⟩;change Int at az an b5;change Xr at b4;simp only at M N v w Q⊢;refine⟨brJ n,⟨⟨by decide,M,N⟩, ?_⟩, ?_⟩
 . rintro⟨c,_⟩ ⟨⟨ai,ah⟩,_⟩ _ _ _ ⟨W,y,z⟩;change Int at ah;change Xr at ai;simp only at W y z⊢;subst W;refine⟨fun _=>⟨⟨y,z⟩, ?_⟩,fun _=>⟨⟨y,z⟩,v,w,Q⟩⟩;rintro⟨H,_⟩ ⟨⟨bb,b9⟩,_⟩ _ _ ae ⟨X,Y,a0⟩;change C0 at H;simp only at ae X Y a0⊢;exact⟨⟨Y,by rw[X];exact a0⟩,v,w,ae⟩
 . rintro⟨ai,ah,b7,bc,T1,T2,T3,Y1,Y2,Y3,_⟩ _ ⟨⟨O,P⟩,R,T,U⟩;simp only at O P R T U⊢;have b8:br.length<=9:=by omega
   rw[wv (by omega)];refine⟨⟨by rw[qY];omega,by rw[qY];omega⟩,⟨⟨O,P⟩,⟨f,g⟩,⟨by simp only;omega,by simp only;rw[rN,qY];omega⟩,fun e d=> ?_⟩,by omega⟩;simp only at d⊢;rcases rA.1 d with d|d
   . exact k e d
   . rw[qR]at d;subst d;exact⟨R,T,U⟩
end Go.Proofs.YtiflhbllbgajeaaGreat
