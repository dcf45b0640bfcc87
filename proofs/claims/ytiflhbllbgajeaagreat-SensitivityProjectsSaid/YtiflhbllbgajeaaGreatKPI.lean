/- Part. -/
import Derived.Test.YtiflhbllbgajeaaGreatKPH
set_option linter.all false
namespace Go.Proofs.YtiflhbllbgajeaaGreat
open Go.Proofs.Tryz
open Go.Vc Go.Gw
open Go.IntKind (i64 u32)
def C6k (n:Nat) (M:U9) (b:List Int) (rows c:List (List D1)) (a:List R5) (q:Int×Int×Bool×List Int×List (List D1)×NR×NB×Unit):Prop:=q.2.2.2.2.1=rows/\q.2.2.2.2.2.1.1=c/\jO n q.2.2.2.2.2.1.2/\q.2.2.2.2.2.2.1.1=a/\jO n q.2.2.2.2.2.2.1.2/\(q.2.2.1=false->¬nonsing n (el M))/\(q.2.2.1=true->q.2.1∈b/\q.1∈Q8 (a.getD q.2.1.toNat [])/\q.2.2.2.1.Nodup/\∀x,x∈q.2.2.2.1↔x∈b/\x≠q.2.1)
def B8m (n:Nat) (b:List Int) (a:List R5) (q:Int×NB×Unit):Prop:=0<=q.1/\q.1<(b.length:Int)/\q.2.1.1=a/\jO n q.2.1.2
def C2t (n:Nat) (a:List Int) (b:List R5) (q:Int×Int×NB×Unit):Prop:=0<=q.1/\q.1<(a.length:Int)/\0<=q.2.1/\q.2.1<=(a.length:Int)/\q.2.2.1.1=b/\jO n q.2.2.1.2
def C6l (n:Nat) (a:List Int) (b:Nat) (rows d:List (List D1)) (c:List R5) (q:List Int×List (List D1)×NR×NB×Unit):Prop:=q.1=a.take b++a.drop (b+1)/\q.2.1=rows/\q.2.2.1.1=d/\jO n q.2.2.1.2/\q.2.2.2.1.1=c/\jO n q.2.2.2.1.2
def C6u (es:R5) (q:Int×(R5×R5)×Unit):Prop:=q.2.1.1=es/\(∀y∈q.2.1.2,y∈es)/\((q.1<0/\q.2.1.2.length=es.length)\/q.1∈Q8 es)
def C6v (n:Nat) (a:List R5) (c:Int) (q:Int×NB×Unit):Prop:=q.1∈Q8 (a.getD c.toNat [])/\q.2.1.1=a/\jO n q.2.1.2
def C6s (es:R5) (q:List Int×(R5×R5)×Unit):Prop:=q.2.1.1=es/\(q.1++Q8 q.2.1.2).Perm (Q8 es)
def C6t (n:Nat) (a:List R5) (c:Int) (q:List Int×NB×Unit):Prop:=q.1.Perm (Q8 (a.getD c.toNat []))/\q.2.1.1=a/\jO n q.2.1.2
def I7 (n:Nat) (M:U9) (k:Nat) (d P:List Int) (rows b:List (List D1)) (r c:Int) (a:List Int) (q:Int×List (List D1)×NR×NB×Unit):Prop:=0<=q.1/\q.1<=(a.length:Int)/\(∀s,1<=s->X5 s M->CI n k (sK s k) d P rows b r c (a.take q.1.toNat) q.2.1 q.2.2.1.1 q.2.2.2.1.1)/\jO n q.2.2.1.2/\jO n q.2.2.2.1.2
def C2x (x:Rat) (q:Bool×List Int×List Int×Unit):Prop:=((q.1,q.2.1),q.2.2.1)=rc x
def C6m (n:Nat) (P place:List Int) (rows b:List (List D1)) (q:List Int×Int×List (List D1)×List (List D1)×NR×Unit):Prop:=q.1=place/\0<=q.2.1/\q.2.1<=(n:Int)/\q.2.2.1.length=n/\q.2.2.2.1.length=n/\q.2.2.2.2.1.1=b/\(∀m∈q.2.2.2.2.1.2,n<=m\/∃a:Nat,(a:Int)<q.2.1/\m=ix P a)/\(∀a:Nat,(a:Int)<q.2.1->q.2.2.1.getD a []=b.getD (ix P a) []++ [((a:Int),rc 1)])/\∀a:Nat,(a:Int)<q.2.1->PW (fun i=>if 0<=i/\i<(n:Int)then A4 (rows.getD (ix P a) []) ((List.idxOf i place:Nat):Int)else 0) (q.2.2.2.1.getD a [])
def EI.okFin {n k:Nat} {S:Nat->Nat} {A:Nat->Nat->Rat} {g P Q place:List Int} {rows c:List (List D1)} {b:List R5} (h:EI n k S A g P Q place rows c b) (i:n<=16384) {a:Nat} (d:a<k) (f:S a<=K1):Yf K1 (rows.getD (ix P a) []):=by
 obtain⟨b,c,_⟩:=h.can _ (h.elim.plt a d);have:=Gg (n:=(n:Int)) (v:=rows.getD (ix P a) []) ⟨b.1,fun e he=>⟨(c e he).1,(c e he).2,(b.2 e he).1⟩⟩;exact⟨b.1,DJ b fun j=>L8 (h.fin a d j) f,by omega⟩
def EI.cnt {n k:Nat} {S:Nat->Nat} {A:Nat->Nat->Rat} {a P Q place:List Int} {rows c:List (List D1)} {b:List R5} (h:EI n k S A a P Q place rows c b) (d:n<=16384) {i:Int} (f:0<=i) (g:i<(a.length:Int)):(0<=a.getD i.toNat 0/\a.getD i.toNat 0<((b.length:Nat):Int))/\(a.getD i.toNat 0).toNat<n/\(b.getD (a.getD i.toNat 0).toNat []).length<=9223372036854775807/\a.getD i.toNat 0∈a:=by
 have b:a.getD i.toNat 0∈a:=C8 (by omega);obtain⟨a,c1⟩:=h.crange b;have:=h.colLen b;rw[h.lcols];exact⟨⟨a,c1⟩,by omega,by omega,b⟩
set_option maxHeartbeats 4000000
def FT (x:A2 N2.args) (c0:awf N2.args x) (fa:N2.pre x):Iz x:=by
 obtain⟨⟨R,C,D⟩,_⟩:=x;have f2:aJ (R,C,D):=Vd c0.1.2.2.2;change Int at R C;change List (List D1)at D;obtain⟨a1,cr,bz,fk,b8⟩:=fa;simp only[Iz];refine⟨trivial, ?_⟩;rintro⟨u,_⟩ _ I;simp only at I⊢;by_cases a6:C2 (R,C,D)
 case neg=>
  have I:u=false:=by rw[I];exact rE a6
  rw[I];exact⟨fun _=>⟨fun _=>⟨rfl,trivial⟩,fun h=>absurd h a6⟩,fun h=>(by cases h)⟩
 have I:u=true:=by rw[I];exact rG a6
 rw[I];obtain⟨g5,g6,g7,g8,ef,eg⟩:=id a6;simp only at g5 g6 g7 g8 ef eg;refine⟨fun h=>(by cases h),fun _=>⟨fun bu=> ?_,fun cg=> ?_⟩⟩
 . have bu:=qA bu;exact⟨fun h=>absurd a6 h,fun _=>⟨fun _=>⟨rfl,trivial⟩,fun h=>absurd h bu⟩⟩
 have cg:R=C:=qU (qB cg);subst cg;obtain⟨n,rfl⟩:∃n:Nat,R=(n:Int):=⟨R.toNat,by omega⟩;have b8:sK a1 (n-1)<=K1:=b8 a6 rfl;simp only[qM];have b0:0<=(n:Int)/\(n:Int)<=(n:Int)/\8*(n:Int)<=281474976710656/\(n:Int)<=9223372036854775807:=⟨by omega,qI _,by omega,by omega⟩;have bh:0<=(n:Int)/\(n:Int)<=(n:Int)/\24*(n:Int)<=281474976710656/\(n:Int)<=9223372036854775807:=⟨by omega,qI _,by omega,by omega⟩;refine⟨b0,b0,bh,bh,b0,bh,bh,b0,b0,KL n,fun p=>((n:Int)-p.1).toNat,KL.init, ?_⟩;rintro⟨be,⟨af,em⟩,left,_⟩ _ H;change Int at be;change List R5 at af;simp only;have bt:=H.1;have dr:=H.2.1;have f3:af.length=n:=H.2.2.1;have f4:left.length=n:=H.2.2.2.2.2.1;simp only at bt dr;refine⟨fun g=> ?_,fun g=> ?_⟩
 . have g:=qA g;rw[wv (by omega)];exact⟨⟨bt,by omega⟩,⟨bt,by omega⟩,H.next g,by omega⟩
 have g:=qB g;have cn:(n:Int)<=be:=by omega
 have gp:(D.length:Int)=(n:Int):=ef;refine⟨GL n D,fun p=>((n:Int)-p.1).toNat,GL.init H cn, ?_⟩;rintro⟨T,ed,⟨a0,d3⟩,_⟩ _ am;change Int at T;change List (List D1)at ed;change List R5 at a0;simp only;have au:=am.1;have dz:=am.2.1;have fg:ed.length=n:=am.2.2.1;simp only at au dz;refine⟨fun w=> ?_,fun w=> ?_⟩
 . have w:=qA w;have fl:T<(n:Int):=by omega
   have cm:=H8 (d:=([]:List D1)) au w;rw[VQ au w]at cm⊢;have cu:=eg _ cm;have a5:=XW a6 bz cm;refine⟨⟨au,w⟩, .inl ⟨a5.1,fun e V=>F9 (a5.2.1 e V) fk,a5.2.2⟩, ?_⟩;rintro⟨aw,_⟩ _ c0;change List D1 at aw;simp only at c0⊢;refine⟨⟨au,by omega⟩,PT n (fun i=>A4 (D.getD i [])) T (D.getD T.toNat []),fun p=>(((D.getD T.toNat []).length:Int)-p.1).toNat,am.row, ?_⟩;rintro⟨c3,⟨cols2,d4⟩,_⟩ _ b7;change Int at c3;change List R5 at cols2;simp only;have ex:=b7.1;have ey:=b7.2.1;simp only at ex ey;have e2:∀e∈D.getD T.toNat [],0<=e.1/\e.1<(n:Int):=fun e V=>⟨(cu.2 e V).1,(cu.2 e V).2.1⟩
   have f8:=a5.2.2;refine⟨fun E=> ?_,fun E=> ?_⟩
   . have E:=qA E;rw[wv (by omega)];obtain⟨r,t,a8⟩:=b7.rng e2 E;exact⟨r,t,a8,b7.next e2 E,by omega⟩
   . have E:=qB E;rw[wv (by omega)];exact⟨am.next fl cu c0 b7 (by omega),by omega⟩
 have w:=qB w;have ds:(n:Int)<=T:=by omega
 refine⟨B6q n ((n:Int),(n:Int),D),fun p=>((n:Int)-p.1).toNat,B6q.init a6 f2 rfl rfl H cn am ds, ?_⟩;clear H bt dr f3 f4 am au dz fg g cn w ds;rintro⟨l,M,P,Q,place,rows,⟨c2,gi⟩,⟨af,em⟩,_⟩ _ ⟨cx,fo,aj,b2,d5⟩;change Int at l;change List Int at M P Q place;change List (List D1)at rows c2;change List R5 at af;simp only at cx fo aj b2 d5⊢;have a:=aj a1 cr bz;refine⟨fun b9=> ?_,fun b9=> ?_⟩
 . have b9:=qA b9;have cl:l.toNat<n:=by omega
   have b5:sK a1 l.toNat<=K1:=qX (EJ (by omega)) b8;have gv:=a.more cl;have bb:=a.lrows;have dn:=a.llow;have dm:=a.lcols;have gw:M.length<=n:=EF a.rnd fun x hx=>a.crange hx
   refine⟨C6k n ((n:Int),(n:Int),D) M rows c2 af,⟨B8m n M af,⟨C2t n M af,fun q=>((M.length:Int)-q.2.1).toNat,⟨qI _,by simp only;omega,qI _,by simp only;omega,rfl,d5⟩, ?_⟩, ?_⟩, ?_⟩
   . rintro⟨b,j,⟨b1,d2⟩,_⟩ _ ⟨Z,a2,aa,cw,rfl,N⟩;change Int at b j;simp only at Z a2 aa cw N⊢;refine⟨fun k=> ?_,fun k=>⟨Z,a2,rfl,N⟩⟩;have k:=qA k;obtain⟨c5,bf,c6,ax⟩:=a.cnt (by omega) aa k;obtain⟨ei,ej,ek,gc⟩:=a.cnt (by omega) Z a2;simp only[LE];refine⟨B8m n M b1,⟨⟨aa,k⟩,c5,N _ bf,c6,⟨Z,a2⟩,ei,N _ ej,ek,fun _=>⟨aa,k,rfl,N⟩,fun _=>⟨Z,a2,rfl,N⟩⟩, ?_⟩;rintro⟨eh,⟨cols2,d4⟩,_⟩ _ ⟨ay,az,rfl,ag⟩;change Int at eh;simp only at ay az ag⊢;obtain⟨bi,bj,bk,gm⟩:=a.cnt (by omega) ay az;rw[wv (by omega)];exact⟨⟨ay,az⟩,bi,ag _ bj,bk,fun _=>⟨ay,az,rfl,ag⟩,fun _=>⟨⟨ay,az,by simp only;omega,by simp only;omega,rfl,ag⟩,by omega⟩⟩
   . rintro⟨b,⟨b1,d2⟩,_⟩ _ ⟨Z,a2,rfl,N⟩;change Int at b;simp only at Z a2 N⊢;obtain⟨c5,bf,c6,ax⟩:=a.cnt (by omega) Z a2;simp only[LE];refine⟨⟨Z,a2⟩,c5,N _ bf,c6,fun ai=> ?_,fun ai=> ?_⟩
     . have ai:=qA ai;exact⟨rfl,rfl,b2,rfl,N,fun _=>a.stuck ax (qO (g3d.1 ai)),fun h=>(by cases h)⟩
     have ai:=qB ai;rw[wv (by omega)];simp only[qM,uS];rw[show(b+1).toNat=b.toNat+1 from by omega];have ba:b.toNat+(List.drop (b.toNat+1) M).length<=n:=by rw[sL];omega
     generalize ab:M.getD b.toNat 0=c at*;obtain⟨bg,c1⟩:=a.crange ax;have co:=a.pick (b:=b.toNat) (by omega);rw[ab]at co;refine⟨⟨Z,a2⟩,C6l n M b.toNat rows c2 b1,⟨⟨qI _,Z,by omega⟩,⟨by omega,by omega,qI _⟩,⟨⟨by omega,by omega⟩,rfl,rfl,rfl,b2,rfl,N⟩,⟨by omega,by omega⟩,rfl,rfl,rfl,b2,rfl,N⟩, ?_⟩;rintro⟨fx,ec,⟨gz,gj⟩,⟨cols2,d4⟩,_⟩ _ ⟨ah,rfl,rfl,b3,rfl,ap⟩;change List Int at fx;simp only at ah b3 ap⊢;obtain⟨gs,dc⟩:=a.col c ax;have fi:∀y:Int×Bool,y∈cols2.getD c.toNat []->0<=y.1/\y.1<(ec.length:Int):=fun y a7=>by
      obtain⟨cb,g9,_⟩:=(dc y.1).1 (mJ a7);rw[bb];exact⟨cb,g9⟩
     have bu:0<(cols2.getD c.toNat []).length:=by
      rcases vF (cols2.getD c.toNat []).length with J|J
      . exact absurd (g3d.2 J) ai
      . exact J
     have ce:c<(cols2.length:Int):=by rw[dm];exact c1
     refine⟨C6v n cols2 c,⟨⟨bg,ce⟩,ap _ bf,C6u (cols2.getD c.toNat []),fun q=>q.2.1.2.length,⟨rfl,fun y a7=>a7, .inl ⟨by show(-1:Int)<0;decide,rfl⟩⟩, ?_⟩, ?_⟩
     . rintro⟨i,⟨eo,left⟩,_⟩ _ ⟨rfl,ad,B⟩;change Int at i;change R5 at left;simp only at ad B⊢;refine⟨fun a3=>⟨fun h=>(by cases h),fun _=>⟨?_,LE _ _ _,ap⟩⟩,fun l1 y l2 a3=>⟨fun _=> ?_,fun h=>(by cases h)⟩⟩
       . rcases B with⟨_,B⟩ |B
         . rw[a3]at B;simp only[xH]at B;omega
         . exact B
       have a7:=fi y (ad y (by rw[a3];simp));have fm:y.1∈Q8 (cols2.getD c.toNat []):=mJ (ad y (by rw[a3];simp));have e0:∀z∈l1++l2,z∈cols2.getD c.toNat []:=fun z J=>ad z (by
        rw[a3];rcases qY.1 J with J|J
        . exact sJ _ J
        . exact tH _ (qJ _ J))
       have bq:(l1++l2).length<left.length:=by rw[a3,rO,rO,rJ];omega
       have ac:¬i<0->i∈Q8 (cols2.getD c.toNat [])/\0<=i/\i<(ec.length:Int):=fun h=>by
        rcases B with⟨E,_⟩ |E
        . exact absurd E h
        . obtain⟨cb,g9,_⟩:=(dc i).1 E;rw[bb];exact⟨E,cb,g9⟩
       have f5:∀ {q:Bool},I6 (decide (i<0)) true q=false->¬i<0:=fun {q} h E=>by
        rw[rG E]at h;cases h
       refine⟨fun _=>a7,fun h=>(ac (qB h)).2,fun _=>a7,fun h=>(ac (f5 h)).2,fun _=>⟨⟨rfl,e0, .inr fm⟩,bq⟩,fun h=>⟨⟨rfl,e0, .inr (ac ?_).1⟩,bq⟩⟩;intro E;rw[rG E]at h;cases h
     . rintro⟨i,⟨ga,gf⟩,_⟩ _ ⟨ad,rfl,bd⟩;exact⟨rfl,rfl,b3,rfl,bd,fun h=>(by cases h),fun _=>⟨ax,ad,ah▸co.1,ah▸co.2⟩⟩
   . rintro⟨u,c,e7,fw,o,⟨X,c9⟩,⟨b1,d2⟩,_⟩ _ ⟨rfl,rfl,N,rfl,ag,e5,e6⟩;change Int at u c;change Bool at e7;change List Int at fw;simp only at N ag e5 e6⊢;cases e7 with
     |false=>exact⟨fun _=>⟨fun h=>absurd a6 h,fun _=>⟨fun h=>absurd rfl h,fun _=>⟨fun _=>⟨rfl,trivial⟩,fun h=>absurd h (e5 rfl)⟩⟩⟩,fun h=>(by cases h)⟩
     |true=>
     obtain⟨ab,I,fe,ff⟩:=e6 rfl;obtain⟨bg,c1⟩:=a.crange ab;obtain⟨fr,fs,fu,eb⟩:=a.row ab I;have er:=a.lP;have gq:=a.lQ;have bx:=a.lpl;refine⟨fun h=>(by cases h),fun _=> ?_⟩;have fq:0<=l/\l<(P.length:Int):=⟨cx,by omega⟩;have e8:0<=l/\l<(Q.length:Int):=⟨cx,by omega⟩;have e9:0<=c/\c<(place.length:Int):=⟨bg,by omega⟩;refine⟨fun q=>q.1=P.set l.toNat u/\q.2.1=Q.set l.toNat c/\q.2.2.1=place.set c.toNat l,⟨fq,⟨e8,e9,rfl,rfl,rfl⟩,e8,e9,rfl,rfl,rfl⟩, ?_⟩;rintro⟨P',Q',ea,_⟩ _ ⟨bi,bj,bk⟩;simp only at bi bj bk⊢;have cq:Yf K1 (o.getD u.toNat []):=a.okRow b5 (by omega) (by omega);have bc:∀e∈o.getD u.toNat [],0<=e.1/\e.1<(n:Int):=(a.can u.toNat (by omega)).2.1;have fc:=(a.can u.toNat (by omega)).2.2;have dw:Y6 o u.toNat c.toNat=A4 (o.getD u.toNat []) c:=by unfold Y6;rw[show((c.toNat:Nat):Int)=c from by omega]
     rw[dw]at eb;generalize cp:o.getD u.toNat []=s at*;have gu:=cq.2.2;refine⟨⟨fr,by rw[bb];exact fs⟩,HV n M (inC b1) u s,fun p=>((s.length:Int)-p.1).toNat,⟨qI _,qD _,dm,ag,fun j k=>⟨a.crange k,kV ⟨(a.col j k).1,fun x=>yI⟩⟩⟩, ?_⟩;rintro⟨be,⟨a0,d3⟩,_⟩ _ A;change Int at be;change List R5 at a0;simp only;have fy:=A.1;have fz:=A.2.1;simp only at fy fz;refine⟨fun g=> ?_,fun g=> ?_⟩
     . have g:=qA g;rw[wv (by omega)];obtain⟨r,t,a8⟩:=A.rng bc g;exact⟨r,t,a8,A.next bc g,by omega⟩
     have g:=qB g;have ci:∀W,1<=W->X5 W ((n:Int),(n:Int),D)->CI n l.toNat (sK W l.toNat) M P o X u c [] o X a0:=fun W r t=>CI.init (aj W r t) ab I A.2.2.1 fun j k=>by
      have cb:=(A.2.2.2.2 j k).2;simp only at cb;rw[D7 (show(s.length:Int)<=be by omega)]at cb;rw[cp];exact cb
     have d6:jO n d3:=A.2.2.2.1;have f1:a0.length=n:=A.2.2.1;clear A;obtain⟨ck,bp⟩:=(ci a1 cr bz).col c ab;have dj:∀x∈Q8 (a0.getD c.toNat []),0<=x/\x<(n:Int):=fun x hx=>⟨((bp x).1 hx).2.1,((bp x).1 hx).2.2.1⟩
     have di:(Q8 (a0.getD c.toNat [])).length<=n:=EF ck dj;refine⟨cq, ?_⟩;rintro⟨v,_⟩ _ cs;change D3 at v;simp only at cs⊢;have ct:qs (sK a1 l.toNat) (A4 s c):=fc c;refine⟨by rw[cs];exact P9 (L8 ct b5) (by decide), ?_⟩;rintro⟨cv,h3,_⟩ _ ar;change D3 at cv;simp only at ar⊢;rw[cs,E3]at ar;obtain⟨ar,_⟩:=ar.2 eb;have ce:c<(a0.length:Int):=by rw[f1];exact c1
     refine⟨C6t n a0 c,⟨⟨bg,ce⟩,d6 _ (by omega),C6s (a0.getD c.toNat []),fun q=>q.2.1.2.length,⟨rfl,wP _⟩, ?_⟩, ?_⟩
     . rintro⟨c7,⟨eo,left⟩,_⟩ _ ⟨rfl,B⟩;change List Int at c7;change R5 at left;simp only at B⊢;refine⟨fun a3=>⟨fun h=>(by cases h),fun _=>⟨?_,LE _ _ _,d6⟩⟩,fun l1 y l2 a3=>⟨fun _=> ?_,fun h=>(by cases h)⟩⟩
       . subst a3;rw[show Q8 []= []from rfl,vT]at B;exact B
       subst a3;have dv:(c7++ [y.1]++Q8 (l1++l2)).Perm (Q8 (a0.getD c.toNat [])):=by
        refine List.Perm.trans ?_ B;rw[uB];refine g2h c7 ?_;unfold Q8;rw[uJ,uJ,rZ,List.singleton_append];exact List.perm_middle.symm
       have es:=dv.length_eq;rw[rO,rO,rC]at es;have bq:(l1++l2).length<(l1++y::l2).length:=by rw[rO,rO,rJ];omega
       exact⟨⟨by rw[rC];omega,by rw[rC];omega⟩,⟨rfl,dv⟩,bq⟩
     rintro⟨Y,⟨gb,gg⟩,_⟩ _ ⟨b4,rfl,d7⟩;change List Int at Y;simp only at b4 d7⊢;have f9:Y.Nodup:=b4.nodup_iff.2 ck;have dt:∀x,x∈Y↔x≠u/\0<=x/\x<(n:Int)/\(∀f,f<l.toNat->x.toNat≠ix P f)/\Y6 o x.toNat c.toNat≠0:=fun x=>by rw[b4.mem_iff];exact bp x
     have f8:Y.length<=n:=by
      rw[b4.length_eq];exact di
     refine⟨I7 n ((n:Int),(n:Int),D) l.toNat M P o X u c Y,fun q=>((Y.length:Int)-q.1).toNat,⟨qI _,qD _,ci,N,d7⟩, ?_⟩;clear ci ck bp dj di b4;rintro⟨T,cz,⟨cy,en⟩,⟨c8,gh⟩,_⟩ _ ⟨c4,g4,bm,bl,ca⟩;change Int at T;simp only at c4 g4 bm bl ca⊢;have ak:=bm a1 cr bz;refine⟨fun w=> ?_,fun w=> ?_⟩
     . have w:=qA w;have f0:Y.getD T.toNat 0∈Y:=C8 (by omega);have cj:Y.getD T.toNat 0∉Y.take T.toNat:=fun hh=>by
        obtain⟨f,O,aq⟩:=uU.1 hh;rw[qW]at O;rw[g1d,H6 _ _ (show T.toNat<Y.length by omega)]at aq;have:=(wK f9).1 aq;omega
       have e1:=Iy (d:=(0:Int)) c4 w;rw[G7 c4 w]at e1;obtain⟨ad,B,bd,e4,gy⟩:=(dt _).1 f0;generalize Y.getD T.toNat 0=i at*;have a9:i.toNat<n:=by omega
       have df:((i.toNat:Nat):Int)=i:=by omega
       have fj:cz.getD i.toNat []=o.getD i.toNat []:=ak.ru _ a9 (by rw[df];exact cj);have dq:cy.getD i.toNat []=X.getD i.toNat []:=by rw[ak.lo _ a9,qK (by rw[df];exact cj)]
       have ba:=a.lowLen a9;have gn:=a.two (i:=u.toNat) (j:=i.toNat) (by omega) a9 (by omega) fu e4;have a5:=a.okRow b5 (by omega) a9;have dy:=(a.can _ a9).2.2;have ac:0<=i/\i<(cz.length:Int):=⟨B,by rw[ak.lrows];exact bd⟩;have dh:0<=i/\i<(cy.length:Int):=⟨B,by rw[ak.llow];exact bd⟩;have eu:i.toNat∉en:=bl _ a9;rw[fj,dq];have et:Y6 o i.toNat c.toNat=A4 (o.getD i.toNat []) c:=by unfold Y6;rw[show((c.toNat:Nat):Int)=c from by omega]
       have gr:4*sK a1 l.toNat+1<=K1:=qX (show sK a1 (l.toNat+1)<=sK a1 (n-1)from EJ (by omega)) b8;have fd:qs (sK a1 l.toNat+sK a1 l.toNat) (A4 (o.getD i.toNat []) c/A4 s c):=iT (dy c) ct;have F:∀(ae:QQ×Unit),CY ae.1/\True->ae.1=rc (A4 (o.getD i.toNat []) c)->(E6 ae.1/\E6 cv)/\∀(av:QQ×Unit),CY av.1/\True->av.1=rc (rv ae.1*rv cv)->C2x (A4 (o.getD i.toNat []) c/A4 s c) (av.1.1.1,av.1.1.2,av.1.2,()):=fun ae _ h1=>by
        refine⟨⟨by rw[h1];exact P9 (L8 (dy c) b5) (by decide),by rw[ar];exact P9 (L8 (B3h ct) b5) (by decide)⟩,fun av _ cb=> ?_⟩;rw[h1,ar,E3,E3, <-wX]at cb;exact cb
       refine⟨⟨c4,w⟩,C2x (A4 (o.getD i.toNat []) c/A4 s c),⟨ac,⟨a5,fun ae aw h=>⟨F ae aw h,F ae aw h⟩⟩,a5,F⟩, ?_⟩;rintro⟨d9,da,db,_⟩ _ ch;change Bool at d9;change List Int at da db;have ch:((d9,da),db)=rc (A4 (o.getD i.toNat []) c/A4 s c):=ch;simp only;rw[ch];refine⟨fun q=>q.1.1=cy.set i.toNat (X.getD i.toNat []++ [(l,rc (A4 (o.getD i.toNat []) c/A4 s c))])/\jO n q.1.2, ?_, ?_⟩
       . have L1:((X.getD i.toNat []).length+ [(l,rc (A4 (o.getD i.toNat []) c/A4 s c))].length)*64<=140737488355328/\(X.getD i.toNat []).length+ [(l,rc (A4 (o.getD i.toNat []) c/A4 s c))].length<=9223372036854775807:=by
          have J:∀z:Nat,z<=n->(z+1)*64<=140737488355328/\z+1<=9223372036854775807:=fun z J=>⟨by omega,by omega⟩
          exact J _ (qX ba (by omega))
         repeat' apply And.intro
         all_goals first
          |exact dh.1
          |exact dh.2
          |exact eu
          |exact L1.1
          |exact L1.2
          |exact rfl
          |exact bl
          |exact True.intro
       rintro⟨⟨h2,gl⟩,_⟩ _ ⟨dk,d8⟩;simp only at dk d8⊢;have dx:qs K1 (A4 (o.getD i.toNat []) c/A4 s c):=L8 fd (by omega);refine⟨ac,P9 dx (by decide), ?_⟩;rintro⟨fp,_⟩ _ bv;change D3 at fp;simp only at bv⊢;rw[E3]at bv;refine⟨⟨a5,by rw[bv];exact GO (XS dx),cq⟩, ?_⟩;rintro⟨nw,_⟩ _ a4;change List D1 at nw;simp only at a4⊢;have a4:PW (fun j=>A4 (o.getD i.toNat []) j-A4 (o.getD i.toNat []) c/A4 s c*A4 s j) nw:=⟨a4.1,fun j=>(a4.2 j).trans (by dsimp only;rw[bv,E3,Rat.neg_mul, <-tJ])⟩;have bw:∀e∈nw,0<=e.1/\e.1<(n:Int):=fun e V=>qU fun hh=>by
        refine(a4.1.2 e V).1 ?_;rw[<-O6 a4.1.1 V];refine(a4.2 e.1).trans ?_;dsimp only;rw[D5 (v:=o.getD i.toNat []) (i:=e.1) fun y a7 cb=>hh (by rw[<-cb];exact(a.can _ a9).2.1 y a7),D5 (v:=s) (i:=e.1) fun y a7 cb=>hh (by rw[<-cb];exact bc y a7),uY,tJ,wO,rN]
       have gt:nw.length<=n:=by
        have:=Gg (n:=(n:Int)) (v:=nw) ⟨a4.1.1,fun e V=>⟨(bw e V).1,(bw e V).2,(a4.1.2 e V).1⟩⟩;omega
       refine⟨ac,HV n M (inC c8) i s,fun p=>((s.length:Int)-p.1).toNat,⟨qI _,qD _,ak.lcols,ca,fun j k=>⟨a.crange k,kV ⟨(ak.col j k).1,fun x=>yI⟩⟩⟩, ?_⟩;rintro⟨c3,⟨d0,gd⟩,_⟩ _ A;change Int at c3;change List R5 at d0;simp only;have g0:=A.1;have g1:=A.2.1;simp only at g0 g1;refine⟨fun g=> ?_,fun g=> ?_⟩
       . have g:=qA g;rw[wv (by omega)];obtain⟨r,t,a8⟩:=A.rng bc g;exact⟨r,t,a8,A.next bc g,by omega⟩
       have g:=qB g;have dp:∀j:Int,j∈M->kU (inC c8) i s j (d0.getD j.toNat []):=fun j k=>by
        have cb:=(A.2.2.2.2 j k).2;simp only at cb;rwa[D7 (show(s.length:Int)<=c3 by omega)]at cb
       rw[show(cz.set i.toNat nw).getD i.toNat []=nw from B6 (by rw[ak.lrows];exact a9)];refine⟨by rw[qN];exact ac,cT n M (fun j x=>inC c8 j x/\¬(x=i/\∃e∈s,e.1=j)) i nw,fun p=>((nw.length:Int)-p.1).toNat,⟨qI _,qD _,A.2.2.1,A.2.2.2.1,fun j k=>⟨a.crange k,A9j ⟨(dp j k).1,(dp j k).2⟩⟩⟩, ?_⟩;rintro⟨ee,⟨d1,ge⟩,_⟩ _ G;change Int at ee;change List R5 at d1;simp only;have g2:=G.1;have g3:=G.2.1;simp only at g2 g3;refine⟨fun g=> ?_,fun g=> ?_⟩
       . have g:=qA g;rw[wv (by omega)];obtain⟨r,t,a8⟩:=G.rng bw g;exact⟨r,t,a8,G.next bw g,by omega⟩
       have g:=qB g;rw[wv (by omega)];refine⟨⟨by simp only;omega,by simp only;omega,fun W r t=> ?_,d8,G.2.2.2.1⟩,by omega⟩;have f7:=CI.next (aj W r t) ab I (bm W r t) B bd ad e4 cj (q:=A4 (o.getD i.toNat []) c/A4 s c) (by rw[et,dw]) (nw:=nw) (by rw[cp];exact a4) (cols2:=d1) G.2.2.1 fun j k=>by
        have cb:=(G.2.2.2.2 j k).2;simp only at cb;rw[D7 (show(nw.length:Int)<=ee by omega)]at cb;rw[cp];exact cb
       simp only;rw[e1,dk, <-dq];rwa[show((l.toNat:Nat):Int)=l from by omega]at f7
     . have w:=qB w;rw[wv (by omega)];refine⟨⟨by simp only;omega,by simp only;omega,fun W r t=> ?_,bl,ca⟩,by omega⟩;have de:=bm W r t;rw[D7 (by omega)]at de;have ew:=CI.done (aj W r t) ab I de rfl dt fe ff;simp only;rw[show(l+1).toNat=l.toNat+1 from by omega,bi,bj,bk];rwa[show((l.toNat:Nat):Int)=l from by omega]at ew
 . have b9:=qB b9;have cl:l=(n:Int):=by omega
   subst cl;simp only[qM]at aj a;have bb:=a.lrows;have dn:=a.llow;have er:=a.lP;have fb:=a.places;refine⟨C6m n P place rows c2,fun q=>((n:Int)-q.2.1).toNat,⟨rfl,qI _,qD _,rF,rF,rfl,fun m H=> .inl (g4i fun h=>b2 m h H),fun f O=>by simp only at O;omega,fun f O=>by simp only at O;omega⟩, ?_⟩;rintro⟨ea,j,L,U,⟨X,c9⟩,_⟩ _ ⟨rfl,aa,cw,an,ao,rfl,cf,cc,cd⟩;change Int at j;change List (List D1)at L U;simp only at aa cw an ao cf cc cd⊢;refine⟨fun k=> ?_,fun k=> ?_⟩
   . have k:=qA k;have G:j.toNat<n:=by omega
     have ep:P.getD j.toNat 0=(ix P j.toNat:Int):=a.P0 _ G;have bs:=a.elim.plt _ G;have ba:=a.lowLen bs;have f6:ix P j.toNat∉c9:=fun H=>by
      rcases cf _ H with h| ⟨f,O,aq⟩
      . omega
      . have:=a.elim.pinj _ _ G (show f<n by omega) aq;omega
     have a5:=a.okFin (by omega) G (qX (EJ (by omega)) b8);rw[ep];simp only[qM];have r:0<=j/\j<(P.length:Int):=⟨aa,k⟩;have t:0<=(ix P j.toNat:Int)/\(ix P j.toNat:Int)<(X.length:Int):=⟨qD _,by rw[dn];exact sO.2 bs⟩;have a8:0<=j/\j<(L.length:Int):=⟨aa,by rw[an];omega⟩;have J:∀z:Nat,z<=n->(z+1)*64<=140737488355328/\z+1<=9223372036854775807:=fun z J=>⟨by omega,by omega⟩
     refine⟨r,fun q=>q.1=L.set j.toNat (X.getD (ix P j.toNat) []++ [(j,rc 1)])/\q.2.1.1=X/\q.2.1.2=ix P j.toNat::c9, ?_, ?_⟩
     . repeat' first
        |exact f6
        |exact True.intro
        |exact r.1
        |exact r.2
        |exact t.1
        |exact t.2
        |exact a8.1
        |exact a8.2
        |exact rfl
        |exact(J _ (qX ba (qZ _))).1
        |exact(J _ (qX ba (qZ _))).2
        |apply And.intro
        | (rintro⟨u,_⟩ _ I
           have I:u=rc 1:=I.trans (LB 1);subst I)
     rintro⟨L4,⟨h0,gk⟩,_⟩ _ ⟨ah,b3,ap⟩;simp only at ah b3 ap⊢;refine⟨⟨t.1,by rw[bb];exact sO.2 bs⟩,⟨a5,by rw[a.lpl];omega⟩, ?_⟩;rintro⟨aw,h4,_⟩ _ du;change List D1 at aw;simp only at du⊢;have bx:=a.lpl;obtain⟨e3,_⟩:=du (by rw[bx];exact fb.1) fun i ez=>by
      rw[bx];obtain⟨e,V,rfl⟩:=Uo ez;exact(a.can _ bs).2.1 e V
     rw[bx]at e3;rw[wv (by omega)];refine⟨⟨aa,by rw[ao];omega⟩,⟨rfl,by simp only;omega,by simp only;omega,by simp only;rw[ah,qN];exact an,by simp only;rw[qN];exact ao,b3,fun m H=> ?_,fun f O=> ?_,fun f O=> ?_⟩,by omega⟩
     . simp only at H⊢;rw[ap]at H;rcases qG.1 H with h|h
       . exact .inr ⟨j.toNat,by omega,h⟩
       . rcases cf m h with h| ⟨f,O,aq⟩
         . exact .inl h
         . exact .inr ⟨f,by omega,aq⟩
     . simp only at O⊢;rw[ah];by_cases b6:f=j.toNat
       . subst b6;rw[B6 (by rw[an];exact G),show((j.toNat:Nat):Int)=j from by omega]
       . rw[D8 b6];exact cc f (by omega)
     . simp only at O⊢;by_cases b6:f=j.toNat
       . subst b6;rw[B6 (by rw[ao];exact G)];exact e3
       . rw[D8 b6];exact cd f (by omega)
   . have k:=qB k;have G:j=(n:Int):=by omega
     subst G;have bn:∀f,f<n->L.getD f []=X.getD (ix P f) []++ [((f:Int),rc 1)]:=fun f O=>cc f (by omega)
     have bo:∀f,f<n->PW (fun i=>if 0<=i/\i<(n:Int)then A4 (rows.getD (ix P f) []) ((List.idxOf i ea:Nat):Int)else 0) (U.getD f []):=fun f O=>cd f (by omega)
     have dd:=a.done (by omega) an ao bn bo;exact⟨fun h=>absurd a6 h,fun _=>⟨fun h=>absurd rfl h,fun _=>⟨fun h=>absurd a.elim.nonsing h,fun _=>⟨dd.1,trivial,(a.cans an ao bn bo).1,(a.cans an ao bn bo).2,fun W r t f b O=>(aj W r t).sizes (fun f=>qX r (C6w f)) bn bo O b,dd.2⟩⟩⟩⟩
def JM:An:= {}
abbrev C4g:=(List Int×List Int×MM×Int×Int×List (List EE))×List QQ×Unit
def Ph:A2 Aa.args->Prop:=fun(x:C4g)=>let e:=(4:Int);let d:=(1:Int);let c:=(0:Int);let b:=(↑x.1.1.length:Int);let a:=(x.1.1.length:Int);let f:Prop:=((x.2.1.length:Int)≠a);(c<=a/\a<=(16384:Int)/\X5 K1 x.1.2.2.1/\X5 K1 x.1.2.2.2)/\Ql fun r=>(r.1=true↔Cu x.1 a)->(iB ((!r.1)) ((¬Cu x.1 b->d=d)/\(Cu x.1 b->(x.2.1.length≠x.1.1.length->d=e)/\(x.2.1.length=x.1.1.length->d=c))) ((iB (decide f) ((¬Cu x.1 b->e=d)/\(Cu x.1 b->(x.2.1.length≠x.1.1.length->e=e)/\(x.2.1.length=x.1.1.length->e=c))) ((¬Cu x.1 b->c=d)/\(Cu x.1 b->(x.2.1.length≠x.1.1.length->c=e)/\(x.2.1.length=x.1.1.length->c=c))))))
def RH:An:= {loop:= [(12,⟨[1,2,7,8,9,30,31,55,56],[0],[(57,false,vI)],[],[(1, .row tQ 43)]⟩),(7,⟨[1,2,7,8,30],[0],[(31,false,vI)],[],[(1, .row tQ 43)]⟩),(24,⟨[2,7,8,13,15,16,80,81,95,96],[0,2],[(97,false,vI)],[],[(1, .row tQ 43)]⟩),(19,⟨[2,7,8,13,80],[0],[(81,false,vI)],[],[(1, .row tQ 43),(2, .row tQ 43)]⟩)],plan:= [(14,[5,7,10,12],[15],true,(pZ9 0 5 (.q 5 (.p 6 (.q 7 (.p 8 (.p 9 (.q 10 (.p 11 (.q 12 (.e 13 (.p 14 (.e 15 .done))))))))))))),(26,[5,7,10,12],[15],true,(pZ9 0 5 (.q 5 (.p 6 (.q 7 (.p 8 (.p 9 (.q 10 (.p 11 (.q 12 (.e 13 (.p 14 (.e 15 .done))))))))))))),(28,[5,9],[15],true,(pZ9 0 5 (.q 5 (pZ9 6 3 (.q 9 (.e 10 (pZ9 11 4 (.e 15 .done)))))))),(29,[2,5,9],[11],true,(.p 0 (.p 1 (.q 2 (.p 3 (.p 4 (.q 5 (pZ9 6 3 (.q 9 (.p 10 (.e 11 .done)))))))))))]}
abbrev C4z:=Int×List QQ×List QQ×Unit
def Xe:A2 Z9.args->Prop:=fun(x:C4g)=>let M:=(1:Nat);let A:=(↑x.1.1.length:Int);let q:=(1:Int);let g:=(0:Int);let d:=(x.1.1.length:Int);let v:Prop:=(g<=d/\d<=d/\(↑(56:Nat):Int)*d<=(281474976710656:Int)/\d<=(9223372036854775807:Int));(List.length x.1.1<=16384/\X5 K1 x.1.2.2.1/\X5 K1 x.1.2.2.2)/\Cp fun r=>(¬Cu x.1 d->r.1=q)/\(Cu x.1 d->(List.length x.2.1≠List.length x.1.1->r.1=4)/\(List.length x.2.1=List.length x.1.1->r.1=g))->(iB (decide (r.1≠g)) ((¬Cu x.1 A->Cl QQ= []/\r.1=q)/\(Cu x.1 A->(x.2.1.length≠x.1.1.length->Cl QQ= []/\r.1=4)/\(x.2.1.length=x.1.1.length->r.1=g/\0=x.1.1.length/\(∀(e:QQ),e∈ []->e=rc (rv e))/\(∀(s T:Nat),M<=s->M<=T->X5 s x.1.2.2.1->X5 s x.1.2.2.2->GN T x.2.1->GN (hK s (gK s T x.1.1.length) x.1.1.length+s) [])/\∀(i:Nat),i<x.1.1.length->(C6 x.1.1.length fun(j:Nat)=>luM x.1 x.1.1.length i j*rv ([].getD (ix x.1.2.1 j) zr))=rv (x.2.1.getD (ix x.1.1 i) zr)))) (v/\∃(I:oB->Prop),∃(b: _->Nat),I (g,List.replicate d.toNat dQ,())/\∀(p:oB),let E:=p.1.toNat;let m:=(gx [] x.1.2.2.1.2.2 p.1);let B:=(↑m.length:Int);let L:=(i64.wrap (B-q));let a:=(↑(List.drop g.toNat (List.take L.toNat m)).length:Int);(Ty.int i64).wf p.1/\WfL p.2.1/\True->I p->(iB (decide (p.1<d)) ((g<=p.1/\p.1<d)/\(g<=gx g x.1.1 p.1/\gx g x.1.1 p.1<(x.2.1.length:Int))/\(g<=p.1/\p.1<(p.2.1.length:Int))/\(g<=p.1/\p.1<(x.1.2.2.1.2.2.length:Int))/\(g<=g/\g<=i64.wrap (B-q)/\i64.wrap (B-q)<=B)/\∃(I_1:oB->Prop),∃(h: _->Nat),I_1 (g,List.set p.2.1 E (gx dQ x.2.1 (gx g x.1.1 p.1)),())/\∀(N:oB),let K:=(List.getD N.2.1 E dQ);let F:=(i64.wrap (p.1+q),N.2.1,());let D:=(N.2.1.length:Int);let c:=(gx E4 (List.drop g.toNat (List.take L.toNat m)) N.1);let t:=(List.getD N.2.1 c.1.toNat dQ);(Ty.int i64).wf N.1/\WfL N.2.1/\True->I_1 N->(iB (decide (N.1<a)) ((g<=N.1/\N.1<a)/\(g<=p.1/\p.1<D)/\(g<=c.1/\c.1<D)/\(sz K1 K/\sz K1 c.2/\sz K1 t)/\I2 fun r=>let z:=(i64.wrap (N.1+q),List.set N.2.1 E r.1,());(rv t=(0:Rat)->r.1=List.getD N.2.1 E dQ)/\(rv t≠(0:Rat)->r.1=rc (rv K-rv c.2*rv t))->(g<=p.1/\p.1<D)/\I_1 z/\h z<h N) (I F/\b F<b p))) (v/\∃(I:C4z->Prop),∃(b: _->Nat),I (g,p.2.1,List.replicate d.toNat dQ,())/\∀(p:C4z),let a:=(i64.wrap (d-q)-p.1);let k:=(i64.wrap a);let c:=(gx [] x.1.2.2.2.2.2 k);let J:=(gx E4 c g);let y:=(↑c.length:Int);let o:=(↑(List.drop q.toNat (List.take y.toNat c)).length:Int);(Ty.int i64).wf p.1/\WfL p.2.1/\WfL p.2.2.1/\True->I p->(iB (decide (p.1<d)) ((g<=i64.wrap a/\i64.wrap a<(x.1.2.2.2.2.2.length:Int))/\(g<=q/\q<=y/\y<=y)/\∃(I_1:oB->Prop),∃(h: _->Nat),I_1 (g,p.2.1,())/\∀(N:oB),let G:=(N.2.1.length:Int);let w:=(List.getD N.2.1 k.toNat dQ);let l:Prop:=(g<=i64.wrap a/\i64.wrap a<G);let f:=(gx E4 (List.drop q.toNat (List.take y.toNat c)) N.1);let u:=(List.getD N.2.1 f.1.toNat dQ);(Ty.int i64).wf N.1/\WfL N.2.1/\True->I_1 N->(iB (decide (N.1<o)) ((g<=N.1/\N.1<o)/\l/\(g<=f.1/\f.1<G)/\(sz K1 w/\sz K1 f.2/\sz K1 u)/\I2 fun r=>let C:=(i64.wrap (N.1+q),List.set N.2.1 k.toNat r.1,());(rv u=(0:Rat)->r.1=List.getD N.2.1 k.toNat dQ)/\(rv u≠(0:Rat)->r.1=rc (rv w-rv f.2*rv u))->l/\I_1 C/\h C<h N) (l/\(g<=g/\g<y)/\(E6 w/\E6 J.2)/\∀(r:B7y),let H:=(List.set N.2.1 k.toNat r.1);let n:=(i64.wrap (p.1+q),List.set N.2.1 k.toNat r.1,List.set p.2.2.1 (gx g x.1.2.1 k).toNat (H.getD k.toNat dQ),());CY r.1/\True/\True->(rv J.2=(0:Rat)->r.2.1=false)/\(rv J.2≠(0:Rat)->r.1=rc (rv w/rv J.2)/\r.2.1=true)->l/\(g<=i64.wrap a/\i64.wrap a<(x.1.2.1.length:Int))/\(g<=i64.wrap a/\i64.wrap a<(↑H.length:Int))/\(g<=gx g x.1.2.1 k/\gx g x.1.2.1 k<(p.2.2.1.length:Int))/\I n/\b n<b p))) ((¬Cu x.1 A->p.2.2.1= []/\g=q)/\(Cu x.1 A->(x.2.1.length≠x.1.1.length->p.2.2.1= []/\g=(4:Int))/\(x.2.1.length=x.1.1.length->g=g/\List.length p.2.2.1=x.1.1.length/\(∀(e:QQ),e∈p.2.2.1->e=rc (rv e))/\(∀(s T:Nat),M<=s->M<=T->X5 s x.1.2.2.1->X5 s x.1.2.2.2->GN T x.2.1->GN (hK s (gK s T x.1.1.length) x.1.1.length+s) p.2.2.1)/\∀(i:Nat),i<x.1.1.length->(C6 x.1.1.length fun(j:Nat)=>luM x.1 x.1.1.length i j*rv (List.getD p.2.2.1 (ix x.1.2.1 j) zr))=rv (x.2.1.getD (ix x.1.1 i) zr)))))))))
def zok (k:Nat) (q:Rat) (x:D3):Prop:=sz k x/\Jh x/\rv x=q
def B4m {k:Nat} {q:Rat} (h:qs k q):zok k q (rc q):=⟨GO h,TF q,E3 q⟩
def oL {j k:Nat} {q:Rat} {x:D3} (h:zok j q x) (a:j<=k):zok k q x:=⟨F9 h.1 a,h.2⟩
def Ja {s T:Nat} :∀ {a b:Nat},a<=b->gK s T a<=gK s T b
 |a,0,h=>by have:a=0:=by omega
            subst this;exact qZ _
 |a,b+1,h=>by
  by_cases c:a=b+1
  . subst c;exact qZ _
  . have:=Ja (s:=s) (T:=T) (a:=a) (b:=b) (by omega);simp only[gK];omega
def Li {s T:Nat} :∀ {a b:Nat},a<=b->hK s T a<=hK s T b
 |a,0,h=>by have:a=0:=by omega
            subst this;exact qZ _
 |a,b+1,h=>by
  by_cases c:a=b+1
  . subst c;exact qZ _
  . have:=Li (s:=s) (T:=T) (a:=a) (b:=b) (by omega);simp only[hK];omega
def B5q {v:List D1} {i:Nat} (a:∀e∈v,0<=e.1/\e.1<(i:Int)) (h:Nat->Rat):Ut v (fun j=>h j.toNat)=C6 i fun j=>A4 v (j:Int)*h j:=by
 rw[A2r a];exact B7 fun j _=>by rw[qM]
def oK {s j k:Nat} {a f b r:D3} {x y:Rat} (d:zok j x a) (v:Jh f) (w:sz s f) (B:1<=s) (u:zok k y b) (z:1<=j) (A:1<=k) (o:rv b=0->r=a) (t:rv b≠0->r=rc (rv a-rv f*rv b)):zok (j+(s+k)+1) (x-rv f*y) r:=by
 obtain⟨g,h,c⟩:=id d;obtain⟨i,l,n⟩:=id u;subst c n;by_cases c:rv b=0
 . rw[o c,c,uY,tJ,wO,rN];exact oL d (by omega)
 . rw[t c];exact B4m (OR (Jm h g z) (IJ (Jm v w B) (Jm l i A)))
def FW (s T n i:Nat) (Lm:Nat->Nat->Rat) (b:Nat->Rat) (z:List D3):Prop:=z.length=n/\∀j,j<i->zok (gK s T j) (rv (z.getD j zr)) (z.getD j zr)/\rv (z.getD j zr)+C6 j (fun m=>Lm j m*rv (z.getD m zr))=b j
def FI (s T i:Nat) (c:Rat) (w:List D1) (b:List D3) (t:Nat) (z:List D3):Prop:=∃a,z=b.set i a/\Jh a/\rv a=c-Ut (w.take t) (fun j=>rv (b.getD j.toNat zr))/\∀m:Nat,(∀e∈w.take t,e.1<(m:Int))->sz (gK s T m) a
variable {s T n i:Nat} {c:Rat} {w:List D1} {z0 z:List D3} {Lm:Nat->Nat->Rat} {b:Nat->Rat}
def FI.init {x:D3} (a:zok T c x):FI s T i c w z0 0 (z0.set i x):=
 ⟨x,rfl,a.2.1,by rw[a.2.2];simp only[g0t,Ut];rw[tJ,wO,rN],fun m _=>F9 a.1 (Ja (rM m))⟩
def FI.next (g:FW s T n i Lm b z0) (hT:1<=T) (hs:1<=s) (hi:i<n) (hasc:Fj w) (hw:∀e∈w,0<=e.1/\e.1<(i:Int)/\sz s e.2/\Jh e.2) {t:Int} (t0:0<=t) (t1:t<(w.length:Int)) (h:FI s T i c w z0 t.toNat z):
 (z.length=n/\sz (gK s T i) (z.getD i zr)/\sz (gK s T i) (z.getD (gx E4 w t).1.toNat zr))/\∀r,(rv (z.getD (gx E4 w t).1.toNat zr)=0->r=z.getD i zr)->(rv (z.getD (gx E4 w t).1.toNat zr)≠0->r=rc (rv (z.getD i zr)-rv (gx E4 w t).2*rv (z.getD (gx E4 w t).1.toNat zr)))->FI s T i c w z0 (t+1).toNat (z.set i r):=by
 obtain⟨u,rfl,B,E,G⟩:=h;have f:=H8 (d:=E4) t0 t1;obtain⟨k,l,v,A⟩:=hw _ f;have l:∀y∈w.take t.toNat,y.1<(gx E4 w t).1:=fun y hy=>by
  have f:(w.take (t+1).toNat).Pairwise (fun a b=>a.1<b.1):=zE hasc;rw[show(t+1).toNat=t.toNat+1 from by omega,rQ,G8 (d:=E4) t0 t1,tL]at f;exact f.2.2 y hy (gx E4 w t) (by simp)
 have F:=cF (d:=E4) t0 t1 (fun j=>rv (z0.getD j.toNat zr));have H:∀m:Nat,(∀e∈w.take (t+1).toNat,e.1<(m:Int))->(gx E4 w t).1<(m:Int):=fun m k=>k _ (by
  rw[show(t+1).toNat=t.toNat+1 from by omega,rQ,G8 (d:=E4) t0 t1];simp)
 generalize gx E4 w t=e at*;have o:e.1.toNat≠i:=by omega
 have D:=g.1;rw[D8 o,B6 (by omega)];obtain⟨o,_⟩:=g.2 e.1.toNat (by omega);have f:=G e.1.toNat fun y hy=>by have:=l y hy;omega
 have l:∀m,1<=gK s T m:=fun m=>qX hT (Ja (rM m))
 refine⟨⟨by rw[qN];exact D,F9 f (Ja (by omega)),F9 o.1 (Ja (by omega))⟩,fun r G I=> ?_⟩;have g:=oK (x:=rv u) ⟨f,B,rfl⟩ A v hs o (l _) (l _) G I;refine⟨r,by rw[g3w],g.2.1, ?_,fun m k=> ?_⟩
 . rw[g.2.2,F,E];grind
 . refine F9 g.1 (qX ?_ (Ja (show e.1.toNat+1<=m by have:=H m k;omega)));simp only[gK];omega
def FI.done (k:FW s T n i Lm b z0) (G:i<n) (r:∀e∈w,0<=e.1/\e.1<(i:Int)) (x:∀j,j<i->A4 w (j:Int)=Lm i j) {t:Nat} (F:w.length<=t) (h:FI s T i (b i) w z0 t z):FW s T n (i+1) Lm b z:=by
 obtain⟨d,rfl,D,l,o⟩:=h;have E:=k.1;rw[qV F]at l o;have c:∀j,j<i->(z0.set i d).getD j zr=z0.getD j zr:=fun j A=>D8 (by omega)
 refine⟨by rw[qN];exact E,fun j A=> ?_⟩;by_cases B:j=i
 . subst B;rw[B6 (by omega)];refine⟨⟨o j fun e y=>(r e y).2,D,rfl⟩, ?_⟩;rw[l,B5q r (fun m=>rv (z0.getD m zr)),B7 (f:=fun m=>Lm j m*rv ((z0.set j d).getD m zr)) (g:=fun m=>A4 w (m:Int)*rv (z0.getD m zr)) fun m a=>by rw[c m a,x m a]];grind
 . rw[c j (by omega)];obtain⟨u,v⟩:=k.2 j (by omega);refine⟨u, ?_⟩;rw[<-v];congr 1;exact B7 fun m a=>by rw[c m (by omega)]
def BW (s Y n i:Nat) (U:Nat->Nat->Rat) (y:Nat->Rat) (z:List D3):Prop:=z.length=n/\(∀j,j<i->zok Y (y j) (z.getD j zr))/\∀j,i<=j->j<n->(∃q,z.getD j zr=rc q/\qs (hK s Y (n-1-j)+s) q)/\C6 n (fun m=>U j m*rv (z.getD m zr))=y j
def BI (s Y n i:Nat) (c:Rat) (w:List D1) (z0:List D3) (t:Nat) (z:List D3):Prop:=∃a,z=z0.set i a/\Jh a/\rv a=c-Ut (w.take t) (fun j=>rv (z0.getD j.toNat zr))/\∀m:Nat,i+1<=m->m<=n->(∀e∈w.take t,e.1<(m:Int))->∃k,1<=k/\sz k a/\k+hK s Y (n-m)<=hK s Y (n-1-i)+Y
variable {s Y n i:Nat} {c:Rat} {w:List D1} {z0 z:List D3} {U:Nat->Nat->Rat} {y:Nat->Rat}
def BI.init (g:BW s Y n (i+1) U y z0) (h:1<=Y) (c:i<n):BI s Y n i (y i) w z0 0 z0:=by
 obtain⟨c,d,f⟩:=g.2.1 i (rU _);refine⟨z0.getD i zr, ?_,d, ?_,fun m g j _=>⟨Y,h,c, ?_⟩⟩
 . refine g1i (by rw[qN]) fun j c d=> ?_
   rw[g4d];split
   . rename_i e;subst e;rw[H6 _ _ c]
   . rfl
 . rw[f];simp only[g0t,Ut];rw[tJ,wO,rN]
 . have:=Li (s:=s) (T:=Y) (a:=n-m) (b:=n-1-i) (by omega);omega
def BI.next (g:BW s Y n (i+1) U y z0) (hs:1<=s) (hY:1<=Y) (hi:i<n) (hasc:Fj w) (hw:∀e∈w,(i:Int)<e.1/\e.1<(n:Int)/\sz s e.2/\Jh e.2) {t:Int} (t0:0<=t) (t1:t<(w.length:Int)) (h:BI s Y n i c w z0 t.toNat z):
 (z.length=n/\sz (hK s Y n) (z.getD i zr)/\sz (hK s Y n+s) (z.getD (gx E4 w t).1.toNat zr))/\∀r,(rv (z.getD (gx E4 w t).1.toNat zr)=0->r=z.getD i zr)->(rv (z.getD (gx E4 w t).1.toNat zr)≠0->r=rc (rv (z.getD i zr)-rv (gx E4 w t).2*rv (z.getD (gx E4 w t).1.toNat zr)))->BI s Y n i c w z0 (t+1).toNat (z.set i r):=by
 obtain⟨u,rfl,B,G,I⟩:=h;have f:=H8 (d:=E4) t0 t1;obtain⟨k,l,v,A⟩:=hw _ f;have l:∀y∈w.take t.toNat,y.1<(gx E4 w t).1:=fun y hy=>by
  have f:(w.take (t+1).toNat).Pairwise (fun a b=>a.1<b.1):=zE hasc;rw[show(t+1).toNat=t.toNat+1 from by omega,rQ,G8 (d:=E4) t0 t1,tL]at f;exact f.2.2 y hy (gx E4 w t) (by simp)
 have H:=cF (d:=E4) t0 t1 (fun j=>rv (z0.getD j.toNat zr));have J:∀m:Nat,(∀e∈w.take (t+1).toNat,e.1<(m:Int))->(gx E4 w t).1<(m:Int):=fun m k=>k _ (by
  rw[show(t+1).toNat=t.toNat+1 from by omega,rQ,G8 (d:=E4) t0 t1];simp)
 generalize gx E4 w t=e at*;have o:e.1.toNat≠i:=by omega
 have D:=g.1;rw[D8 o,B6 (by omega)];obtain⟨⟨q,E,F⟩,_⟩:=g.2.2 e.1.toNat (by omega) (by omega);obtain⟨g,M,o,N⟩:=I e.1.toNat (by omega) (by omega) fun y hy=>by have:=l y hy;omega
 have l:zok (hK s Y (n-1-e.1.toNat)+s) (rv (z0.getD e.1.toNat zr)) (z0.getD e.1.toNat zr):=by
  rw[E,E3];exact B4m F
 have g:=Li (s:=s) (T:=Y) (a:=n-1-i) (b:=n) (by omega);have g:=Li (s:=s) (T:=Y) (a:=n-1-e.1.toNat) (b:=n) (by omega);have g:=Li (s:=s) (T:=Y) (a:=0) (b:=n-e.1.toNat) (by omega);have g:hK s Y 0=Y:=rfl;refine⟨⟨by rw[qN];exact D,F9 o (by omega),F9 l.1 (by omega)⟩,fun r E F=> ?_⟩;have g:=oK (x:=rv u) ⟨o,B,rfl⟩ A v hs l M (by omega) E F;refine⟨r,by rw[g3w],g.2.1, ?_,fun m k o l=>⟨_,by omega,g.1, ?_⟩⟩
 . rw[g.2.2,H,G];grind
 . have f:=J m l;have f:=Li (s:=s) (T:=Y) (a:=n-m) (b:=n-1-e.1.toNat) (by omega);have f:hK s Y (n-e.1.toNat)=2*hK s Y (n-1-e.1.toNat)+2*s+1:=by
    rw[show n-e.1.toNat=(n-1-e.1.toNat)+1 from by omega];rfl
   omega
def BI.done (o:BW s Y n (i+1) U y z0) (a2:1<=s) (a0:1<=Y) (a1:i<n) (g:∀e∈w,(i:Int)<e.1/\e.1<(n:Int)) (M:∀j,i<j->A4 w (j:Int)=U i j) (u:∀k m,m<k->k<n->U k m=0) (R:U i i≠0) (V:qs s (U i i)) {t:Nat} (W:w.length<=t) (h:BI s Y n i (y i) w z0 t z):
 sz (hK s Y n) (z.getD i zr)/\qs (hK s Y (n-1-i)+s) (rv (z.getD i zr)/U i i)/\BW s Y n i U y (z.set i (rc (rv (z.getD i zr)/U i i))):=by
 obtain⟨f,rfl,P,A,D⟩:=h;have Q:=o.1;rw[qV W]at A D;rw[B6 (by omega),g3w];obtain⟨k,X,E,Z⟩:=D n (by omega) (qZ _) fun e c=>(g e c).2
 rw[xM]at Z;have a3:hK s Y 0=Y:=rfl;have a4:=Li (s:=s) (T:=Y) (a:=n-1-i) (b:=n) (by omega);have x:qs (hK s Y (n-1-i)+s) (rv f/U i i):=L8 (iT (Jm P E X) V) (by omega);refine⟨F9 E (by omega),x,by rw[qN];exact Q,fun j O=> ?_,fun j O l=> ?_⟩
 . rw[D8 (by omega)];exact o.2.1 j (by omega)
 . have B:C6 n (fun m=>U j m*rv ((z0.set i (rc (rv f/U i i))).getD m zr))=C6 n (fun m=>if m=i then U j i*(rv f/U i i)else U j m*rv (z0.getD m zr)):=B7 fun m _=>by
    by_cases d:m=i
    . subst d;rw[qR rfl,B6 (by omega),E3]
    . rw[qK d,D8 d]
   by_cases v:j=i
   . subst v;refine⟨⟨_,B6 (by omega),x⟩, ?_⟩;rw[B];have I:Ut w (fun m=>rv (z0.getD m.toNat zr))=C6 n (fun m=>if m=j then 0 else U j m*rv (z0.getD m zr)):=by
      rw[A2r (n:=n) fun e c=>⟨by have:=(g e c).1;omega,(g e c).2⟩];refine B7 fun m d=> ?_
      rw[qM];rcases Nat.lt_trichotomy m j with hmj|hmj|hmj
      . rw[qK (by omega),D5 fun e c N=>by have:=(g e c).1;omega,u j m hmj l]
      . rw[qR hmj,D5 fun e c N=>by have:=(g e c).1;omega,tK]
      . rw[qK (by omega),M m hmj]
     have J:C6 n (fun m=>if m=j then U j j*(rv f/U j j)else U j m*rv (z0.getD m zr))=C6 n (fun m=>(if m=j then U j j*(rv f/U j j)else 0)+if m=j then 0 else U j m*rv (z0.getD m zr)):=B7 fun m _=>by
      split
      . rw[rN]
      . rw[tF]
     rw[J,Ha, <-I,O8 l fun m _ d=>qK d,qR rfl,A,wX,g4a,wN,g0w _ R,g2z];grind
   . obtain⟨⟨q,F,G⟩,H⟩:=o.2.2 j (by omega) l;refine⟨⟨q,by rw[D8 v];exact F,G⟩, ?_⟩;rw[B, <-H];refine B7 fun m d=> ?_
     by_cases r:m=i
     . rw[qR r,r,u j i (by omega) l,tK,tK]
     . rw[qK r]
def C1l {T n:Nat} {L U:Nat->Nat->Rat} {b:Nat->Rat} {v:Nat->Rat} {y:Nat->Rat} (d:∀j,j<n->y j+C6 j (fun m=>L j m*y m)=b j) (f:∀j,j<n->C6 n (fun m=>U j m*v m)=y j) (h:∀i,i<n->L i i=1) (l:∀i j,i<j->j<n->L i j=0) {i:Nat} (a:i<n):
 C6 n (fun j=>C6 n (fun k=>L i k*U k j)*v j)=b i:=by
 have c:C6 n (fun j=>C6 n (fun k=>L i k*U k j)*v j)=C6 n fun k=>L i k*y k:=by
  rw[B7 (g:=fun j=>C6 n fun k=>L i k*(U k j*v j)) fun j _=>by rw[<-OX];exact B7 fun k _=>wN _ _ _,Ly];exact B7 fun k o=>by rw[Jn,f k o]
 rw[c, <-d i a];have c:∀t,i+1+t<=n->C6 (i+1+t) (fun k=>L i k*y k)=y i+C6 i (fun m=>L i m*y m):=by
  intro t
  induction t with
  |zero=>intro _;rw[tB,C6,h i a,xV,g3z]
  |succ t a=>intro d;rw[<-uH,C6,a (by omega),l i (i+1+t) (by omega) (by omega),tK,rN]
 have:=c (n-(i+1)) (by omega);rwa[show i+1+(n-(i+1))=n from by omega]at this
def BL (x:A2 Aa.args) (_:awf Aa.args x) (f:Aa.pre x):Ph x:=by
 obtain⟨⟨P,Q,⟨g,lc,L⟩,⟨i,h,U⟩⟩,b,_⟩:=x;obtain⟨d,a,c⟩:=f;simp only[Ph,iB,Ql];refine⟨⟨qD _,Int.ofNat_le.2 d,a,c⟩, ?_⟩;rintro⟨r,_⟩ _ a;change Bool at r;simp only at a⊢;cases r with
 |false=>
  have c:¬Cu (P,Q,(g,lc,L),(i,h,U)) (P.length:Int):=fun h=>by have:=a.2 h;cases this
  exact⟨fun _=>⟨fun _=>by trivial,fun h=>absurd h c⟩,fun h=>(by cases h)⟩
 |true=>
  have h:=a.1 rfl;refine⟨fun h=>(by cases h),fun _=>⟨fun hne=>⟨fun h2=>absurd h h2,fun _=>⟨fun _=>by trivial,fun he=>absurd (tS Int.ofNat he) (qA hne)⟩⟩,fun heq=>⟨fun h2=>absurd h h2,fun _=>⟨fun hne=>absurd (g1e (qU (qB heq))) hne,fun _=>by trivial⟩⟩⟩⟩
def TN {p:List Int} {n:Nat} (h:L9 p (n:Int)):p.length=n/\(∀a,a<n->p.getD a 0=(ix p a:Int)/\ix p a<n)/\∀a b,a<n->b<n->ix p a=ix p b->a=b:=by
 obtain⟨c,g,i⟩:=h;have k:p.length=n:=by omega
 have c:∀a,a<n->p.getD a 0=(ix p a:Int)/\ix p a<n:=fun a f=>by
  have:=g _ (C8 (d:=0) (show a<p.length by omega));unfold ix;omega
 refine⟨k,c,fun a b f j e=> ?_⟩;have g:=(c a f).1;have f:=(c b j).1;rw[<-e]at f;have c:p.getD a 0=p.getD b 0:=g.trans f.symm;rw[H6 _ _ (by omega),H6 _ _ (by omega)]at c;exact(wK i).1 c
def C0q {v:List D1} {n:Int} (h:F7 v n) {i:Nat} (c:(i:Int)<n) (a:∀j:Nat,(j:Int)<n->i<j->A4 v (j:Int)=0) (b:A4 v (i:Int)=1):v≠ []/\Fj (v.take (v.length-1))/\(∀e∈v.take (v.length-1),e∈v/\0<=e.1/\e.1<(i:Int))/\∀j:Nat,j<i->A4 (v.take (v.length-1)) (j:Int)=A4 v (j:Int):=by
 obtain⟨f,g,k⟩:=(A3i h c).2 ⟨a,b⟩;have a:0<v.length:=vB.2 f;have c:v=v.take (v.length-1)++ [gx E4 v ((v.length:Int)-1)]:=by
  have:=Iy (d:=E4) (l:=v) (t:=(v.length:Int)-1) (by omega) (by omega);rw[show((v.length:Int)-1+1).toNat=v.length from by omega,uS,show((v.length:Int)-1).toNat=v.length-1 from by omega]at this;exact this
 generalize gx E4 v ((v.length:Int)-1)=l at*;have b:=h.1;generalize k:v.take (v.length-1)=w at*;have g:∀e∈w,e.1<(i:Int):=fun e a=>by
  rw[c]at b;have:=(tL.1 b).2.2 e a l (qP.2 rfl);omega
 refine⟨f,k▸zE b,fun e a=> ?_,fun j b=> ?_⟩
 . have b:e∈v:=by rw[c];exact sJ _ a
   exact⟨b,(h.2 e b).1,g e a⟩
 . rw[c,N0];have:A4 [l] (j:Int)=0:=D5 fun e a hej=>by
    rw[qP]at a;subst a;omega
   rw[this,rN]
def C5n {v:List D1} {n:Int} (h:F7 v n) {i:Nat} (a:∀j:Nat,j<i->A4 v (j:Int)=0) (c:A4 v (i:Int)≠0):1<=v.length/\gx E4 v 0∈v/\rv (gx E4 v 0).2=A4 v (i:Int)/\Fj (v.drop 1)/\(∀e∈v.drop 1,e∈v/\(i:Int)<e.1/\e.1<n)/\∀j:Nat,i<j->A4 (v.drop 1) (j:Int)=A4 v (j:Int):=by
 obtain⟨d,b⟩:=(B4e h).2 ⟨a,c⟩;cases v with
 |nil=>exact absurd rfl d
 |cons e r=>
  have a:gx E4 (e::r) 0=e:=rfl;rw[a]at b⊢;obtain⟨c,d⟩:=I4.1 h.1;refine⟨by rw[rJ];omega,rA, ?_,d,fun x a=>⟨qJ _ a, ?_,(h.2 x (qJ _ a)).2.1⟩,fun j d=> ?_⟩
  . rw[<-b,M8 h.1]
  . have:=c x a;omega
  . exact(Bu (by omega)).symm
def fwI (P:List Int) (ML MU:U9) (b:List D3) (p:Int×List D3×Unit):Prop:=0<=p.1/\p.1<=(P.length:Int)/\∀s T,1<=s->1<=T->X5 s ML->X5 s MU->GN T b->FW s T P.length p.1.toNat (el ML) (fun i=>rv (b.getD (ix P i) zr)) p.2.1
def fiI (i:Nat) (c:Rat) (w:List D1) (ML MU:U9) (b z0:List D3) (p:Int×List D3×Unit):Prop:=0<=p.1/\p.1<=(w.length:Int)/\∀s T,1<=s->1<=T->X5 s ML->X5 s MU->GN T b->FI s T i c w z0 p.1.toNat p.2.1
def bwI (n:Nat) (Q:List Int) (ML MU:U9) (b:List D3) (y:Nat->Rat) (p:Int×List D3×List D3×Unit):Prop:=0<=p.1/\p.1<=(n:Int)/\(∀s T,1<=s->1<=T->X5 s ML->X5 s MU->GN T b->BW s (gK s T n) n (n-p.1.toNat) (el MU) y p.2.1)/\p.2.2.1.length=n/\∀j,n-p.1.toNat<=j->j<n->p.2.2.1.getD (ix Q j) zr=p.2.1.getD j zr
def biI (n i:Nat) (c:Rat) (w:List D1) (ML MU:U9) (b z0:List D3) (p:Int×List D3×Unit):Prop:=0<=p.1/\p.1<=(w.length:Int)/\∀s T,1<=s->1<=T->X5 s ML->X5 s MU->GN T b->BI s (gK s T n) n i c w z0 p.1.toNat p.2.1
def B7n {T:Nat} {b:List D3} (h:GN T b) {i:Nat} (a:i<b.length):sz T (b.getD i zr):=h _ (C8 a)
def IT (x:A2 Z9.args) (b5:awf Z9.args x) (cp:Z9.pre x):Xe x:=by
 obtain⟨⟨P,Q,⟨b7,lc,L⟩,⟨bd,av,U⟩⟩,b,_⟩:=x;change List Int at P Q;change List (List D1)at L U;change List D3 at b;change Int at b7 lc bd av;have cj:aJ (b7,lc,L):=Vd b5.1.2.2.1.2.2.2;have ck:aJ (bd,av,U):=Vd b5.1.2.2.2.2.2.2;have cm:∀x∈b,Jh x:=fun x hx=>Jb (b5.2.1.2 x hx)
 obtain⟨b1,cg,ch,ce⟩:=cp;simp only[Xe,iB,Cp,I2];refine⟨⟨b1,cg,ch⟩, ?_⟩;rintro⟨E,_⟩ _ aa;change Int at E;simp only at aa⊢;by_cases O:Cu (P,Q,(b7,lc,L),(bd,av,U)) (P.length:Int)
 case neg=>
  have ah:E=1:=aa.1 O;subst ah;exact⟨fun _=>⟨fun _=>⟨by trivial,by trivial⟩,fun A=>absurd A O⟩,fun A=>absurd A (by simp)⟩
 by_cases Z:b.length=P.length
 case neg=>
  have ah:E=4:=(aa.2 O).1 Z;subst ah;exact⟨fun _=>⟨fun A=>absurd O A,fun _=>⟨fun _=>⟨by trivial,by trivial⟩,fun A=>absurd A Z⟩⟩,fun A=>absurd A (by simp)⟩
 have ah:E=0:=(aa.2 O).2 Z;subst ah;refine⟨fun A=>absurd A (by simp),fun _=> ?_⟩;obtain⟨f,T0,a2,X,a3,R,ai,bl⟩:=ce O Z;obtain⟨bn,bo,⟨bx,ar,bs⟩,⟨bz,au,bt⟩,a4⟩:=id O;simp only at bn bo bx ar bz au;obtain⟨_,bi,d5⟩:=TN bn;obtain⟨cz,bj,bw⟩:=TN bo;subst bx bz;have ar:lc=(P.length:Int):=ar;have au:av=(P.length:Int):=au;subst ar au;have b1:P.length<=16384:=b1;have bl:hK f (gK f T0 P.length) P.length+f<=K1:=bl;have Z:b.length=P.length:=Z;have c7:L.length=P.length:=g1e bs.2.2.2.2.1;have ca:U.length=P.length:=g1e bt.2.2.2.2.1;have c9:∀i,i<P.length->F7 (L.getD i []) (P.length:Int)/\AF (L.getD i []):=fun i D=>by
  have a0:=C8 (d:=([]:List D1)) (show i<L.length by omega);exact⟨bs.2.2.2.2.2 _ a0,cj _ a0⟩
 have cb:∀i,i<P.length->F7 (U.getD i []) (P.length:Int)/\AF (U.getD i []):=fun i D=>by
  have a0:=C8 (d:=([]:List D1)) (show i<U.length by omega);exact⟨bt.2.2.2.2.2 _ a0,ck _ a0⟩
 have cc:∀i,i<P.length->ix P i<b.length/\Jh (b.getD (ix P i) zr):=fun i D=>by
  have:=(bi i D).2;exact⟨by omega,cm _ (C8 (by omega))⟩
 have d7:hK f (gK f T0 P.length) 0<=hK f (gK f T0 P.length) P.length:=Li (rM _);have d6:hK f (gK f T0 P.length) 0=gK f T0 P.length:=rfl;have d8:T0<=gK f T0 P.length:=Ja (a:=0) (rM _);refine⟨⟨qD _,qI _,by omega,by omega⟩,fwI P (↑P.length, ↑P.length,L) (↑P.length, ↑P.length,U) b,fun p=>((P.length:Int)-p.1).toNat,⟨qI _,qD _,fun s T _ _ _ _ _=>⟨rF,fun j c=>absurd c (uZ j)⟩⟩, ?_⟩;rintro⟨i,z,_⟩ _ ⟨V,cw,a7⟩;change Int at i;change List D3 at z;simp only at V cw a7⊢;have an:=a7 f T0 a2 X a3 R ai;refine⟨fun D=> ?_,fun D=> ?_⟩
 . have D:=qA D;have M:i.toNat<P.length:=by omega
   obtain⟨c5,d2⟩:=bi _ M;obtain⟨ay,cd⟩:=cc _ M;rw[G7 (d:=(0:Int)) V D,VQ V (show i<(L.length:Int)by omega),c5];obtain⟨ab,aq⟩:=c9 _ M;obtain⟨co,Y,F,b6⟩:=C0q ab (i:=i.toNat) (by omega) (fun j c hij=>(a4 i.toNat j (sO.2 M) c).1 hij) (a4 i.toNat i.toNat (sO.2 M) (sO.2 M)).2.1;have cn:0<(L.getD i.toNat []).length:=vB.2 co;have d4:=Gg ab;have c8:∀s,X5 s ((P.length:Int),(P.length:Int),L)->∀e∈L.getD i.toNat [],sz s e.2:=fun s hh=>hh _ (C8 (l:=L) (show i.toNat<L.length by omega))
   have a9:∀j:Nat,el ((P.length:Int),(P.length:Int),L) i.toNat j=A4 (L.getD i.toNat []) (j:Int):=fun _=>rfl
   generalize L.getD i.toNat []=v at*;rw[wv (by omega),show((v.length:Int)-1).toNat=v.length-1 from by omega];simp only[show Int.toNat 0=0 from rfl,tW];generalize v.take (v.length-1)=w at*;have a5:∀s,X5 s ((P.length:Int),(P.length:Int),L)->∀e∈w,0<=e.1/\e.1<(i.toNat:Int)/\sz s e.2/\Jh e.2:=fun s hh e o=>by
    obtain⟨bh,c3,c4⟩:=F e o;exact⟨c3,c4,c8 s hh e bh,aq e bh⟩
   have ct:w.length<=16384:=by
    have:=Gg (n:=(i.toNat:Int)) (v:=w) ⟨Y,fun e o=>⟨(F e o).2.1,(F e o).2.2,(ab.2 e (F e o).1).2.2⟩⟩;omega
   refine⟨⟨V,D⟩,⟨qD _,sO.2 ay⟩,⟨V,by rw[an.1];exact D⟩,⟨V,by rw[c7];exact D⟩,⟨qI _,by omega,by omega⟩,fiI i.toNat (rv (b.getD (ix P i.toNat) zr)) w (↑P.length, ↑P.length,L) (↑P.length, ↑P.length,U) b z,fun p=>((w.length:Int)-p.1).toNat,⟨qI _,qD _,fun s T g h t r u=> ?_⟩, ?_⟩
   . show FI s T i.toNat (rv (b.getD (ix P i.toNat) zr)) w z 0 (z.set i.toNat (gx dQ b ↑(ix P i.toNat)));rw[G7 (d:=dQ) (qD _) (sO.2 ay),qM];exact FI.init ⟨B7n u ay,cd,rfl⟩
   rintro⟨am,y,_⟩ _ ⟨G,bc,J⟩;change Int at am;change List D3 at y;simp only at G bc J⊢;have af:=J f T0 a2 X a3 R ai;refine⟨fun B=> ?_,fun B=> ?_⟩
   . have B:=qA B;obtain⟨⟨ad,b8,b9⟩,_⟩:=FI.next an X a2 M Y (a5 f a3) G B af
     have az:=H8 (d:=E4) G B;obtain⟨bf,bg,aw,c2⟩:=a5 f a3 _ az;have d3:gK f T0 i.toNat<=gK f T0 P.length:=Ja (by omega);rw[wv (by omega)];refine⟨⟨G,B⟩,⟨V,by rw[ad];exact D⟩,⟨bf,by rw[ad];omega⟩,⟨F9 b8 (by omega),F9 aw (by omega),F9 b9 (by omega)⟩, ?_⟩;rintro⟨E,_⟩ _ ⟨ba,bb⟩;change D3 at E;exact⟨⟨V,by rw[ad];exact D⟩,⟨by simp only;omega,by simp only;omega,fun s T g h t r u=>(FI.next (a7 s T g h t r u) h g M Y (a5 s t) G B (J s T g h t r u)).2 E ba bb⟩,by omega⟩
   . have B:=qB B;rw[wv (by omega)];refine⟨⟨by simp only;omega,by simp only;omega,fun s T g h t r u=> ?_⟩,by omega⟩;simp only;rw[show(i+1).toNat=i.toNat+1 from by omega];exact FI.done (a7 s T g h t r u) M (fun e o=>⟨(F e o).2.1,(F e o).2.2⟩) (fun j c=>(b6 j c).trans (a9 j).symm) (show w.length<=am.toNat by omega) (J s T g h t r u)
 have D:=qB D;have cf:i.toNat=P.length:=by omega
 rw[cf]at a7 an;refine⟨⟨qD _,qI _,by omega,by omega⟩,bwI P.length Q (↑P.length, ↑P.length,L) (↑P.length, ↑P.length,U) b (fun j=>rv (z.getD j zr)),fun p=>((P.length:Int)-p.1).toNat,⟨qI _,qD _,fun s T g h t r u=> ?_,rF,fun j H W=> ?_⟩, ?_⟩
 . have A:=a7 s T g h t r u;exact⟨A.1,fun j c=>oL (A.2 j c).1 (Ja (show j<=P.length from wB c)),fun j H W=>absurd W (Nat.not_lt.2 H)⟩
 . simp only[Int.toNat_zero,g1y]at H;omega
 rintro⟨k,ae,be,_⟩ _ ⟨cx,cy,N,aj,ak⟩;change Int at k;change List D3 at ae be;simp only at cx cy N aj ak⊢;have a6:=N f T0 a2 X a3 R ai;refine⟨fun ag=> ?_,fun ag=> ?_⟩
 . have ag:=qA ag;obtain⟨q,I,cq,cr,bp⟩:∃q:Nat,q<P.length/\(P.length:Int)-1-k=(q:Int)/\P.length-k.toNat=q+1/\P.length-(k+1).toNat=q:=⟨P.length-1-k.toNat,by omega,by omega,by omega,by omega⟩;have cu:i64.wrap (i64.wrap ((P.length:Int)-1)-k)=(q:Int):=by
    rw[wv (a:=(P.length:Int)-1) (by omega),wv (by omega)];exact cq
   rw[cr]at N a6 ak;obtain⟨c6,bk⟩:=bj q I;have a1:(q:Int)<(P.length:Int):=sO.2 I;obtain⟨ab,aq⟩:=cb q I;have ax:∀s,X5 s ((P.length:Int),(P.length:Int),U)->∀e∈U.getD q [],sz s e.2:=fun s hh=>hh _ (C8 (l:=U) (show q<U.length by omega))
   have a9:∀j:Nat,el ((P.length:Int),(P.length:Int),U) q j=A4 (U.getD q []) (j:Int):=fun _=>rfl
   have b2:A4 (U.getD q []) (q:Int)≠0:=(a4 q q a1 a1).2.2.2;obtain⟨cn,b0,b4,Y,F,b6⟩:=C5n ab (i:=q) (fun j c=>(a4 q j a1 (by omega)).2.2.1 c) b2;simp only[cu];rw[VQ (qD q) (show(q:Int)<(U.length:Int)by omega),G7 (d:=(0:Int)) (qD q) (show(q:Int)<(Q.length:Int)by omega)];simp only[qM,uS,show Int.toNat 1=1 from rfl];rw[c6];simp only[qM];generalize U.getD q []=v at*;generalize v.drop 1=w at*;have a5:∀s,X5 s ((P.length:Int),(P.length:Int),U)->∀e∈w,(q:Int)<e.1/\e.1<(P.length:Int)/\sz s e.2/\Jh e.2:=fun s hh e o=>by
    obtain⟨bh,c3,c4⟩:=F e o;exact⟨c3,c4,ax s hh e bh,aq e bh⟩
   have ct:w.length<=16384:=by
    have:=Gg (n:=(P.length:Int)) (v:=w) ⟨Y,fun e o=>⟨by have:=(F e o).2.1;omega,(F e o).2.2,(ab.2 e (F e o).1).2.2⟩⟩;omega
   have cl:(q:Int)<(U.length:Int):=by rw[ca];exact a1
   have ao:∀s T,1<=T->1<=gK s T P.length:=fun s T A=>qX A (Ja (a:=0) (rM _))
   refine⟨⟨qD _,cl⟩,⟨by decide,by omega,qI _⟩,biI P.length q (rv (z.getD q zr)) w (↑P.length, ↑P.length,L) (↑P.length, ↑P.length,U) b ae,fun p=>((w.length:Int)-p.1).toNat,⟨qI _,qD _,fun s T g h t r u=>BI.init (N s T g h t r u) (ao s T h) I⟩, ?_⟩;rintro⟨am,y,_⟩ _ ⟨G,bc,J⟩;change Int at am;change List D3 at y;simp only at G bc J⊢;have af:=J f T0 a2 X a3 R ai;refine⟨fun B=> ?_,fun B=> ?_⟩
   . have B:=qA B;obtain⟨⟨ad,b8,b9⟩,_⟩:=BI.next a6 a2 (ao f T0 X) I Y (a5 f R) G B af
     have az:=H8 (d:=E4) G B;obtain⟨bf,bg,aw,c2⟩:=a5 f R _ az;have ac:(q:Int)<(y.length:Int):=by rw[ad];exact a1
     rw[wv (by omega)];refine⟨⟨G,B⟩,⟨qD _,ac⟩,⟨by omega,by rw[ad];exact bg⟩,⟨F9 b8 (by omega),F9 aw (by omega),F9 b9 (by omega)⟩, ?_⟩;rintro⟨E,_⟩ _ ⟨ba,bb⟩;change D3 at E;exact⟨⟨qD _,ac⟩,⟨by simp only;omega,by simp only;omega,fun s T g h t r u=>(BI.next (N s T g h t r u) g (ao s T h) I Y (a5 s r) G B (J s T g h t r u)).2 E ba bb⟩,by omega⟩
   have B:=qB B;have bm:∀s T,1<=s->1<=T->X5 s ((P.length:Int),(P.length:Int),L)->X5 s ((P.length:Int),(P.length:Int),U)->GN T b-> _:=fun s T g h t r u=>BI.done (N s T g h t r u) g (ao s T h) I (fun e o=>(F e o).2) (fun j c=>(b6 j c).trans (a9 j).symm) (fun a m a0 a8=>(a4 a m (sO.2 a8) (by omega)).2.2.1 a0) (by rw[a9];exact b2) (by rw[a9, <-b4];exact Jm (aq _ b0) (ax s r _ b0) g) (show w.length<=am.toNat by omega) (J s T g h t r u)
   obtain⟨c0,d0,d1⟩:=bm f T0 a2 X a3 R ai;have ac:y.length=P.length:=by
    obtain⟨bh,rfl,_⟩:=af;rw[qN];exact a6.1
   have cv:∀j,j≠q->y.getD j zr=ae.getD j zr:=fun j c=>by
    obtain⟨bh,rfl,_⟩:=af;exact D8 c
   have b3:(q:Int)<(y.length:Int):=by rw[ac];exact a1
   refine⟨⟨qD _,b3⟩,⟨by decide,by omega⟩,⟨X8 (k:=K1) (F9 c0 (by omega)) (by decide),X8 (ax f R _ b0) (qX (show f<=K1 by omega) (by decide))⟩, ?_⟩;rintro⟨E,d9,_⟩ _ ⟨_,bq⟩;change D3 at E;simp only at bq⊢;have aa:E=rc (rv (y.getD q zr)/el ((P.length:Int),(P.length:Int),U) q q):=by
    rw[a9, <-b4];exact(bq (by rw[b4];exact b2)).1
   rw[show(List.set y q E).getD q dQ=E from B6 (by rw[ac];exact I),wv (by omega)];refine⟨⟨qD _,b3⟩,⟨qD _,by rw[cz];exact a1⟩,⟨qD _,by rw[qN];exact b3⟩,⟨qD _,by rw[aj];exact sO.2 bk⟩,⟨by simp only;omega,by simp only;omega,fun s T g h t r u=> ?_,by simp only;rw[qN];exact aj,fun j H W=> ?_⟩,by omega⟩
   . simp only;rw[bp,aa];exact(bm s T g h t r u).2.2
   . simp only at H⊢;rw[bp]at H;by_cases ap:j=q
     . subst ap;rw[B6 (by rw[aj];exact bk),B6 (by rw[ac];exact I)]
     . rw[D8 fun e=>ap (bw j q W I e),D8 ap,cv j ap];exact ak j (by omega) W
 have ag:=qB ag;have ci:P.length-k.toNat=0:=by omega
 rw[ci]at N a6 ak;have bv:∀j,j<P.length->be.getD (ix Q j) zr=ae.getD j zr:=fun j c=>ak j (rM _) c
 have bu:∀e∈be,∃j,j<P.length/\e=ae.getD j zr:=fun e o=>by
  obtain⟨a,a8,rfl⟩:=Z7 zr o;obtain⟨j,c,bh⟩:=Gk (fun a a8=>(bj a a8).2) bw (show a<P.length by omega);exact⟨j,c,by rw[<-bh];exact bv j c⟩
 refine⟨fun A=>absurd O A,fun _=>⟨fun A=>absurd Z A,fun _=>⟨by trivial,aj,fun e o=> ?_,fun s T g h t r u e o=> ?_,fun a a8=> ?_⟩⟩⟩
 . obtain⟨j,c,rfl⟩:=bu e o;obtain⟨⟨x,H,_⟩,_⟩:=a6.2.2 j (rM _) c;rw[H,E3]
 . obtain⟨j,c,rfl⟩:=bu e o;obtain⟨⟨x,H,W⟩,_⟩:=(N s T g h t r u).2.2 j (rM _) c;rw[H];have:=Li (s:=s) (T:=gK s T P.length) (a:=P.length-1-j) (b:=P.length) (by omega);exact GO (L8 W (by omega))
 . have cs:=C1l (T:=T0) (L:=el ((P.length:Int),(P.length:Int),L)) (U:=el ((P.length:Int),(P.length:Int),U)) (v:=fun j=>rv (ae.getD j zr)) (fun j c=>(an.2 j c).2) (fun j c=>(a6.2.2 j (rM _) c).2) (fun i D=>(a4 i i (sO.2 D) (sO.2 D)).2.1) (fun i j hij c=>(a4 i j (by omega) (sO.2 c)).1 hij) a8;refine Eq.trans (B7 fun j c=> ?_) cs;rw[bv j c];rfl
def JZ:An:= {loop:= [(4,⟨[0,13,14],[],[(15,false,vI)],[],[]⟩)]}
def Zj:An:= {loop:= [(3,⟨[3,8],[],[(9,false,vI)],[],[(0, .row (.int .i64) 3)]⟩)]}
def EZ:An:= {loop:= [(6,⟨[0,7,20,21],[],[(22,false,vI)],[],[(0, .row (.int .i64) 3)]⟩),(12,⟨[7,10,33],[],[(34,false,vI)],[],[(0, .row (.int .i64) 3),(1, .row (.int .i64) 3)]⟩)]}
def Yc:An:= {plan:= [(1,[2],[3,7],false,(.p 0 (.p 1 (.q 2 (.p 4 (.p 5 (.or 3 (.e 6 (.e 7 (.p 8 (.p 9 .done)))) (.e 6 (.e 3 (.e 7 (.p 8 (.p 9 .done))))))))))))]}
def Ul:An:= {loop:= [(1,⟨[0],[],[(1,false,vI)],[],[(0, .row (.int .i64) 3)]⟩)]}
abbrev C4r:=Int×List (Int×Int)×Unit
def Pw:A2 Am.args->Prop:=fun(x:C4r)=>let i:=(decide (16384<x.1));let h:=(1:Int);let e:=(↑(2:Nat):Int);let d:=(x.2.1.length:Int);let b:=(0:Int);(iB (I6 (decide (x.1<b)) true i) ((3:Int)=Rw x.1 x.2.1) (∃(I:C7->Prop),∃(k: _->Nat),I (b,())/\∀(p:C7),let f:=(i64.wrap (p.1+h),());let a:=(gx (b,b) x.2.1 p.1);let l:=(decide (x.1<=a.2));let j:=(decide (x.1<=a.1));let g:=(decide (a.2<b));let c:=(I6 (decide (a.1<b)) true j);(Ty.int i64).wf p.1/\True->I p->(iB (decide (p.1<d)) ((b<=p.1/\p.1<d)/\(b<=b/\b<e)/\(decide (a.1<b)=false->b<=b/\b<e)/\(I6 (decide (a.1<b)) true j=false->b<=h/\h<e)/\(I6 c true g=false->b<=h/\h<e)/\(iB (I6 (I6 c true g) true l) ((12:Int)=Rw x.1 x.2.1) (I f/\k f<k p))) (b=Rw x.1 x.2.1))))
def Kb:A2 R3.args->Prop:=fun(x:C7)=>let c:=(0:Int);(c<=x.1/\x.1<=x.1/\(↑(8:Nat):Int)*x.1<=281474976710656/\x.1<=9223372036854775807)/\∃(I:PE->Prop),∃(d: _->Nat),I (c,List.replicate x.1.toNat c,())/\∀(p:PE),let b:Prop:=(p.1<(↑(List.replicate x.1.toNat c).length:Int));let a:=(i64.wrap (p.1+1),List.set p.2.1 p.1.toNat p.1,());(Ty.int i64).wf p.1/\TW p.2.1/\True->I p->(iB (decide b) ((c<=p.1/\p.1<(p.2.1.length:Int))/\I a/\d a<d p) (p.2.1=pZ x.1))
def Lc:A2 U6.args->Prop:=fun(x:C4r)=>let d:=(x.2.1.length:Int);let b:=(0:Int);True/\Cp fun r=>r.1=Rw x.1 x.2.1->(iB (decide (r.1≠b)) ((Cl Int=if Rw x.1 x.2.1=b then Ar x.1 x.2.1 else [])/\r.1=Rw x.1 x.2.1) ((b<=x.1/\x.1<=16384)/\∀(j:Lr),TW j.1/\True->j.1=pZ x.1->∃(I:PE->Prop),∃(μ: _->Nat),I (b,j)/\∀(p:PE),let g:=(p.2.1.length:Int);let a:=(gx (b,b) x.2.1 p.1);(Ty.int i64).wf p.1/\TW p.2.1/\True->I p->(iB (decide (p.1<d)) ((b<=p.1/\p.1<d)/\(UF p.2.1/\aI g a/\List.length p.2.1<=16384)/\∀(k:V2) (o:Lr),let f:=(i64.wrap (p.1+1),o);True/\True->(Ty.int i64).sl.wf o.1/\True->k.1=decide (root p.2.1 a.1≠root p.2.1 a.2)->(UF o.1/\o.1.length=List.length p.2.1/\∀(i:Int),b<=i->i<g->root o.1 i=if root p.2.1 i=Max.max (root p.2.1 a.1) (root p.2.1 a.2)then Min.min (root p.2.1 a.1) (root p.2.1 a.2)else root p.2.1 i)->I f/\μ f<μ p) ((b<=x.1/\x.1<=x.1/\(↑(8:Nat):Int)*x.1<=281474976710656/\x.1<=9223372036854775807)/\∃(I:B7u->Prop),∃(μ: _->Nat),I (b,p.2.1,List.replicate x.1.toNat b,())/\∀(p:B7u),let h:=(p.2.1.length:Int);let e:Prop:=(p.1<(↑(List.replicate x.1.toNat b).length:Int));(Ty.int i64).wf p.1/\TW p.2.1/\TW p.2.2.1/\True->I p->(iB (decide e) ((UF p.2.1/\b<=p.1/\p.1<h/\List.length p.2.1<=16384)/\∀(r:C7) (o:Lr),let c:=(i64.wrap (p.1+1),o.1,List.set p.2.2.1 p.1.toNat r.1,());K9 r.1/\True->(Ty.int i64).sl.wf o.1/\True->r.1=root p.2.1 p.1->(UF o.1/\o.1.length=List.length p.2.1/\∀(i:Int),b<=i->i<h->root o.1 i=root p.2.1 i)->(b<=p.1/\p.1<(p.2.2.1.length:Int))/\I c/\μ c<μ p) ((p.2.2.1=if Rw x.1 x.2.1=b then Ar x.1 x.2.1 else [])/\b=Rw x.1 x.2.1))))))
def q0 (x:List Int×(Int×Int)×Unit) (r:C7) (j:C7) (k:Lr) (i:Int):Prop:=root (k.1.set (Max.max r.1 j.1).toNat (Min.min r.1 j.1)) i=if root x.1 i=Max.max (root x.1 x.2.1.1) (root x.1 x.2.1.2)then Min.min (root x.1 x.2.1.1) (root x.1 x.2.1.2)else root x.1 i
def Ig:A2 P7.args->Prop:=fun(x:List Int×(Int×Int)×Unit)=>let g:=(↑x.1.length:Int);let e:=(16384:Nat);let d:Prop:=(root x.1 x.2.1.1≠root x.1 x.2.1.2);let c:=(x.1.length:Int);let b:=(0:Int);let a:Prop:=(UF x.1/\b<=x.2.1.1/\x.2.1.1<c/\List.length x.1<=e);(b<=b/\b<(↑(2:Nat):Int))/\(b<=(1:Int)/\(1:Int)<(↑(2:Nat):Int))/\(a/\∀(r:C7) (o:Lr),let f:=(↑o.1.length:Int);K9 r.1/\True->(Ty.int i64).sl.wf o.1/\True->r.1=root x.1 x.2.1.1->(UF o.1/\o.1.length=List.length x.1/\∀(i:Int),b<=i->i<c->root o.1 i=root x.1 i)->(UF o.1/\b<=x.2.1.2/\x.2.1.2<f/\o.1.length<=e)/\∀(j:C7) (k:Lr),K9 j.1/\True->(Ty.int i64).sl.wf k.1/\True->j.1=root o.1 x.2.1.2->(UF k.1/\k.1.length=o.1.length/\∀(i:Int),b<=i->i<f->root k.1 i=root o.1 i)->(b<=Max.max r.1 j.1/\Max.max r.1 j.1<(↑k.1.length:Int))/\decide (r.1≠j.1)=decide d/\UF (k.1.set (Max.max r.1 j.1).toNat (Min.min r.1 j.1))/\(k.1.set (Max.max r.1 j.1).toNat (Min.min r.1 j.1)).length=x.1.length/\∀(i:Int),b<=i->i<g->q0 x r j k i)/\a/\∀(r:C7) (o:Lr),let h:=(↑o.1.length:Int);K9 r.1/\True->(Ty.int i64).sl.wf o.1/\True->r.1=root x.1 x.2.1.1->(UF o.1/\o.1.length=List.length x.1/\∀(i:Int),b<=i->i<c->root o.1 i=root x.1 i)->(UF o.1/\b<=x.2.1.2/\x.2.1.2<h/\o.1.length<=e)/\∀(j:C7) (k:Lr),K9 j.1/\True->(Ty.int i64).sl.wf k.1/\True->j.1=root o.1 x.2.1.2->(UF k.1/\k.1.length=o.1.length/\∀(i:Int),b<=i->i<h->root k.1 i=root o.1 i)->(b<=Max.max r.1 j.1/\Max.max r.1 j.1<(↑k.1.length:Int))/\decide (r.1≠j.1)=decide d/\UF (k.1.set (Max.max r.1 j.1).toNat (Min.min r.1 j.1))/\(k.1.set (Max.max r.1 j.1).toNat (Min.min r.1 j.1)).length=x.1.length/\∀(i:Int),b<=i->i<g->q0 x r j k i
def Hn:A2 N8.args->Prop:=fun(x:YJ)=>let d:=(0:Int);∃(I:PE->Prop),∃(g: _->Nat),I (x.2.1,x.1,())/\∀(p:PE),let f:=(p.2.1.length:Int);let c:Prop:=(d<=p.1/\p.1<f);let b:=p.1.toNat;let j:Prop:=(List.getD p.2.1 b d≠p.1);let a:=(List.getD p.2.1 (List.getD p.2.1 b d).toNat d);let h:=(List.set p.2.1 b a);let e:=(h.getD b d,List.set p.2.1 b a,());(Ty.int i64).wf p.1/\TW p.2.1/\True->I p->c/\(iB (decide j) (c/\(d<=List.getD p.2.1 b d/\List.getD p.2.1 b d<f)/\c/\(d<=p.1/\p.1<(↑h.length:Int))/\I e/\g e<g p) (p.1=root x.1 x.2.1/\UF p.2.1/\List.length p.2.1=x.1.length/\∀(i:Int),d<=i->i<(↑x.1.length:Int)->root p.2.1 i=root x.1 i))
def CQ (x:A2 Am.args) (b:awf Am.args x) (_:Am.pre x):Pw x:=by
 obtain⟨n,a,_⟩:=x;have c:a.length<=9223372036854775807:=b.2.1.1;change Int at n;simp only[Pw,iB,G6,uA,rI,rV,rK];refine⟨fun h=>by rw[Rw,qR h],fun h=> ?_⟩;refine⟨fun p=>0<=p.1/\p.1<=(a.length:Int)/\∀l∈a.take p.1.toNat,aI n l,fun p=>((a.length:Int)-p.1).toNat,⟨by omega,by omega,by simp⟩, ?_⟩;rintro⟨i,_⟩ _ ⟨a,c,b⟩;change Int at i;simp only at a c b⊢;refine⟨fun c=>⟨⟨a,c⟩,by omega,fun _=>by omega,fun _=>by omega,fun _=>by omega,fun f=> ?_,fun f=> ?_⟩,fun c=> ?_⟩
 . rw[Rw,qK (by omega),qK];intro f;have:=f _ (H8 (d:=((0:Int),(0:Int))) a c);unfold aI at this;omega
 . rw[wv (by omega)];refine⟨⟨by omega,by omega,Fs (d:=((0:Int),(0:Int))) a c b ?_⟩,by omega⟩;unfold aI;omega
 . rw[D7 (by omega)]at b;rw[Rw,qK (by omega),qR b]
def Ub (x:A2 R3.args) (b:awf R3.args x) (a:R3.pre x):Kb x:=by
 obtain⟨n,_⟩:=x;change Int at n;obtain⟨b,c⟩:0<=n/\n<=16384:=a;simp only[Kb,iB,rF];refine⟨by omega,fun p=>0<=p.1/\p.1<=n/\p.2.1.length=n.toNat/\∀i:Nat,(i:Int)<p.1->p.2.1[i]? =some (i:Int),fun p=>(n-p.1).toNat,⟨by omega,by omega,by simp,fun i a=>by omega⟩, ?_⟩;rintro⟨i,t,_⟩ _ ⟨b,d,c,a⟩;change Int at i;change List Int at t;simp only at b d c a⊢;refine⟨fun h=> ?_,fun h=> ?_⟩
 . have h:=qA h;rw[wv (by omega)];refine⟨⟨b,by omega⟩,⟨by omega,by omega,by rw[qN];exact c,fun j d=> ?_⟩,by omega⟩;rw[vZ];by_cases b:i.toNat=j
   . rw[qR b,qR (by omega)];congr 1;omega
   . rw[qK b];exact a j (by omega)
 . have h:=qB h;unfold pZ;apply vY;intro j;by_cases d:j<n.toNat
   . rw[a j (by omega),uM,vL d];rfl
   . rw[rR (by omega),rR (by simp;omega)]
def Om (x:A2 N8.args) (a:awf N8.args x) (f:N8.pre x):Hn x:=by
 obtain⟨s,b,_⟩:=x;change List Int at s;change Int at b;obtain⟨g,a,d,h⟩:UF s/\0<=b/\b<(s.length:Int)/\s.length<=16384:=f;simp only[Hn,iB];refine⟨fun p=>UF p.2.1/\p.2.1.length=s.length/\0<=p.1/\p.1<(s.length:Int)/\root s p.1=root s b/\∀i:Int,0<=i->i<(s.length:Int)->root p.2.1 i=root s i,fun p=>p.1.toNat,⟨g,rfl,a,d,rfl,fun _ _ _=>rfl⟩, ?_⟩;rintro⟨c,t,_⟩ _ ⟨d,g,a,j,k,f⟩;change Int at c;change List Int at t;simp only at d g a j k f⊢;have l:=d.le a (by omega:c<(t.length:Int));have h:t.getD c.toNat 0=I8 t c:=rfl;rw[h];refine⟨⟨a,by omega⟩,fun h=> ?_,fun h=> ?_⟩
 . have n:I8 t c≠c:=qA h;have n:=d.le l.1 (by omega:I8 t c<(t.length:Int));have o:t.getD (I8 t c).toNat 0=I8 t (I8 t c):=rfl;rw[o];obtain⟨r,u⟩:=C3e d a (by omega:c<(t.length:Int));have o:c.toNat<t.length:=by omega
   have w:(t.set c.toNat (I8 t (I8 t c))).getD c.toNat 0=I8 t (I8 t c):=by
    have:=Vb (v:=I8 t (I8 t c)) (i:=c) o;rw[qR rfl]at this;exact this
   rw[w,qN];refine⟨⟨a,by omega⟩,⟨l.1,by omega⟩,⟨a,by omega⟩,⟨a,by omega⟩,⟨r,g,n.1,by omega, ?_,fun i o w=>by rw[u i o (by omega)];exact f i o w⟩,by omega⟩;rw[<-k, <-f _ n.1 (by omega), <-f c a j,Ed d l.1 (by omega),Ed d a (by omega)]
 . have l:I8 t c=c:=by simpa using h
   refine⟨?_,d,g,f⟩;rw[<-k, <-f c a j,Da d a (by omega) l]
def Ra (x:A2 P7.args) (Q:awf P7.args x) (N:P7.pre x):Ig x:=by
 obtain⟨s,⟨a,b⟩,_⟩:=x;change List Int at s;change Int at a b;obtain⟨l,⟨n,o,j,r⟩,J⟩:UF s/\aI s.length (a,b)/\s.length<=16384:=N;simp only at n o j r;simp only[Ig,q0];refine⟨by omega,by omega, ?_, ?_⟩;all_goals
  refine⟨⟨l,n,o,J⟩, ?_⟩;rintro⟨T,_⟩ ⟨R,_⟩ _ _ g ⟨A,I,u⟩;simp only at g A I u⊢;refine⟨⟨A,j,by omega,by omega⟩, ?_⟩;rintro⟨U,_⟩ ⟨f,_⟩ _ _ d ⟨k,H,z⟩;simp only at d k H z⊢;rw[u b j r]at d;subst g d;obtain⟨F,V,O⟩:=jC l n o;obtain⟨G,W,P⟩:=jC l j r;have B:∀i:Int,0<=i->i<(s.length:Int)->root f i=root s i:=fun i h v=>by rw[z i h (by omega),u i h v]
  have D:∀c:Int,0<=c->c<(s.length:Int)->I8 s c=c->I8 f c=c:=fun c c0 c1 hc=>by
   have e:=B c c0 c1;rw[Da l c0 c1 hc]at e;have:=(jC k c0 (by omega)).2.2;rw[e]at this;exact this
  have w:=D _ F (by omega) O;have y:=D _ G (by omega) P;have M:(max (root s a) (root s b)=root s a/\min (root s a) (root s b)=root s b/\root s b<=root s a)\/(max (root s a) (root s b)=root s b/\min (root s a) (root s b)=root s a/\root s a<=root s b):=by omega
  have E:UF (f.set (max (root s a) (root s b)).toNat (min (root s a) (root s b)))/\∀i:Int,0<=i->i<(f.length:Int)->root (f.set (max (root s a) (root s b)).toNat (min (root s a) (root s b))) i=if root f i=max (root s a) (root s b)then min (root s a) (root s b)else root f i:=by
   rcases M with⟨g,d,t⟩ | ⟨g,d,t⟩
   . rw[g,d];exact B1g k G t (by omega) y w
   . rw[g,d];exact B1g k F t (by omega) w y
  refine⟨⟨by omega,by omega⟩,rfl,E.1,by rw[qN];omega,fun i h v=> ?_⟩;rw[E.2 i h (by omega),B i h v]
def A8i (s L:List Int):Prop:=UF s/\s.length=L.length/\∀i:Int,0<=i->i<(s.length:Int)->root s i=I8 L i
def B7e {n:Int} (a:0<=n):A8i (pZ n) (pZ n):=by
 have b:UF (pZ n):=fun i hi=>by
  rw[Ou]at hi;rw[DX (by omega) (by omega)];omega
 refine⟨b,rfl,fun i a c=> ?_⟩;have d:=c;rw[Ou]at d;rw[Da b a c (DX a (by omega)),DX a (by omega)]
def A6v {s o L:List Int} {l:Ln} (h:A8i s L) (k:aI s.length l) (b:UF o) (a:o.length=s.length) (j:∀i:Int,0<=i->i<(s.length:Int)->root o i=if root s i=max (root s l.1) (root s l.2)then min (root s l.1) (root s l.2)else root s i):A8i o (Fw L l):=by
 obtain⟨c,d,a⟩:=h;obtain⟨c,d,f,g⟩:=k;refine⟨b,by rw[Dw];omega,fun i b k=> ?_⟩;rw[j i b (by omega),Dy b (by omega),a i b (by omega),a _ c d,a _ f g]
def Ws (x:A2 U6.args) (c:awf U6.args x) (_:U6.pre x):Lc x:=by
 obtain⟨n,a,_⟩:=x;have f:a.length<=9223372036854775807:=c.2.1.1;change Int at n;change List (Int×Int)at a;simp only[Lc,iB,Cp];refine⟨trivial, ?_⟩;rintro⟨e,_⟩ _ c;simp only at c⊢;subst c;refine⟨fun h=> ?_,fun h=> ?_⟩
 . have h:=qA h;exact⟨by rw[qK h],rfl⟩
 . have h:Rw n a=0:=by simpa using h
   have c:=A3n.1 h;obtain⟨f,g,k⟩:=c;refine⟨⟨f,g⟩, ?_⟩;rintro⟨g,_⟩ _ c;simp only at c⊢;subst c;refine⟨fun p=>0<=p.1/\p.1<=(a.length:Int)/\A8i p.2.1 (Ar n (a.take p.1.toNat)),fun p=>((a.length:Int)-p.1).toNat,⟨by omega,by omega,by simpa[Ar]using B7e f⟩, ?_⟩;rintro⟨i,s,_⟩ _ ⟨j,c,f⟩;change Int at i;change List Int at s;simp only at j c f⊢;have g:s.length=n.toNat:=by rw[f.2.1,AE]
   refine⟨fun c=> ?_,fun c=> ?_⟩
   . have c:=qA c;have o:aI (s.length:Int) (gx ((0:Int),(0:Int)) a i):=by
      rw[g,show((n.toNat:Nat):Int)=n from by omega];exact k _ (H8 j c)
     refine⟨⟨j,c⟩,⟨f.1,o,by omega⟩, ?_⟩;rintro⟨y,_⟩ ⟨w,_⟩ _ _ _ ⟨g,k,l⟩;simp only at g k l⊢;rw[wv (by omega)];refine⟨⟨by omega,by omega, ?_⟩,by omega⟩;rw[show(i+1).toNat=i.toNat+1 from by omega,A7g (d:=((0:Int),(0:Int))) (by omega),A5w, <-G7 j c];exact A6v f o g k l
   . have c:=qB c;rw[D7 (by omega)]at f;simp only[rF];refine⟨by omega,fun p=>0<=p.1/\p.1<=n/\A8i p.2.1 (Ar n a)/\p.2.2.1.length=n.toNat/\∀j:Nat,(j:Int)<p.1->p.2.2.1[j]? =some (I8 (Ar n a) j),fun p=>(n-p.1).toNat,⟨by omega,by omega,f,by simp,fun j t=>by omega⟩, ?_⟩;rintro⟨b,f,out,_⟩ _ ⟨o,u,c,v,r⟩;change Int at b;change List Int at f out;simp only at o u c v r⊢;have u:f.length=n.toNat:=by rw[c.2.1,AE]
     refine⟨fun f=> ?_,fun f=> ?_⟩
     . have f:=qA f;refine⟨⟨c.1,o,by omega,by omega⟩, ?_⟩;rintro⟨y,_⟩ ⟨w,_⟩ _ _ u ⟨g,k,l⟩;simp only at u g k l⊢;rw[wv (by omega)];refine⟨⟨o,by omega⟩,⟨by omega,by omega,⟨g,by rw[k];exact c.2.1,fun i g k=>by rw[l i g (by omega)];exact c.2.2 i g (by omega)⟩,by rw[qN];exact v,fun j t=> ?_⟩,by omega⟩;rw[vZ];by_cases g:b.toNat=j
       . rw[qR g,qR (by omega),u,c.2.2 b o (by omega),show((j:Nat):Int)=b from by omega]
       . rw[qK g];exact r j (by omega)
     . have f:=qB f;rw[qR h];refine⟨?_,h.symm⟩;apply vY;intro j;by_cases t:j<n.toNat
       . rw[r j (by omega)];have:=TE (L:=Ar n a) (i:=(j:Int)) (by omega) (by rw[AE];omega);rw[qM]at this;exact this.symm
       . rw[rR (by omega),rR (by rw[AE];omega)]
def RG:An:= {loop:= [(4,⟨[1,20,21],[0],[(22,false,vI)],[],[]⟩)]}
abbrev B7p:=(Int×List (Int×Int×QQ×(Bool×List Int)×List Int))×Unit
def Xd:A2 Db.args->Prop:=fun(x:B7p)=>let e:=(0:Int);let a:=(I6 (decide (x.1.1<e)) true (decide (16384<x.1.1)));let c:=(x.1.2.length:Int);let g:=(decide ((16384:Int)<c));(iB (I6 a true g) (false=decide (H2 x.1)) (∃(I:C7->Prop),∃(d: _->Nat),I (e,())/\∀(p:C7),let f:=(i64.wrap (p.1+1),());let a:=(gx (e,e,dQ,(false,[]),[]) x.1.2 p.1);let h:=(decide (a.1=a.2.1));let b:=(I6 (I6 (I6 (decide (a.1<e)) true (decide (x.1.1<=a.1))) true (decide (a.2.1<e))) true (decide (x.1.1<=a.2.1)));(Ty.int i64).wf p.1/\True->I p->(iB (decide (p.1<c)) ((e<=p.1/\p.1<c)/\(iB (I6 b true h) (false=decide (H2 x.1)) (True/\Cp fun r=>r.1=(rv a.2.2.1).num.sign->(iB (decide (r.1<=e)) (false=decide (H2 x.1)) (I f/\d f<d p))))) (true=decide (H2 x.1)))))
def B6v {q:Rat} :0<q.num↔0<q:=by
 rw[<-Rat.not_le, <-Int.not_le];refine g4q ?_;have a:=Rat.num_nonneg (q:= -q);rw[g3a]at a;constructor
 . intro h;have:0<= -q:=a.1 (by omega);grind
 . intro h;have:0<= -q:=by grind
   have:=a.2 this;omega
def gX (n:Nat) (f:Nat->Rat):(TG n f).length=n:=by simp[TG]
def B1q {n:Nat} {f:Nat->Rat} {b:Nat} (h:b<n):(TG n f).getD b zr=rc (f b):=by
 unfold TG;rw[qF,uM,vL h];rfl
def B6g {n:Nat} {f:Nat->Rat} {e:D3} (h:e∈TG n f):∃i,i<n/\e=rc (f i):=by
 unfold TG at h;obtain⟨i,a,rfl⟩:=sP.1 h;exact⟨i,vS.1 a,rfl⟩
def WP {N:Hq} (h:H2 N) {i:Nat} (a:i<N.2.length):kO N.1 (N.2.getD i dB):=h.2.2.2 _ (C8 a)
def A0m {N:Hq} (h:H2 N) {i:Nat} (a:i<N.2.length):Cj N.2 i<N.1.toNat/\Ck N.2 i<N.1.toNat:=by
 obtain⟨d,b,c,f,_⟩:=WP h a;unfold Cj Ck;exact⟨by omega,by omega⟩
def C0u {N:Hq} (h:H2 N) {i:Nat} (a:i<N.2.length):Cj N.2 i≠Ck N.2 i:=by
 obtain⟨d,b,c,f,e,_⟩:=WP h a;unfold Cj Ck;omega
def B6k {N:Hq} (h:H2 N) {i:Nat} (a:i<N.2.length):0<Un N.2 i:=(WP h a).2.2.2.2.2
def iC {N:Hq} (h:H2 N):B2e N.1 (KZ N.2):=by
 refine⟨h.1,h.2.1,fun l a=> ?_⟩;unfold KZ at a;obtain⟨e,f,rfl⟩:=sP.1 a;obtain⟨a,b,c,d,_⟩:=h.2.2.2 e f;exact⟨a,b,c,d⟩
def B3d {E:List Wv} {i:Int} (a:0<=i) (b:i<(E.length:Int)):KZ (E.take (i+1).toNat)=KZ (E.take i.toNat)++ [((gx dB E i).1,(gx dB E i).2.1)]:=by
 unfold KZ;rw[Iy (d:=dB) a b,uJ];rfl
def IS (x:A2 Db.args) (a:awf Db.args x) (_:Db.pre x):Xd x:=by
 obtain⟨⟨n,E⟩,_⟩:=x;have f:E.length<=9223372036854775807:=a.1.2.1;change Int at n;change List Wv at E;simp only[Xd,iB,Cp];refine⟨fun h=> ?_,fun h=> ?_⟩
 . rw[G6,G6]at h;simp only[uA,rV]at h;refine(rE fun k=> ?_).symm;obtain⟨a,b,c,_⟩:=k;simp only at a b c;rcases h with(h|h) |h
   . omega
   . omega
   . exact absurd (sO.1 h) (by omega)
 . rw[G6,G6]at h;simp only[rI,rK]at h;obtain⟨⟨a,f⟩,j⟩:=h;have j:E.length<=16384:=g4i fun h=>j (sO.2 h)
   refine⟨fun p=>0<=p.1/\p.1<=(E.length:Int)/\∀e∈E.take p.1.toNat,kO n e,fun p=>((E.length:Int)-p.1).toNat,⟨qI _,qD _,fun e a=>(by cases a)⟩, ?_⟩;rintro⟨i,_⟩ _ ⟨f,a,g⟩;change Int at i;simp only at f a g⊢;refine⟨fun a=> ?_,fun a=> ?_⟩
   . have a:=qA a;have s:=Iy (d:=dB) f a;have o:=H8 (d:=dB) f a;have h:gx (0,0,dQ,(false,[]),[]) E i=gx dB E i:=rfl;rw[h];generalize gx dB E i=e at*;have l:¬kO n e->false=decide (H2 (n,E)):=fun hn=>(rE fun k=>hn (k.2.2.2 e o)).symm
     refine⟨⟨f,a⟩,fun k=>l fun h=> ?_,fun k=>⟨trivial, ?_⟩⟩
     . obtain⟨f,o,r,t,u,v⟩:=h;simp only[G6,uA,rV]at k;omega
     . simp only[G6,rI,rK]at k;rintro⟨r,_⟩ _ f;change Int at r;simp only at f⊢;have k:0<r↔0<rv e.2.2.1:=by rw[f,Int.sign_pos_iff];exact B6v
       refine⟨fun f=>l fun h=> ?_,fun f=> ?_⟩
       . have:=k.2 h.2.2.2.2.2;have:=qA f;omega
       . have f:=qB f;rw[wv (by omega)];refine⟨⟨by omega,by omega,fun y f=> ?_⟩,by omega⟩;rw[s]at f;rcases qY.1 f with f|f
         . exact g y f
         . rw[qP]at f;subst f;exact⟨by omega,by omega,by omega,by omega,by omega,k.1 (by omega)⟩
   . have a:=qB a;rw[D7 (by omega)]at g;exact(rG ⟨by simp only;omega,by simp only;omega,j,g⟩).symm
def A9b {k:Nat} {fr to:Nat->Nat} {b i:Nat} {f:Rat} (g:1<=k) (d:qs k f):qs k (PR fr to b i*f):=by
 unfold PR;by_cases a:fr i=b<;>by_cases c:to i=b
 . rw[qR a,qR c,show(1:Rat)-1=0 from by grind,tK];exact Q4 g
 . rw[qR a,qK c,show(1:Rat)-0=1 from by grind,xV];exact d
 . rw[qK a,qR c,show(0:Rat)-1= -1 from by grind,Rat.neg_mul,xV];exact XS d
 . rw[qK a,qK c,show(0:Rat)-0=0 from by grind,tK];exact Q4 g
def ER:An:= {loop:= [(5,⟨[1,2,4,18,19],[0,1],[(20,false,vI)],[],[(2, .rows tE 79 106)]⟩),(12,⟨[1,2,4,68,69],[0,1],[(70,false,vI)],[],[(2, .row (.sl tE) 79)]⟩)],plan:= [(8,[5,7,9,11,14,15],[18,20],false,(.p 0 (.p 1 (.p 3 (.p 4 (.q 5 (.p 6 (.q 7 (.p 8 (.q 9 (.p 10 (.q 11 (.p 12 (.p 13 (.q 14 (.q 15 (.p 16 (.or 2 (.e 17 (.e 18 (.p 19 (.e 20 .done)))) (.e 17 (.or 2 (.e 18 (.p 19 (.e 20 .done))) (.e 18 (.e 2 (.p 19 (.e 20 .done)))))))))))))))))))))))),(9,[5,7,9,11,14,15],[18,20],false,(.p 0 (.p 1 (.p 3 (.p 4 (.q 5 (.p 6 (.q 7 (.p 8 (.q 9 (.p 10 (.q 11 (.p 12 (.p 13 (.q 14 (.q 15 (.p 16 (.or 2 (.e 17 (.e 18 (.p 19 (.e 20 .done)))) (.e 17 (.or 2 (.e 18 (.p 19 (.e 20 .done))) (.e 18 (.e 2 (.p 19 (.e 20 .done))))))))))))))))))))))))]}
def Ky:A2 T9.args->Prop:=fun(x:B7p)=>let A:=(140737488355328:Nat);let f:=(x.1.2.length:Int);let n:=(1:Int);let j:=(0:Int);True/\Ql fun r=>r.1=decide (H2 x.1)->(iB ((!r.1)) ((¬H2 x.1->(j,j,[])=zm/\n=n)/\(H2 x.1->Kd x.1.1.toNat x.1.1.toNat (FE x.1.2) (j,j,[])/\n=j)) ((j<=x.1.1/\x.1.1<=x.1.1/\(↑(24:Nat):Int)*x.1.1<=281474976710656/\x.1.1<=9223372036854775807)/\∃(I:oA->Prop),∃(d: _->Nat),I (j,List.replicate x.1.1.toNat [],())/\∀(p:oA),let o:=(p.2.1.length:Int);let a:=(gx (j,j,dQ,(false,[]),[]) x.1.2 p.1);let v:=(a.1,a.2.2.1);let t:Prop:=(j<=a.1/\a.1<o);let s:=a.1.toNat;let z:=(List.getD p.2.1 s []);let i:=(a.2.1,a.2.2.1);let g:=a.2.1.toNat;(Ty.int i64).wf p.1/\Rh p.2.1/\True->I p->(iB (decide (p.1<f)) ((j<=p.1/\p.1<f)/\E6 a.2.2.1/\I2 fun r=>let w:=(a.2.1,r.1);let l:=(a.1,r.1);let k:Prop:=((z.length+ [v,w].length)*(64:Nat)<=A/\z.length+ [v,w].length<=9223372036854775807);let b:=(List.set p.2.1 s (List.getD p.2.1 s []++ [v,w]));let h:Prop:=(j<=a.2.1/\a.2.1<(↑b.length:Int));let e:Prop:=(((b.getD g []).length+ [i,l].length)*(64:Nat)<=A/\(b.getD g []).length+ [i,l].length<=9223372036854775807);let c:Prop:=(e/\h/\Int.toNat a.2.1=Int.toNat a.2.1/\I (i64.wrap (p.1+n),b.set g (b.getD g []++ [i,l]),())/\d (i64.wrap (p.1+n),b.set g (b.getD g []++ [i,l]),())<d p);let f:Prop:=(k/\t/\Int.toNat a.1=Int.toNat a.1/\h/\c/\c/\e/\h/\Int.toNat a.2.1=Int.toNat a.2.1/\I (i64.wrap (p.1+n),b.set g (b.getD g []++ [i,l]),())/\d (i64.wrap (p.1+n),b.set g (b.getD g []++ [i,l]),())<d p);r.1=rc (-rv a.2.2.1)->t/\f/\f/\k/\t/\Int.toNat a.1=Int.toNat a.1/\h/\c/\c/\e/\h/\Int.toNat a.2.1=Int.toNat a.2.1/\I (i64.wrap (p.1+n),b.set g (b.getD g []++ [i,l]),())/\d (i64.wrap (p.1+n),b.set g (b.getD g []++ [i,l]),())<d p) (∃(I:oA->Prop),∃(d: _->Nat),I (j,p.2.1,())/\∀(B:oA),let y:=(x.1.1,x.1.1,B.2.1);let u:=(List.getD B.2.1 B.1.toNat []);let q:Prop:=(j<=B.1/\B.1<(B.2.1.length:Int));(Ty.int i64).wf B.1/\Rh B.2.1/\True->I B->(iB (decide (B.1<o)) (q/\Ku u/\iV fun r=>let m:=(i64.wrap (B.1+n),List.set B.2.1 B.1.toNat r.1,());PW (A4 u) r.1->q/\I m/\d m<d B) ((¬H2 x.1->y=zm/\j=n)/\(H2 x.1->Kd x.1.1.toNat x.1.1.toNat (FE x.1.2) y/\j=j)))))))
def HU (n t:Nat) (E:List Wv) (b:Nat) (row:List D1):Prop:=row.length<=2*t/\(∀e∈row,0<=e.1/\e.1<(n:Int)/\sz 2 e.2)/\∀j:Nat,A4 row (j:Int)=NZ t (Cj E) (Ck E) (Un E) b j
def C3o (n:Nat) (E:List Wv) (p:Int×List (List D1)×Unit):Prop:=0<=p.1/\p.1<=(E.length:Int)/\p.2.1.length=n/\∀b,b<n->HU n p.1.toNat E b (p.2.1.getD b [])
def cX (t:Nat) (fr to:Nat->Nat) (s:Nat->Rat) (b c:Nat):NZ (t+1) fr to s b c=NZ t fr to s b c+s t*(PR fr to b t*PR fr to c t):=rfl
def HU.skip {n t:Nat} {E:List Wv} {b:Nat} {row:List D1} (h:HU n t E b row) (a:Cj E t≠b) (c:Ck E t≠b):HU n (t+1) E b row:=by
 refine⟨qX h.1 (by omega),h.2.1,fun j=> ?_⟩;rw[cX,h.2.2,show PR (Cj E) (Ck E) b t=0 from by unfold PR;rw[qK a,qK c];grind,tK,uY,rN]
def HU.add {n t:Nat} {E:List Wv} {b:Nat} {row:List D1} (h:HU n t E b row) {x y:D1} (d:0<=x.1/\x.1<(n:Int)/\sz 2 x.2) (f:0<=y.1/\y.1<(n:Int)/\sz 2 y.2)
 (c:∀j:Nat,(if x.1=(j:Int)then rv x.2 else 0)+(if y.1=(j:Int)then rv y.2 else 0)=Un E t*(PR (Cj E) (Ck E) b t*PR (Cj E) (Ck E) j t)):HU n (t+1) E b (row++ [x,y]):=by
 refine⟨by rw[rO,rJ,rC];have:=h.1;omega,fun e a=> ?_,fun j=> ?_⟩
 . rcases qY.1 a with a|a
   . exact h.2.1 e a
   . simp only[qG,rY,vG]at a;rcases a with rfl|rfl
     . exact d
     . exact f
 . rw[N0,h.2.2,cX, <-c];simp only[A4,rN]
def C6p (n:Nat) (rows:List (List D1)) (p:Int×List (List D1)×Unit):Prop:=0<=p.1/\p.1<=(n:Int)/\p.2.1.length=n/\(∀b:Nat,(b:Int)<p.1->PW (A4 (rows.getD b [])) (p.2.1.getD b []))/\∀b:Nat,p.1<=(b:Int)->p.2.1.getD b []=rows.getD b []
def Wn (x:A2 T9.args) (A:awf T9.args x) (d:T9.pre x):Ky x:=by
 obtain⟨⟨n,E⟩,_⟩:=x;have I:∀e∈E,Jh e.2.2.1:=fun e l=>Jb (A.1.2.2 e l).2.2.1
 change Int at n;change List Wv at E;have d:H2 (n,E)->Bb (n,E):=d;simp only[Ky,iB,I2,Ql,iV];refine⟨trivial, ?_⟩;rintro⟨f,_⟩ _ a;change Bool at f;simp only at a⊢;by_cases h:H2 (n,E)
 case neg=>
  rw[a,rE h];exact⟨fun _=>⟨fun _=>⟨rfl,by trivial⟩,fun s=>absurd s h⟩,fun s=>(by cases s)⟩
 rw[a,rG h];refine⟨fun s=>(by cases s),fun _=> ?_⟩;obtain⟨j,g,F⟩:=d h;simp only at j g F;obtain⟨n,rfl⟩:∃k:Nat,n=(k:Int):=⟨n.toNat,by have:=h.1;simp only at this;omega⟩;have d:n<=16384:=by omega
 simp only[qM];refine⟨⟨qD _,qI _,by omega,by omega⟩,C3o n E,fun p=>((E.length:Int)-p.1).toNat,⟨qI _,qD _,rF,fun b d=> ?_⟩, ?_⟩
 . have e:(List.replicate n ([]:List D1)).getD b []= []:=by
    rw[qF,uG];split<;>rfl
   simp only;rw[e];exact⟨rM _,fun e l=>(by cases l),fun j=>rfl⟩
 rintro⟨i,rows,_⟩ _ ⟨B,o,rl,g⟩;change Int at i;change List (List D1)at rows;simp only at B o rl g⊢;refine⟨fun t=> ?_,fun t=> ?_⟩
 . have t:=qA t;have v:i.toNat<E.length:=by omega
   obtain⟨o,r⟩:=A0m h v;have u:=C0u h v;simp only[qM]at o r u;obtain⟨G,D,H,J,M,N⟩:=WP h v;have D:gx (0,0,dQ,(false,[]),[]) E i=E.getD i.toNat dB:=G7 B t;rw[D];have D:E.getD i.toNat dB∈E:=C8 v;obtain⟨v,_⟩:=F _ D;have M:=I _ D;have D:(E.getD i.toNat dB).1.toNat=Cj E i.toNat:=rfl;have J:(E.getD i.toNat dB).2.1.toNat=Ck E i.toNat:=rfl;have F:rv (E.getD i.toNat dB).2.2.1=Un E i.toNat:=rfl;have I:(E.getD i.toNat dB).1=(Cj E i.toNat:Int):=(sN G).symm;have G:(E.getD i.toNat dB).2.1=(Ck E i.toNat:Int):=(sN H).symm;refine⟨⟨B,t⟩,X8 v (by decide), ?_⟩;rintro⟨f,_⟩ _ a;change D3 at f;simp only at a⊢;rw[D,J,I,G];have G:sz 2 f:=by rw[a];exact GO (XS (Jm M v (by decide)))
   have H:rv f= -Un E i.toNat:=by rw[a,E3];rfl
   have a:∀X:List D1,(List.set rows (Cj E i.toNat) X).getD (Ck E i.toNat) []=rows.getD (Ck E i.toNat) []:=fun X=>D8 (Ne.symm u)
   simp only[a];rw[wv (by omega)];have I:0<=(Cj E i.toNat:Int)/\(Cj E i.toNat:Int)<(rows.length:Int):=⟨qD _,by rw[rl];exact sO.2 o⟩;have O:∀X:List D1,0<=(Ck E i.toNat:Int)/\(Ck E i.toNat:Int)<((List.set rows (Cj E i.toNat) X).length:Int):=fun X=>⟨qD _,by rw[qN,rl];exact sO.2 r⟩
   have a:∀z:Nat,z<=18->(z+2)*64<=140737488355328/\z+2<=9223372036854775807:=fun z a=>⟨by omega,by omega⟩
   have J:=a _ (qX (g _ o).1 (by omega));have M:=a _ (qX (g _ r).1 (by omega));have N:C3o n E (i+1,(rows.set (Cj E i.toNat) (rows.getD (Cj E i.toNat) []++ [((Cj E i.toNat:Int),(E.getD i.toNat dB).2.2.1),((Ck E i.toNat:Int),f)])).set (Ck E i.toNat) (rows.getD (Ck E i.toNat) []++ [((Ck E i.toNat:Int),(E.getD i.toNat dB).2.2.1),((Cj E i.toNat:Int),f)]),()):=by
    refine⟨by simp only;omega,by simp only;omega,by simp only;rw[qN,qN];exact rl,fun b d=> ?_⟩;simp only;rw[show(i+1).toNat=i.toNat+1 from by omega];by_cases D:b=Ck E i.toNat
    . subst D;rw[B6 (by rw[qN,rl];exact r)];refine(g _ r).add ⟨qD _,sO.2 r,v⟩ ⟨qD _,sO.2 o,G⟩ fun j=> ?_
      simp only;rw[F,H];unfold PR;rw[qK u,qR rfl];by_cases a:Cj E i.toNat=j<;>by_cases f:Ck E i.toNat=j
      . exact absurd (a.trans f.symm) u
      . rw[qK (by omega),qR (by omega),qR a,qK f];grind
      . rw[qR (by omega),qK (by omega),qK a,qR f];grind
      . rw[qK (by omega),qK (by omega),qK a,qK f];grind
    . rw[D8 D];by_cases B:b=Cj E i.toNat
      . subst B;rw[B6 (by rw[rl];exact o)];refine(g _ o).add ⟨qD _,sO.2 o,v⟩ ⟨qD _,sO.2 r,G⟩ fun j=> ?_
        simp only;rw[F,H];unfold PR;rw[qR rfl,qK (Ne.symm u)];by_cases a:Cj E i.toNat=j<;>by_cases f:Ck E i.toNat=j
        . exact absurd (a.trans f.symm) u
        . rw[qR (by omega),qK (by omega),qR a,qK f];grind
        . rw[qK (by omega),qR (by omega),qK a,qR f];grind
        . rw[qK (by omega),qK (by omega),qK a,qK f];grind
      . rw[D8 B];exact(g b d).skip (Ne.symm B) (Ne.symm D)
   have f:((E.length:Int)-(i+1)).toNat<((E.length:Int)-i).toNat:=by omega
   repeat' first
    |exact N
    |exact f
    |exact True.intro
    |exact rfl
    |exact I.1
    |exact I.2
    |exact qD _
    |exact(O _).2
    |exact J.1
    |exact J.2
    |exact M.1
    |exact M.2
    |apply And.intro
 have t:=qB t;rw[show i.toNat=E.length from by omega]at g;refine⟨C6p n rows,fun p=>((n:Int)-p.1).toNat,⟨qI _,qD _,rl,fun b d=>by simp only at d;omega,fun b _=>rfl⟩, ?_⟩;rintro⟨j,out,_⟩ _ ⟨o,f,r,t,u⟩;change Int at j;change List (List D1)at out;simp only at o f r t u⊢;refine⟨fun f=> ?_,fun f=> ?_⟩
 . have f:=qA f;have B:j<(n:Int):=by rw[rl]at f;exact f
   have v:0<=j/\j<(out.length:Int):=⟨o,by rw[r];exact B⟩;have o:=g j.toNat (by omega);rw[u j.toNat (by omega)];refine⟨v, .inr ⟨qX o.1 (by omega),fun e l=>F9 (o.2.1 e l).2.2 (by decide)⟩, ?_⟩;rintro⟨w,_⟩ _ A;change List D1 at w;simp only at A⊢;rw[wv (by omega)];refine⟨v,⟨by simp only;omega,by simp only;omega,by simp only;rw[qN];exact r,fun b d=> ?_,fun b d=> ?_⟩,by omega⟩
   . simp only at d⊢;by_cases v:b=j.toNat
     . subst v;rw[B6 (by rw[r];omega)];exact A
     . rw[D8 v];exact t b (by omega)
   . simp only at d⊢;rw[D8 (by omega)];exact u b (by omega)
 . have f:=qB f;have B:¬j<(n:Int):=by rw[rl]at f;exact f
   refine⟨fun s=>absurd h s,fun _=>⟨⟨rfl,rfl,r,fun b d=> ?_⟩,by trivial⟩⟩;obtain⟨c1,f⟩:=t b (by omega);have o:=g b d;refine⟨c1,fun e l=> ?_,fun c _=> ?_⟩
   . have a:A4 (rows.getD b []) e.1≠0:=by rw[<-f,O6 c1.1 l];exact(c1.2 e l).1
     obtain⟨y,d,g⟩:=Uo a;rw[<-g];exact⟨(o.2.1 y d).1,(o.2.1 y d).2.1⟩
   . rw[f,o.2.2];rfl
def RN:An:= {join:= [(8,⟨[2,3,4,5,6],[0,2,3],[],[(1,98,[.val (.sl (.int .i64)), .val (.int .i64)]),(4,45,[.val (.int .i64), .val (.int .i64), .val .bool, .val (.sl (.int .u32)), .val (.sl (.int .u32)), .val .bool, .val (.sl (.int .u32)), .val (.sl (.int .u32))])],[]⟩),(10,⟨[2,3,4,5,6],[0,2,3],[],[(1,98,[.val (.sl (.int .i64)), .val (.int .i64)]),(4,45,[.val (.int .i64), .val (.int .i64), .val .bool, .val (.sl (.int .u32)), .val (.sl (.int .u32)), .val .bool, .val (.sl (.int .u32)), .val (.sl (.int .u32))])],[]⟩)],loop:= [(4,⟨[2,3,4],[0],[(5,false,vI)],[(1,98,[.val (.sl (.int .i64)), .val (.int .i64)]),(2,25,[.val (.int .i64), .own (.pair (.int .i64) (.pair (.int .i64) (.pair tQ tQ))) 45])],[]⟩)],plan:= [(7,[5],[7,13],false,(.p 0 (.p 3 (.p 4 (.q 5 (.p 6 (.p 9 (.or 1 (.p 2 (.or 7 (.p 8 (.e 10 (.p 11 (.p 12 (.e 13 .done))))) (.e 10 (.e 7 (.p 8 (.p 11 (.p 12 (.e 13 .done)))))))) (.or 7 (.or 1 (.p 2 (.p 8 (.e 10 (.p 11 (.p 12 (.e 13 .done)))))) (.e 10 (.e 1 (.p 2 (.p 8 (.p 11 (.p 12 (.e 13 .done)))))))) (.e 10 (.or 1 (.p 2 (.e 7 (.p 8 (.p 11 (.p 12 (.e 13 .done)))))) (.e 7 (.e 1 (.p 2 (.p 8 (.p 11 (.p 12 (.e 13 .done))))))))))))))))))]}
abbrev C4v:=Int×List Int×Int×Int×List (Int×Int×QQ×(Bool×List Int)×List Int)×Unit
abbrev B7v:=List Int×Int×Int×Int×Bool×List Int×List Int×Bool×List Int×List Int×Unit
def Xh:A2 De.args->Prop:=fun(x:Lr)=>let h:=(1:Int);let d:=(0:Int);True/\∀(r:BJ),let j:=(r.1.1.length:Int);(TW r.1.1/\K9 r.1.2)/\True->r.1=(x.1,d)->(d<(6:Int)/\d<=r.1.2/\r.1.2<=j)/\∀(C:C7) (o:BJ),let k:=(o.1.1.length:Int);K9 C.1/\True->((Ty.int i64).sl.pair (Ty.int i64)).wf o.1/\True->d<=C.1/\C.1<6->o.1.1=r.1.1/\d<=o.1.2/\o.1.2<=j->(d<(10:Int)/\d<=o.1.2/\o.1.2<=k)/\∀(r:C7) (A:BJ),K9 r.1/\True->((Ty.int i64).sl.pair (Ty.int i64)).wf A.1/\True->d<=r.1/\r.1<10->A.1.1=o.1.1/\d<=A.1.2/\A.1.2<=k->∃(I:C4v->Prop),∃(x: _->Nat),I (r.1,A.1.1,A.1.2,i64.wrap (h+C.1),[],())/\∀(p:C4v),let q:=(decide (h<p.2.2.2.1));let l:=(p.2.1.length:Int);(Ty.int i64).wf p.1/\(Ty.int i64).sl.wf p.2.1/\(Ty.int i64).wf p.2.2.1/\(Ty.int i64).wf p.2.2.2.1/\((Ty.int i64).pair ((Ty.int i64).pair (tQ.pair tQ))).sl.wf p.2.2.2.2.1/\True->I p->(iB (I6 (decide (d<p.1)) q false) ((d<p.2.2.2.1/\d<=p.2.2.1/\p.2.2.1<=l)/\∀(r:C7) (o:BJ),let m:=(o.1.1.length:Int);K9 r.1/\True->((Ty.int i64).sl.pair (Ty.int i64)).wf o.1/\True->d<=r.1/\r.1<p.2.2.2.1->o.1.1=p.2.1/\d<=o.1.2/\o.1.2<=l->(d<=o.1.2/\o.1.2<=m)/\∀(w:H0) (z:BJ),let g:=(z.1.1.length:Int);let c:Prop:=(d<i64.wrap (p.2.2.2.1-h)/\d<=z.1.2/\z.1.2<=g);CY w.1/\True->((Ty.int i64).sl.pair (Ty.int i64)).wf z.1/\True->AA w.1/\(0:Rat)<rv w.1->z.1.1=o.1.1/\d<=z.1.2/\z.1.2<=m->True/\I2 fun y=>y.1=rc (0:Rat)->∃(J:B7v->Prop),let a:Prop:=(c/\∀(v:C7) (o:BJ),K9 v.1/\True->((Ty.int i64).sl.pair (Ty.int i64)).wf o.1/\True->d<=v.1/\v.1<i64.wrap (p.2.2.2.1-h)->o.1.1=z.1.1/\d<=o.1.2/\o.1.2<=g->p.2.2.2.1≠d/\J (o.1.1,o.1.2,r.1,(i64.wrap (i64.wrap (r.1+h)+v.1)).tmod p.2.2.2.1,w.1.1.1,w.1.1.2,w.1.2,y.1.1.1,y.1.1.2,y.1.2,()));((a/\c/\∀(v:C7) (o:BJ),K9 v.1/\True->((Ty.int i64).sl.pair (Ty.int i64)).wf o.1/\True->d<=v.1/\v.1<i64.wrap (p.2.2.2.1-h)->o.1.1=z.1.1/\d<=o.1.2/\o.1.2<=g->p.2.2.2.1≠d/\J (o.1.1,o.1.2,r.1,(i64.wrap (i64.wrap (r.1+h)+v.1)).tmod p.2.2.2.1,w.1.1.1,w.1.1.2,w.1.2,y.1.1.1,y.1.1.2,y.1.2,()))/\(c/\∀(v:C7) (o:BJ),let f:=(o.1.1,o.1.2,r.1,(i64.wrap (i64.wrap (r.1+h)+v.1)).tmod p.2.2.2.1,w.1.1.1,w.1.1.2,w.1.2,y.1.1.1,y.1.1.2,y.1.2,());K9 v.1/\True->((Ty.int i64).sl.pair (Ty.int i64)).wf o.1/\True->d<=v.1/\v.1<i64.wrap (p.2.2.2.1-h)->o.1.1=z.1.1/\d<=o.1.2/\o.1.2<=g->(p.2.2.2.1≠d/\J f)/\p.2.2.2.1≠d/\J f)/\a/\c/\∀(v:C7) (o:BJ),K9 v.1/\True->((Ty.int i64).sl.pair (Ty.int i64)).wf o.1/\True->d<=v.1/\v.1<i64.wrap (p.2.2.2.1-h)->o.1.1=z.1.1/\d<=o.1.2/\o.1.2<=g->p.2.2.2.1≠d/\J (o.1.1,o.1.2,r.1,(i64.wrap (i64.wrap (r.1+h)+v.1)).tmod p.2.2.2.1,w.1.1.1,w.1.1.2,w.1.2,y.1.1.1,y.1.1.2,y.1.2,()))/\∀(t:B7v),let s:=(t.1.length:Int);(Ty.int i64).sl.wf t.1/\(Ty.int i64).wf t.2.1/\(Ty.int i64).wf t.2.2.1/\(Ty.int i64).wf t.2.2.2.1/\Ty.bool.wf t.2.2.2.2.1/\(Ty.int u32).sl.wf t.2.2.2.2.2.1/\(Ty.int u32).sl.wf t.2.2.2.2.2.2.1/\Ty.bool.wf t.2.2.2.2.2.2.2.1/\(Ty.int u32).sl.wf t.2.2.2.2.2.2.2.2.1/\(Ty.int u32).sl.wf t.2.2.2.2.2.2.2.2.2.1/\True->J t->∃(J:B7v->Prop),((d<(4:Int)/\d<=t.2.1/\t.2.1<=s)/\∀(r:C7) (o:BJ),let n:=(o.1.1.length:Int);K9 r.1/\True->((Ty.int i64).sl.pair (Ty.int i64)).wf o.1/\True->d<=r.1/\r.1<4->o.1.1=t.1/\d<=o.1.2/\o.1.2<=s->(iB (decide (r.1=3)) ((d<=o.1.2/\o.1.2<=n)/\∀(r:H0) (B:BJ),CY r.1/\True->((Ty.int i64).sl.pair (Ty.int i64)).wf B.1/\True->AA r.1->B.1.1=o.1.1/\d<=B.1.2/\B.1.2<=n->J (B.1.1,B.1.2,t.2.2.1,t.2.2.2.1,t.2.2.2.2.1,t.2.2.2.2.2.1,t.2.2.2.2.2.2.1,r.1.1.1,r.1.1.2,r.1.2,())) (J (o.1.1,o.1.2,t.2.2.1,t.2.2.2.1,t.2.2.2.2.1,t.2.2.2.2.2.1,t.2.2.2.2.2.2.1,t.2.2.2.2.2.2.2.1,t.2.2.2.2.2.2.2.2.1,t.2.2.2.2.2.2.2.2.2.1,()))))/\∀(u:B7v),let b:=(u.2.2.1,u.2.2.2.1,((u.2.2.2.2.1,u.2.2.2.2.2.1),u.2.2.2.2.2.2.1),(u.2.2.2.2.2.2.2.1,u.2.2.2.2.2.2.2.2.1),u.2.2.2.2.2.2.2.2.2.1);let i:=(i64.wrap (p.1-h),u.1,u.2.1,p.2.2.2.1,p.2.2.2.2.1++ [b],());(Ty.int i64).sl.wf u.1/\(Ty.int i64).wf u.2.1/\(Ty.int i64).wf u.2.2.1/\(Ty.int i64).wf u.2.2.2.1/\Ty.bool.wf u.2.2.2.2.1/\(Ty.int u32).sl.wf u.2.2.2.2.2.1/\(Ty.int u32).sl.wf u.2.2.2.2.2.2.1/\Ty.bool.wf u.2.2.2.2.2.2.2.1/\(Ty.int u32).sl.wf u.2.2.2.2.2.2.2.2.1/\(Ty.int u32).sl.wf u.2.2.2.2.2.2.2.2.2.1/\True->J u->((p.2.2.2.2.1.length+ [b].length)*(128:Nat)<=(140737488355328:Nat)/\p.2.2.2.2.1.length+ [b].length<=9223372036854775807)/\I i/\x i<x p) (H2 (p.2.2.2.1,p.2.2.2.2.1)/\h<=p.2.2.2.1/\p.2.2.2.1<=6/\p.2.2.2.2.1.length<=(9:Nat)/\∀(e:Wv),e∈p.2.2.2.2.1->AA e.2.2.1/\AA e.2.2.2))
def B3y {s n:Int} (a:0<=s) (b:s<n+n):s.tmod n=if s<n then s else s-n:=by
 rw[tV a];split
 . rename_i h;exact g3r a h
 . rename_i h;have:s%n=(s-n)%n:=by rw[Int.sub_emod_right]
   rw[this];exact g3r (by omega) (by omega)
def C6r (p:Int×List Int×Int×Int×List Wv×Unit):Prop:=(0<=p.2.2.1/\p.2.2.1<=(p.2.1.length:Int))/\(1<=p.2.2.2.1/\p.2.2.2.1<=6)/\(0<=p.1/\(p.2.2.2.2.1.length:Int)+p.1<=9)/\∀e∈p.2.2.2.2.1,kO p.2.2.2.1 e/\AA e.2.2.1/\AA e.2.2.2
def brJ (n:Int) (q:List Int×Int×Int×Int×Bool×List Int×List Int×Bool×List Int×List Int×Unit):Prop:=(0<=q.2.1/\q.2.1<=(q.1.length:Int))/\kO n (q.2.2.1,q.2.2.2.1,((q.2.2.2.2.1,q.2.2.2.2.2.1),q.2.2.2.2.2.2.1),((q.2.2.2.2.2.2.2.1,q.2.2.2.2.2.2.2.2.1),q.2.2.2.2.2.2.2.2.2.1))/\AA ((q.2.2.2.2.1,q.2.2.2.2.2.1),q.2.2.2.2.2.2.1)/\AA ((q.2.2.2.2.2.2.2.1,q.2.2.2.2.2.2.2.2.1),q.2.2.2.2.2.2.2.2.2.1)
def IW (x:A2 De.args) (ag:awf De.args x) (_:De.pre x):Xh x:=by
 obtain⟨t,_⟩:=x;have av:t.length<=9223372036854775807:=ag.1.1;change List Int at t;simp only[Xh,iB,I2];refine⟨trivial, ?_⟩;rintro⟨⟨ba,G⟩,_⟩ _ ar;cases ar;simp only;refine⟨⟨by decide,qI _,qD _⟩, ?_⟩;rintro⟨n,_⟩ ⟨⟨b0,r⟩,_⟩ _ _ ⟨f,g⟩ ⟨ac,B,D⟩;change Int at n r;change List Int at b0;simp only at f g ac B D⊢;subst ac;refine⟨⟨by decide,B,D⟩, ?_⟩;rintro⟨J,_⟩ ⟨⟨b1,aw⟩,_⟩ _ _ ⟨h,s⟩ ⟨ad,E,F⟩;change Int at J aw;change List Int at b1;simp only at h s ad E F⊢;subst ad;rw[wv (by omega)];refine⟨C6r,fun p=>p.1.toNat,⟨⟨E,F⟩,⟨by simp only;omega,by simp only;omega⟩,⟨h,by simp only[xH];omega⟩,fun e d=>(by cases d)⟩, ?_⟩;clear ag av f g B D h s E F;rintro⟨J,t,i,n,br,_⟩ _ ⟨⟨G,r⟩,⟨f,g⟩,⟨h,s⟩,k⟩;change Int at J i n;change List Int at t;change List Wv at br;simp only at G r f g h s k⊢;refine⟨fun l=> ?_,fun l=>⟨⟨by simp only;omega,by simp only;omega,by simp only;omega,fun e d=>(k e d).1⟩,f,g,by omega,fun e d=>(k e d).2⟩⟩;rw[J1]at l;simp only[qC,rV]at l;obtain⟨c1,b6⟩:=l;refine⟨⟨by omega,G,r⟩, ?_⟩;rintro⟨j,_⟩ ⟨⟨b2,ax⟩,_⟩ _ _ ⟨aa,ab⟩ ⟨a1,a2,a3⟩;change Int at j ax;change List Int at b2;simp only at aa ab a1 a2 a3⊢;subst a1;refine⟨⟨a2,a3⟩, ?_⟩;rintro⟨S,_⟩ ⟨⟨u,I⟩,_⟩ _ _ ⟨ak,am⟩ ⟨a4,a5,a6⟩;change D3 at S;change Int at I;change List Int at u;simp only at ak am a4 a5 a6⊢;subst a4;refine⟨trivial, ?_⟩;rintro⟨Z,_⟩ _ af;change D3 at Z;simp only at af⊢;have au:AA Z:=⟨0,Q4 (by decide),af⟩;rw[wv (a:=n-1) (by omega)];have A:0<n-1/\0<=I/\I<=(u.length:Int):=⟨by omega,a5,a6⟩;have K:∀(r_4:Int×Unit) (o:(List Int×Int)×Unit),K9 r_4.1/\True->((Ty.int i64).sl.pair (Ty.int i64)).wf o.1/\True->0<=r_4.1/\r_4.1<n-1->o.1.1=u/\0<=o.1.2/\o.1.2<=(u.length:Int)->n≠0/\brJ n (o.1.1,o.1.2,j,(i64.wrap (i64.wrap (j+1)+r_4.1)).tmod n,S.1.1,S.1.2,S.2,Z.1.1,Z.1.2,Z.2,()):=by
  rintro⟨ao,_⟩ ⟨⟨b3,ay⟩,_⟩ _ _ ⟨ap,aq⟩ ⟨a7,a8,a9⟩;change Int at ao ay;change List Int at b3;simp only at ap aq a7 a8 a9⊢;subst a7;rw[wv (a:=j+1) (by omega),wv (by omega),B3y (by omega) (by omega)];refine⟨by omega,⟨a8,a9⟩,⟨aa,ab, ?_, ?_, ?_,am⟩,ak,au⟩
  . simp only;split<;>omega
  . simp only;split<;>omega
  . simp only;split<;>omega
 refine⟨brJ n,⟨⟨⟨A,K⟩,A,K⟩,⟨A,fun aj o a b c V=>⟨K aj o a b c V,K aj o a b c V⟩⟩,⟨A,K⟩,A,K⟩, ?_⟩;rintro⟨b4,az,an,b5,S1,S2,S3,Z1,Z2,Z3,_⟩ _ ⟨⟨M,N⟩,v,w,Q⟩;change Int at az an b5;change List Int at b4;simp only at M N v w Q⊢;refine⟨brJ n,⟨⟨by decide,M,N⟩, ?_⟩, ?_⟩
 . rintro⟨c,_⟩ ⟨⟨ai,ah⟩,_⟩ _ _ _ ⟨W,y,z⟩;change Int at ah;change List Int at ai;simp only at W y z⊢;subst W;refine⟨fun _=>⟨⟨y,z⟩, ?_⟩,fun _=>⟨⟨y,z⟩,v,w,Q⟩⟩;rintro⟨H,_⟩ ⟨⟨bb,b9⟩,_⟩ _ _ ae ⟨X,Y,a0⟩;change D3 at H;simp only at ae X Y a0⊢;exact⟨⟨Y,by rw[X];exact a0⟩,v,w,ae⟩
 . rintro⟨ai,ah,b7,bc,T1,T2,T3,Y1,Y2,Y3,_⟩ _ ⟨⟨O,P⟩,R,T,U⟩;simp only at O P R T U⊢;have b8:br.length<=9:=by omega
   rw[wv (by omega)];refine⟨⟨by rw[rC];omega,by rw[rC];omega⟩,⟨⟨O,P⟩,⟨f,g⟩,⟨by simp only;omega,by simp only;rw[rO,rC];omega⟩,fun e d=> ?_⟩,by omega⟩;simp only at d⊢;rcases qY.1 d with d|d
   . exact k e d
   . rw[qP]at d;subst d;exact⟨R,T,U⟩
def Qu (x:A2 O9.args) (c:awf O9.args x) (a:O9.pre x):Hy x:=by
 obtain⟨⟨l,i⟩,_⟩:=x;change Int at i;change List Int at l;obtain⟨c,d⟩:0<=i/\i<=(l.length:Int):=a;simp only[Hy,I2];refine⟨⟨by omega,c,d⟩, ?_⟩;rintro⟨f,_⟩ ⟨⟨g,d⟩,_⟩ _ _ c a;change Int at d f;change List Int at g;simp only at c a⊢;obtain⟨rfl,c,d⟩:=a;refine⟨⟨by omega,c,d⟩, ?_⟩;rintro⟨b,_⟩ ⟨⟨j,h⟩,_⟩ _ _ g a;change Int at h b;change List Int at j;simp only at g a⊢;obtain⟨rfl,c,d⟩:=a;refine⟨trivial, ?_⟩;rintro⟨q,_⟩ _ a;simp only at a⊢;rw[wv (by omega),wv (by omega)]at a;refine⟨⟨by rw[a];exact Ot (by omega) (by omega) (by omega), ?_⟩,by trivial,c,d⟩;rw[a,E3,HN (by omega),zW];have a:(0:Rat)<((1+f:Int):Rat):=Rat.intCast_pos.2 (by omega);have c:(0:Rat)<((1+b).natAbs:Rat):=g2e.2 (by omega);exact(Rat.lt_div_iff c).2 (by rw[tK];exact a)
def Md:An:= {plan:= [(3,[0,1,4,6],[7],true,(.q 0 (.q 1 (.p 2 (.p 3 (.q 4 (.p 5 (.q 6 (.e 7 .done)))))))))]}
def Yb:An:= {join:= [(8,⟨[1,2,7,8,9,10,12,13,14],[1,2],[],[(3,43,[.val .bool, .val (.sl (.int .u32)), .val (.sl (.int .u32))])],[]⟩),(11,⟨[1,2,12,13,14],[],[(7,false,[.own tE 106])],[],[]⟩)],loop:= [(3,⟨[1,2,12,13],[],[(7,false,[.own tE 106]),(14,false,vI)],[],[]⟩)],plan:= [(5,[2,6],[10],true,(.p 0 (.p 1 (.q 2 (.p 4 (.p 5 (.q 6 (.or 3 (.or 7 (.or 8 (.e 9 (.e 10 .done)) (.e 9 (.e 8 (.e 10 .done)))) (.e 9 (.e 7 (.e 8 (.e 10 .done))))) (.e 9 (.e 3 (.e 7 (.e 8 (.e 10 .done))))))))))))),(7,[0],[3],true,(.q 0 (.e 1 (.e 2 (.e 3 .done)))))]}
def Ya:An:= {}
def Uk:An:= {loop:= [(9,⟨[1,2,51,52],[],[(8,false,[.own tQ 43]),(53,false,vI)],[],[]⟩)],plan:= [(5,[1,4,6,9],[],true,(.p 0 (.q 1 (.p 2 (.p 3 (.q 4 (.p 5 (.q 6 (.p 7 (.p 8 (.q 9 (.p 10 .done))))))))))))]}
def Dn:A2 G9.args->Prop:=fun(x:Int×List Int×List QQ×Unit)=>let a:=(0:Int);let b:Prop:=(a<=x.1/\x.1<(x.2.1.length:Int));b/\(iB (decide (gx a x.2.1 x.1<a)) (True/\I2 fun r=>r.1=ri a->(r.1=if I8 x.2.1 x.1<a then rc (0:Rat)else x.2.2.1.getD (I8 x.2.1 x.1).toNat zr)/\x.2.1=x.2.1/\x.2.2.1=x.2.2.1) (b/\(a<=gx a x.2.1 x.1/\gx a x.2.1 x.1<(x.2.2.1.length:Int))/\(gx dQ x.2.2.1 (gx a x.2.1 x.1)=if I8 x.2.1 x.1<a then rc (0:Rat)else x.2.2.1.getD (I8 x.2.1 x.1).toNat zr)/\x.2.1=x.2.1/\x.2.2.1=x.2.2.1))
def Ie:A2 P6.args->Prop:=fun(x:(Int×List (Int×Int×QQ×(Bool×List Int)×List Int))×Int×List EE×Unit)=>let u:=(64:Nat);let s:=(1:Int);let f:=(140737488355328:Nat);let d:=(x.1.2.length:Int);let c:=(0:Int);∃(I:IN->Prop),∃(B: _->Nat),I ([],c,())/\∀(p:IN),let t:=(p.1,());let b:Prop:=(p.2.1=x.2.1);let a:=(gx (c,c,dQ,(false,[]),[]) x.1.2 p.2.1);tE.sl.wf p.1/\(Ty.int i64).wf p.2.1/\True->I p->(iB (decide (p.2.1<d)) (∃(J:Yr->Prop),((c<=p.2.1/\p.2.1<d)/\(Yf K1 x.2.2.1/\I2 fun r=>r.1=rc (A4 x.2.2.1 a.2.1)->(Yf K1 x.2.2.1/\I2 fun A=>let v:=(rv r.1-rv A.1);A.1=rc (A4 x.2.2.1 a.1)->((E6 r.1/\E6 A.1)/\I2 fun z=>z.1=rc v->∃(J_1:LI->Prop),((iB (decide b) (True/\I2 fun r=>r.1=ri s->(E6 z.1/\E6 r.1)/\I2 fun y=>y.1=rc (rv z.1+rv r.1)->J_1 (y.1.1.1,y.1.1.2,y.1.2,())) (J_1 (z.1.1.1,z.1.1.2,z.1.2,()))))/\∀(w:LI),let h:=((w.1,w.2.1),w.2.2.1);Ty.bool.wf w.1/\(Ty.int u32).sl.wf w.2.1/\(Ty.int u32).sl.wf w.2.2.1/\True->J_1 w->(E6 a.2.2.1/\E6 h)/\I2 fun r=>let m:=(p.2.1,r.1);r.1=rc (rv a.2.2.1*rv h)->True/\Cp fun y=>y.1=(rv r.1).num.sign->(iB (decide (y.1≠c)) (((p.1.length+ [m].length)*u<=f/\p.1.length+ [m].length<=9223372036854775807)/\J (p.1++ [m],())) (J t)))/\(E6 r.1/\E6 A.1)/\I2 fun z=>z.1=rc v->∃(J_1:LI->Prop),((iB (decide b) (True/\I2 fun r=>r.1=ri s->(E6 z.1/\E6 r.1)/\I2 fun y=>y.1=rc (rv z.1+rv r.1)->J_1 (y.1.1.1,y.1.1.2,y.1.2,())) (J_1 (z.1.1.1,z.1.1.2,z.1.2,()))))/\∀(w:LI),let i:=((w.1,w.2.1),w.2.2.1);Ty.bool.wf w.1/\(Ty.int u32).sl.wf w.2.1/\(Ty.int u32).sl.wf w.2.2.1/\True->J_1 w->(E6 a.2.2.1/\E6 i)/\I2 fun r=>let n:=(p.2.1,r.1);r.1=rc (rv a.2.2.1*rv i)->True/\Cp fun y=>y.1=(rv r.1).num.sign->(iB (decide (y.1≠c)) (((p.1.length+ [n].length)*u<=f/\p.1.length+ [n].length<=9223372036854775807)/\J (p.1++ [n],())) (J t)))/\Yf K1 x.2.2.1/\I2 fun A=>A.1=rc (A4 x.2.2.1 a.1)->(E6 r.1/\E6 A.1)/\I2 fun z=>z.1=rc (rv r.1-rv A.1)->∃(J_1:LI->Prop),((iB (decide b) (True/\I2 fun r=>r.1=ri s->(E6 z.1/\E6 r.1)/\I2 fun y=>y.1=rc (rv z.1+rv r.1)->J_1 (y.1.1.1,y.1.1.2,y.1.2,())) (J_1 (z.1.1.1,z.1.1.2,z.1.2,()))))/\∀(w:LI),let k:=((w.1,w.2.1),w.2.2.1);Ty.bool.wf w.1/\(Ty.int u32).sl.wf w.2.1/\(Ty.int u32).sl.wf w.2.2.1/\True->J_1 w->(E6 a.2.2.1/\E6 k)/\I2 fun r=>let o:=(p.2.1,r.1);r.1=rc (rv a.2.2.1*rv k)->True/\Cp fun y=>y.1=(rv r.1).num.sign->(iB (decide (y.1≠c)) (((p.1.length+ [o].length)*u<=f/\p.1.length+ [o].length<=9223372036854775807)/\J (p.1++ [o],())) (J t)))/\Yf K1 x.2.2.1/\I2 fun r=>r.1=rc (A4 x.2.2.1 a.2.1)->Yf K1 x.2.2.1/\I2 fun A=>A.1=rc (A4 x.2.2.1 a.1)->(E6 r.1/\E6 A.1)/\I2 fun z=>z.1=rc (rv r.1-rv A.1)->∃(J_1:LI->Prop),((iB (decide b) (True/\I2 fun r=>r.1=ri s->(E6 z.1/\E6 r.1)/\I2 fun y=>y.1=rc (rv z.1+rv r.1)->J_1 (y.1.1.1,y.1.1.2,y.1.2,())) (J_1 (z.1.1.1,z.1.1.2,z.1.2,()))))/\∀(w:LI),let l:=((w.1,w.2.1),w.2.2.1);Ty.bool.wf w.1/\(Ty.int u32).sl.wf w.2.1/\(Ty.int u32).sl.wf w.2.2.1/\True->J_1 w->(E6 a.2.2.1/\E6 l)/\I2 fun r=>let q:=(p.2.1,r.1);r.1=rc (rv a.2.2.1*rv l)->True/\Cp fun y=>y.1=(rv r.1).num.sign->(iB (decide (y.1≠c)) (((p.1.length+ [q].length)*u<=f/\p.1.length+ [q].length<=9223372036854775807)/\J (p.1++ [q],())) (J t)))/\∀(w:Yr),let g:=(w.1,i64.wrap (p.2.1+s),());tE.sl.wf w.1/\True->J w->I g/\B g<B p) (Z4 p.1/\(∀(e:D1),e∈p.1->c<=e.1/\e.1<(↑x.1.2.length:Int))/\∀(j:Nat),j<x.1.2.length->A4 p.1 (↑j:Int)=Un x.1.2 j*(A4 x.2.2.1 (↑(Ck x.1.2 j):Int)-A4 x.2.2.1 (↑(Cj x.1.2 j):Int)+if(↑j:Int)=x.2.1 then(1:Rat)else(0:Rat))))
def Ic:A2 P5.args->Prop:=fun(x:(List Int×MM×Int×Int×List (List EE))×Unit)=>True/\Ql fun r=>r.1=decide (C2 x.1.2.1)->((!r.1)=false->True)/\∀(a:V2),((!r.1)=false->(True/\True)/\a.1=decide (C2 x.1.2.2))->(iB ((I6 (!r.1) true !a.1)) (false=decide (Qt x.1)) (I6 (I6 (decide (x.1.2.2.1=x.1.2.1.1)) (decide (x.1.2.2.2.1=x.1.2.1.1)) false) (decide (x.1.2.1.2.1=(x.1.1.length:Int))) false=decide (Qt x.1)))
abbrev B7x:=List QQ×Int×Unit
def Hl:A2 N7.args->Prop:=fun(x:(List Int×MM×Int×Int×List (List EE))×Int×Int×Unit)=>let k:=(3:Int);let i:=(13:Int);let h:=(1:Int);let g:=(x.1.2.1.2.2.length:Int);let d:=(x.1.1.length:Int);let n:=(decide (d<=x.2.2.1));let b:=(↑x.1.1.length:Int);let a:=(0:Int);let m:Prop:=(gx a x.1.1 x.2.1≠gx a x.1.1 x.2.2.1);let f:=(I6 (I6 (decide (x.2.1<a)) true (decide (d<=x.2.1))) true (decide (x.2.2.1<a)));let c:Prop:=(a<=x.2.1/\x.2.1<b/\a<=x.2.2.1/\x.2.2.1<b);True/\Ql fun r=>r.1=decide (Qt x.1)->(iB ((!r.1)) ((¬Qt x.1->Cl QQ= []/\h=h)/\(Qt x.1->(¬c->Cl QQ= []/\h=k)/\(a<=x.2.1/\x.2.1<b/\a<=x.2.2.1/\x.2.2.1<b->(x.1.1.getD x.2.1.toNat a≠x.1.1.getD x.2.2.1.toNat a->Cl QQ= []/\h=i)/\(x.1.1.getD x.2.1.toNat a=x.1.1.getD x.2.2.1.toNat a->h=a/\Cl QQ=TG x.1.2.1.1.toNat fun(l:Nat)=>A4 (x.1.2.1.2.2.getD l []) x.2.1-A4 (x.1.2.1.2.2.getD l []) x.2.2.1)))) ((iB (I6 f true n) ((¬Qt x.1->Cl QQ= []/\k=h)/\(Qt x.1->(¬c->Cl QQ= []/\k=k)/\(a<=x.2.1/\x.2.1<b/\a<=x.2.2.1/\x.2.2.1<b->(x.1.1.getD x.2.1.toNat a≠x.1.1.getD x.2.2.1.toNat a->Cl QQ= []/\k=i)/\(x.1.1.getD x.2.1.toNat a=x.1.1.getD x.2.2.1.toNat a->k=a/\Cl QQ=TG x.1.2.1.1.toNat fun(l:Nat)=>A4 (x.1.2.1.2.2.getD l []) x.2.1-A4 (x.1.2.1.2.2.getD l []) x.2.2.1)))) ((a<=x.2.1/\x.2.1<d)/\(a<=x.2.2.1/\x.2.2.1<d)/\(iB (decide m) ((¬Qt x.1->Cl QQ= []/\i=h)/\(Qt x.1->(¬c->Cl QQ= []/\i=k)/\(a<=x.2.1/\x.2.1<b/\a<=x.2.2.1/\x.2.2.1<b->(x.1.1.getD x.2.1.toNat a≠x.1.1.getD x.2.2.1.toNat a->Cl QQ= []/\i=i)/\(x.1.1.getD x.2.1.toNat a=x.1.1.getD x.2.2.1.toNat a->i=a/\Cl QQ=TG x.1.2.1.1.toNat fun(l:Nat)=>A4 (x.1.2.1.2.2.getD l []) x.2.1-A4 (x.1.2.1.2.2.getD l []) x.2.2.1)))) ((a<=a/\a<=x.1.2.1.1/\(↑(56:Nat):Int)*x.1.2.1.1<=281474976710656/\x.1.2.1.1<=9223372036854775807)/\∃(I:B7x->Prop),∃(d: _->Nat),I (List.replicate a.toNat dQ,a,())/\∀(p:B7x),let e:=(gx [] x.1.2.1.2.2 p.2.1);tQ.sl.wf p.1/\(Ty.int i64).wf p.2.1/\True->I p->(iB (decide (p.2.1<g)) ((a<=p.2.1/\p.2.1<g)/\Yf K1 e/\I2 fun r=>r.1=rc (A4 e x.2.1)->Yf K1 e/\I2 fun q=>q.1=rc (A4 e x.2.2.1)->(E6 r.1/\E6 q.1)/\I2 fun o=>let j:=(p.1++ [o.1],i64.wrap (p.2.1+h),());o.1=rc (rv r.1-rv q.1)->((p.1.length+ [o.1].length)*(56:Nat)<=(140737488355328:Nat)/\p.1.length+ [o.1].length<=9223372036854775807)/\I j/\d j<d p) ((¬Qt x.1->p.1= []/\a=h)/\(Qt x.1->(¬c->p.1= []/\a=k)/\(a<=x.2.1/\x.2.1<b/\a<=x.2.2.1/\x.2.2.1<b->(x.1.1.getD x.2.1.toNat a≠x.1.1.getD x.2.2.1.toNat a->p.1= []/\a=i)/\(x.1.1.getD x.2.1.toNat a=x.1.1.getD x.2.2.1.toNat a->a=a/\p.1=TG x.1.2.1.1.toNat fun(l:Nat)=>A4 (x.1.2.1.2.2.getD l []) x.2.1-A4 (x.1.2.1.2.2.getD l []) x.2.2.1)))))))))))
def A6s {n:Nat} {d:Nat->Nat} (i:∀a,a<n->d a<n) (h:∀a b,a<n->b<n->d a=d b->a=b) (f:Nat->Rat):C6 n (fun a=>f (d a))=C6 n f:=by
 have j:C6 n f=C6 n fun c=>C6 n fun a=>if d a=c then f c else 0:=B7 fun c g=>by
  obtain⟨a,d,rfl⟩:=Gk i h g;rw[O8 d fun b k l=>qK fun e=>l (h b a k d e),qR rfl]
 rw[j,Ly];refine B7 fun a d=> ?_
 rw[O8 (i a d) fun c _ g=>qK (Ne.symm g),qR rfl]
def aL {n:Nat} {A B:Nat->Nat->Rat} (h:∀i j,i<n->j<n->A i j=B i j) (b:nonsing n A):nonsing n B:=fun x c=>b x fun i a=>by
 rw[<-c i a];exact B7 fun j b=>by rw[h i j a b]
def C0l {t:Nat} {E:List Wv} (h:∀i,i<t->qs 2 (Un E i)) (a:t<=9) (b c:Nat):qs 28 (NZ t (Cj E) (Ck E) (Un E) b c):=by
 unfold NZ;refine L8 (A4f (k:=2) fun i a=> ?_) (by omega);rw[show Un E i*(PR (Cj E) (Ck E) b i*PR (Cj E) (Ck E) c i)=PR (Cj E) (Ck E) b i*(PR (Cj E) (Ck E) c i*Un E i)from by grind];exact A9b (by decide) (A9b (by decide) (h i a))
def A6z {N:Hq} (d:Bb N) (f:∀e∈N.2,Jh e.2.2.1) (b c:Nat):qs 28 (FE N.2 b c):=C0l (fun i a=>Jm (f _ (C8 a)) (d.2.2 _ (C8 a)).1 (by decide)) d.2.1 b c
def B2m {k:Nat} {m:U9} (b:C2 m) (c:∀v∈m.2.2,Z4 v) (l:1<=k) (h:∀i j:Nat,(i:Int)<m.1->qs k (el m i j)):X5 k m:=fun v a=>by
 obtain⟨i,d,rfl⟩:=Z7 [] a;have f:(i:Int)<m.1:=by rw[<-b.2.2.2.2.1];exact sO.2 d
 refine DJ (c _ a) fun j=> ?_
 by_cases g:0<=j
 . have:=h i j.toNat f;unfold el at this;rwa[show((j.toNat:Nat):Int)=j from by omega]at this
 . rw[D5 fun e c d=>g (by rw[<-d];exact((b.2.2.2.2.2 _ a).2 e c).1)];exact Q4 l
def C1k {k:Nat} (h:k<=6):hK (sK 28 k) (gK (sK 28 k) 256 k) k+sK 28 k<=K0/\1<=sK 28 k/\sK 28 (k-1)<=K1/\sK 28 k<=K1:=by
 have:k=0\/k=1\/k=2\/k=3\/k=4\/k=5\/k=6:=by omega
 rcases this with rfl|rfl|rfl|rfl|rfl|rfl|rfl<;>decide+kernel
variable {N:Hq}
def Dx (a:H2 N):(Ar N.1 (KZ N.2)).length=N.1.toNat/\∀b,b<N.1.toNat->(Ar N.1 (KZ N.2)).getD b 0=(O1 N b:Int)/\O1 N b<=b/\O1 N (O1 N b)=O1 N b:=by
 have c:=iC a;have a:=AE N.1 (KZ N.2);have g:=B1m c.1 c.2.2;refine⟨a,fun b c=> ?_⟩;obtain⟨d,h,f⟩:=g (b:Int) (qD b) (by rw[a];exact sO.2 c);have c:I8 (Ar N.1 (KZ N.2)) (b:Int)=(Ar N.1 (KZ N.2)).getD b 0:=rfl;have a:((O1 N b:Nat):Int)=I8 (Ar N.1 (KZ N.2)) (b:Int):=sN d;refine⟨by rw[a,c],by omega, ?_⟩;have c:O1 N (O1 N b)=(I8 (Ar N.1 (KZ N.2)) (O1 N b:Int)).toNat:=rfl;rw[c,a,f];rfl
def A0f (c:H2 N) {b:Nat} (a:b<N.1.toNat):O1 N b<N.1.toNat:=xY ((Dx c).2 b a).2.1 a
def B9p {i:Nat} (a:i<N.2.length):((N.2.getD i dB).1,(N.2.getD i dB).2.1)∈KZ N.2:=vC (f:=fun e:Wv=>(e.1,e.2.1)) (C8 a)
def fI (f:H2 N) {i:Nat} (d:i<N.2.length):(N.2.getD i dB).1=(Cj N.2 i:Int)/\(N.2.getD i dB).2.1=(Ck N.2 i:Int):=by
 obtain⟨a,b,c,g,_⟩:=WP f d;exact⟨(sN a).symm,(sN c).symm⟩
def gU (c:H2 N) {i:Nat} (a:i<N.2.length):O1 N (Cj N.2 i)=O1 N (Ck N.2 i):=by
 have b:=iC c;have h:=A5v b.1 b.2.2 (B9p a);obtain⟨b,d⟩:=fI c a;simp only[b,d]at h;unfold O1;rw[h]
def B1l (c:H2 N) {φ:Nat->Rat} (h:∀i,i<N.2.length->φ (Cj N.2 i)=φ (Ck N.2 i)):∀b,b<N.1.toNat->φ b=φ (O1 N b):=by
 have a:=iC c;intro b c;have:=A5u a.1 a.2.2 (f:=fun i:Int=>φ i.toNat) (fun l hl=> ?_) (b:Int) (qD b) (by omega)
 . exact this.symm
 . unfold KZ at hl;obtain⟨e,a,rfl⟩:=sP.1 hl;obtain⟨i,c,rfl⟩:=Z7 dB a;exact h i c
def I9 (N:Hq) (b:Nat):List Int:=List.map (fun c:Nat=>(c:Int)) ((List.range b).filter fun c=>decide (O1 N c≠c))
def A6k (N:Hq) (b:Nat):I9 N (b+1)=if O1 N b≠b then I9 N b++ [(b:Int)]else I9 N b:=by
 unfold I9;rw[yC,g3l,uJ];by_cases h:O1 N b≠b
 . rw[qR h];congr 1;simp[h]
 . rw[qK h];simp[h]
def AS {b:Nat} {c:Int} :c∈I9 N b↔0<=c/\c<(b:Int)/\O1 N c.toNat≠c.toNat:=by
 unfold I9;rw[sP];constructor
 . rintro⟨d,a,rfl⟩;rw[wE,vS]at a;exact⟨qD d,sO.2 a.1,qA a.2⟩
 . rintro⟨d,f,a⟩;exact⟨c.toNat,wE.2 ⟨vS.2 (by omega),rG a⟩,by omega⟩
def IH (N:Hq) (b:Nat):(I9 N b).Nodup:=by
 unfold I9 List.Nodup;rw[vM];refine g3v (R:=fun a b:Nat=>a<b) (fun {a b} h=>by omega) ?_;exact List.pairwise_lt_range.filter _
def B2r (d:H2 N):(I9 N N.1.toNat).length<=N.1.toNat-1:=by
 have h:=EF (l:=(I9 N N.1.toNat).map fun c=>c-1) (n:=N.1.toNat-1) ?_ ?_
 . rwa[tG]at h
 . unfold List.Nodup;rw[vM];exact(IH N _).imp fun h=>by omega
 . intro y a;obtain⟨c,b,rfl⟩:=sP.1 a;obtain⟨f,g,a⟩:=AS.1 b;have b:c.toNat<N.1.toNat:=by omega
   have:=((Dx d).2 c.toNat b).2.1;have:c≠0:=fun e=>by subst e;simp at a this;omega
   omega
def XJ (f:H2 N):(∀a,a<(I9 N N.1.toNat).length->ix (I9 N N.1.toNat) a<N.1.toNat/\O1 N (ix (I9 N N.1.toNat) a)≠ix (I9 N N.1.toNat) a/\(I9 N N.1.toNat).getD a 0=(ix (I9 N N.1.toNat) a:Int))/\(∀a c,a<(I9 N N.1.toNat).length->c<(I9 N N.1.toNat).length->ix (I9 N N.1.toNat) a=ix (I9 N N.1.toNat) c->a=c)/\∀b,b<N.1.toNat->O1 N b≠b->∃a,a<(I9 N N.1.toNat).length/\ix (I9 N N.1.toNat) a=b:=by
 have g:∀a,a<(I9 N N.1.toNat).length->0<=(I9 N N.1.toNat).getD a 0/\(I9 N N.1.toNat).getD a 0<(N.1.toNat:Int)/\O1 N ((I9 N N.1.toNat).getD a 0).toNat≠((I9 N N.1.toNat).getD a 0).toNat:=fun a f=>AS.1 (C8 (d:=(0:Int)) f)
 refine⟨fun a f=> ?_,fun a c f h e=> ?_,fun b l i=> ?_⟩
 . obtain⟨i,j,k⟩:=g a f;unfold ix;exact⟨by omega,k,by omega⟩
 . have e:((I9 N N.1.toNat).getD a 0).toNat=((I9 N N.1.toNat).getD c 0).toNat:=e;have i:=g a f;have j:=g c h;have g:(I9 N N.1.toNat).getD a 0=(I9 N N.1.toNat).getD c 0:=by omega
   rw[H6 _ _ f,H6 _ _ h]at g;exact(wK (IH N _)).1 g
 . have h:(b:Int)∈I9 N N.1.toNat:=AS.2 ⟨qD b,sO.2 l,by rwa[qM]⟩;obtain⟨a,f,g⟩:=Z7 (0:Int) h;exact⟨a,f,by unfold ix;rw[g,qM]⟩
def nB (d:H2 N):nonsing (I9 N N.1.toNat).length fun a c=>FE N.2 (ix (I9 N N.1.toNat) a) (ix (I9 N N.1.toNat) c):=by
 obtain⟨h,k,f⟩:=XJ d;refine nF (lab:=O1 N) (fun i g=>A0m d g) (fun i g=>B6k d g) (fun a f=>(h a f).1) k (fun l j b g=>B1l d j b g) fun b g a f e=> ?_
 have:=(h a f).2.1;rw[e,((Dx d).2 b g).2.2]at this;exact this rfl
def B2s (f:H2 N) {J right X:Nat->Rat} (k:∀a,a<(I9 N N.1.toNat).length->C6 (I9 N N.1.toNat).length (fun c=>FE N.2 (ix (I9 N N.1.toNat) a) (ix (I9 N N.1.toNat) c)*X c)=right a)
 (n:∀a,a<(I9 N N.1.toNat).length->right a=J (ix (I9 N N.1.toNat) a)-SE N.2 (fun i=>Un N.2 i*brH N.2 i) (ix (I9 N N.1.toNat) a)) (j:∀t,t<N.1.toNat->C6 N.1.toNat (fun b=>(if O1 N b=t then 1 else 0)*J b)=0):∀b,b<N.1.toNat->SE N.2 (flN N.2 (Qc (I9 N N.1.toNat).length (ix (I9 N N.1.toNat)) X)) b=J b:=by
 obtain⟨g,d,h⟩:=XJ f;exact B3k (lab:=O1 N) (fun i d=>A0m f d) (fun a l=>(g a l).1) h (fun i d=>gU f d) k n j
def B1r (f:Nat->Rat) {i:Int} (a:0<=i):TG (i+1).toNat f=TG i.toNat f++ [rc (f i.toNat)]:=by
 unfold TG;rw[show(i+1).toNat=i.toNat+1 from by omega,yC,uJ];rfl
end Go.Proofs.YtiflhbllbgajeaaGreat
namespace Go.Proofs.YtiflhbllbgajeaaGreat
open Go.Proofs.Tryz
open Go.IntKind (i64 u32)
section
variable {N:Hq} {G:Nat->Nat->Rat}
def Wx (b:H2 N) {i:Nat} (a:i<N.2.length):Cj N.2 i<N.1.toNat/\Ck N.2 i<N.1.toNat:=by
 obtain⟨c,f,g,d, -, -⟩:=b.2.2.2 _ (C8 (d:=dB) a);unfold Cj Ck;omega
def VP (d:H2 N) (f:En N G) {b:Nat} (a:b<N.1.toNat) (φ:Nat->Rat) (j:∀c,c<N.1.toNat->O1 N c=c->φ c=0):C6 N.2.length (fun i=>Kw N.2 G i b*(φ (Cj N.2 i)-φ (Ck N.2 i)))=φ b:=by
 rw[B7o (n:=N.1.toNat) fun i h=>Wx d h,B7 (g:=fun c=>(if b=c then 1 else 0)*φ c-(if O1 N b=c then 1 else 0)*φ c) fun c hc=> ?_,Sm,Jl a,Jl (A0f d a),j _ (A0f d a) ((Dx d).2 b a).2.2]
 . grind
 . have:=(f b a).2 c hc;unfold SE at this;rw[this];grind
def Ux (h:H2 N) (c:En N G) {a b:Nat} (f:a<N.1.toNat) (g:b<N.1.toNat):G a b=G b a:=by
 rw[<-VP h c f (fun d=>G d b) (c b g).1, <-VP h c g (fun d=>G d a) (c a f).1];exact B7 fun i _=>by unfold Kw;grind
def B4i (a:H2 N) (b:En N G) {l k:Nat} (f:l<N.2.length) (h:k<N.2.length):bL N.2 G l k=bL N.2 G k l:=by
 obtain⟨c,d⟩:=Wx a f;obtain⟨f,g⟩:=Wx a h;unfold bL;rw[Ux a b c f,Ux a b d f,Ux a b c g,Ux a b d g];grind
def iO (E:List Wv) (G:Nat->Nat->Rat) (l k:Nat):Kw E G l (Cj E k)-Kw E G l (Ck E k)=Un E l*bL E G l k:=by unfold Kw bL;grind
def C1x (h:H2 N) (d:En N G) {k:Nat} (g:k<N.2.length) {c:Nat} (f:c<N.1.toNat):SE N.2 (fun l=>Un N.2 l*bL N.2 G l k) c=(if Cj N.2 k=c then 1 else 0)-(if Ck N.2 k=c then 1 else 0):=by
 obtain⟨b,j⟩:=Wx h g;have e:SE N.2 (fun l=>Un N.2 l*bL N.2 G l k) c=SE N.2 (fun l=>Kw N.2 G l (Cj N.2 k)-Kw N.2 G l (Ck N.2 k)) c:=NP (fun i _=>(iO N.2 G i k).symm) c;rw[e];unfold SE;rw[B5n];have a:=(d _ b).2 c f;have b:=(d _ j).2 c f;unfold SE at a b;rw[a,b,gU h g];grind
def B4f (a:H2 N) (h:En N G) {k:Nat} (b:k<N.2.length) (φ:Nat->Rat):C6 N.2.length (fun i=>Un N.2 i*bL N.2 G i k*(φ (Cj N.2 i)-φ (Ck N.2 i)))=φ (Cj N.2 k)-φ (Ck N.2 k):=by
 obtain⟨d,f⟩:=Wx a b;rw[B7o (n:=N.1.toNat) fun i c=>Wx a c,B7 (g:=fun c=>(if Cj N.2 k=c then 1 else 0)*φ c-(if Ck N.2 k=c then 1 else 0)*φ c) fun c hc=> ?_,Sm,Jl d,Jl f];have:=C1x a h b hc;unfold SE at this;rw[this];grind
def B4g (d:H2 N) (a:En N G) {k l:Nat} (b:k<N.2.length):C6 N.2.length (fun i=>Un N.2 i*bL N.2 G i k*bL N.2 G i l)=bL N.2 G k l:=by
 have:=B4f d a b (fun c=>G c (Cj N.2 l)-G c (Ck N.2 l));have e:∀i,bL N.2 G i l=(G (Cj N.2 i) (Cj N.2 l)-G (Cj N.2 i) (Ck N.2 l))-(G (Ck N.2 i) (Cj N.2 l)-G (Ck N.2 i) (Ck N.2 l)):=fun i=>by unfold bL;grind
 rw[e k, <-this];exact B7 fun i _=>by rw[e i]
end
section
variable {N:Hq}
def B3b (f g:Nat->Rat) (c:Nat):SE N.2 (fun i=>f i+g i) c=SE N.2 f c+SE N.2 g c:=by
 unfold SE ZT;rw[<-Ha];exact B7 fun i _=>by grind
def B4d (d:H2 N) {b:Nat} (a:b<N.1.toNat) (t:Nat):C6 N.1.toNat (fun c=>(if O1 N c=t then 1 else 0)*((if b=c then 1 else 0)-(if O1 N b=c then 1 else 0)))=0:=by
 rw[B7 (g:=fun c=>(if b=c then 1 else 0)*(if O1 N c=t then 1 else 0)-(if O1 N b=c then 1 else 0)*(if O1 N c=t then 1 else 0)) fun c _=>by grind,Sm,Jl a,Jl (A0f d a),((Dx d).2 b a).2.2];grind
def B0t (h:H2 N) (X:Nat->Nat->Rat) (s:∀b,b<N.1.toNat->O1 N b≠b->∀a,a<(I9 N N.1.toNat).length->C6 (I9 N N.1.toNat).length (fun c=>FE N.2 (ix (I9 N N.1.toNat) a) (ix (I9 N N.1.toNat) c)*X b c)=if ix (I9 N N.1.toNat) a=b then 1 else 0):
 En N (fun c b=>if O1 N b=b then 0 else Qc (I9 N N.1.toNat).length (ix (I9 N N.1.toNat)) (X b) c):=by
 obtain⟨o,d,i⟩:=XJ h;intro b k;by_cases d:O1 N b=b
 . refine⟨fun c _ _=>qR d,fun c _=> ?_⟩;rw[d];unfold SE ZT;rw[Bw fun i _=>by unfold Kw;simp only[qR d];grind];grind
 . refine⟨fun c r u=> ?_,fun c r=> ?_⟩
   . simp only[qK d];exact Zu _ fun a j e=>(o a j).2.1 (by rw[e];exact u)
   . have u:=B2s h (J:=fun c=>((if b=c then 1 else 0)-(if O1 N b=c then 1 else 0))+SE N.2 (fun i=>Un N.2 i*brH N.2 i) c) (right:=fun a=>if ix (I9 N N.1.toNat) a=b then 1 else 0) (X:=X b) (s b k d) (fun a j=> ?_) (fun t _=> ?_) c r
     . have e:SE N.2 (flN N.2 (Qc (I9 N N.1.toNat).length (ix (I9 N N.1.toNat)) (X b))) c=SE N.2 (fun l=>Kw N.2 (fun c b=>if O1 N b=b then 0 else Qc (I9 N N.1.toNat).length (ix (I9 N N.1.toNat)) (X b) c) l b) c+SE N.2 (fun i=>Un N.2 i*brH N.2 i) c:=by
        rw[<-B3b];refine NP (fun i _=> ?_) c;unfold flN flw Kw;simp only[qK d];grind
       rw[e]at u;grind
     . obtain⟨d,r,s⟩:=o a j;have d:O1 N b≠ix (I9 N N.1.toNat) a:=fun e=>r (by rw[<-e];exact((Dx h).2 b k).2.2)
       simp only[qK d];by_cases d:b=ix (I9 N N.1.toNat) a
       . rw[qR d,qR d.symm];grind
       . rw[qK d,qK (Ne.symm d)];grind
     . rw[B7 (g:=fun c=>(if O1 N c=t then 1 else 0)*((if b=c then 1 else 0)-(if O1 N b=c then 1 else 0))+(if O1 N c=t then 1 else 0)*SE N.2 (fun i=>Un N.2 i*brH N.2 i) c) fun c _=>by grind,Ha,B4d h k t];have:=VY (n:=N.1.toNat) (m:=N.2.length) (fr:=Cj N.2) (to:=Ck N.2) (f:=fun i=>Un N.2 i*brH N.2 i) (lab:=O1 N) (fun i hi=>Wx h hi) (fun i hi=>gU h hi) t;unfold SE;rw[this];grind
end
end Go.Proofs.YtiflhbllbgajeaaGreat
namespace Go.Proofs.YtiflhbllbgajeaaGreat
open Go.Proofs.Tryz
open Go.Vc Go.Gw
open Go.IntKind (i64 u32)
def Hh (o:List Int) (E:List Wv) (G:Nat->Nat->Rat) (i l:Nat) (row:List D1):Prop:=Z4 row/\(∀e∈row,∃a,a<i/\e.1=(ix o a:Int))/\∀a,a<i->A4 row (ix o a:Int)=Kw E G l (ix o a)
def B6p (N:Hq) (b:Nat) {a c:Nat} (f:a<c) (d:c<(I9 N b).length):ix (I9 N b) a<ix (I9 N b) c:=by
 have g:(I9 N b).Pairwise (· < ·):=by
  unfold I9;rw[vM];refine g3v (R:=fun a b:Nat=>a<b) (fun {a b} h=>by omega) ?_;exact List.pairwise_lt_range.filter _
 have h:=(tY.1 g) a c (by omega) d f;have f:=(AS.1 (wY (show a<(I9 N b).length by omega))).1;unfold ix;rw[H6 _ _ (by omega),H6 _ _ d];omega
section
variable {o:List Int} {E:List Wv} {G G':Nat->Nat->Rat} {i l:Nat} {row:List D1}
def Hh.zero:Hh o E G 0 l []:=⟨Zp,fun _ c=>absurd c rY,fun a b=>absurd b (uZ a)⟩
def Hh.congr (h:Hh o E G i l row) (d:∀a,a<i->∀c,G c (ix o a)=G' c (ix o a)):Hh o E G' i l row:=⟨h.1,h.2.1,fun a b=>by rw[h.2.2 a b];unfold Kw;rw[d a b,d a b]⟩
def Hh.skip (h:Hh o E G i l row) (f:∀a,a<i->ix o a<ix o i) (g:Kw E G l (ix o i)=0):Hh o E G (i+1) l row:=by
 refine⟨h.1,fun e b=> ?_,fun a d=> ?_⟩
 . obtain⟨a,d,c⟩:=h.2.1 e b;exact⟨a,by omega,c⟩
 . by_cases d:a=i
   . subst d;rw[g];exact D5 fun e b c=>by
      obtain⟨c,d,g⟩:=h.2.1 e b;have:=f c d;omega
   . exact h.2.2 a (by omega)
def Hh.add (h:Hh o E G i l row) (f:∀a,a<i->ix o a<ix o i) (b:Kw E G l (ix o i)≠0):Hh o E G (i+1) l (row++ [((ix o i:Int),rc (Kw E G l (ix o i)))]):=by
 refine⟨Lw h.1 b fun x g=> ?_,fun e b=> ?_,fun a d=> ?_⟩
 . obtain⟨a,d,c⟩:=h.2.1 x g;have:=f a d;omega
 . rcases qY.1 b with b|b
   . obtain⟨a,d,c⟩:=h.2.1 e b;exact⟨a,by omega,c⟩
   . exact⟨i,by omega,by rw[qP.1 b]⟩
 . rw[Ft];by_cases d:a=i
   . subst d;rw[qR rfl,D5 fun e b c=>by
      obtain⟨c,d,g⟩:=h.2.1 e b;have:=f c d;omega,tF]
   . have:=f a (by omega);rw[h.2.2 a (by omega),qK (by omega),rN]
def Hh.len {n:Nat} (h:Hh o E G i l row) (d:∀a,a<i->ix o a<n):row.length<=n:=gR (f:=fun j=>A4 row (j:Int)) ⟨h.1,fun e c=>by
 obtain⟨a,b,g⟩:=h.2.1 e c;have:=d a b;omega,fun j _=>rfl⟩
end
def Hh.done {N:Hq} {G:Nat->Nat->Rat} {l:Nat} {row:List D1} (a:H2 N) (h:Hh (I9 N N.1.toNat) N.2 G (I9 N N.1.toNat).length l row) (j:∀c b,O1 N b=b->G c b=0):SF N.1.toNat (fun b=>Kw N.2 G l b) row:=by
 obtain⟨i,d,n⟩:=XJ a;refine⟨h.1,fun e g=> ?_,fun b o=> ?_⟩
 . obtain⟨a,d,k⟩:=h.2.1 e g;have:=(i a d).1;omega
 . by_cases f:O1 N b=b
   . rw[D5 fun e g k=> ?_]
     . show 0=Un N.2 l*(G (Cj N.2 l) b-G (Ck N.2 l) b);rw[j _ _ f,j _ _ f];grind
     . obtain⟨a,d,j⟩:=h.2.1 e g;have:=(i a d).2.1;exact this (by rw[show ix (I9 N N.1.toNat) a=b by omega];exact f)
   . obtain⟨a,d,rfl⟩:=n b o f;exact h.2.2 a d
def Ka (x:A2 G9.args) (k:awf G9.args x) (j:G9.pre x):Dn x:=by
 obtain⟨b,a,X,_⟩:=x;change Int at b;change List Int at a;change List D3 at X;obtain⟨c,d,f⟩:0<=b/\b<(a.length:Int)/\I8 a b<(X.length:Int):=j;have i:gx 0 a b=I8 a b:=G7 c d;simp only[Dn,iB,I2,i];refine⟨⟨c,d⟩,fun h=>⟨trivial, ?_⟩,fun h=> ?_⟩
 . rintro⟨r,_⟩ _ g;simp only at g⊢;exact⟨by rw[qR (qA h),g,LB];rfl,trivial,trivial⟩
 . have h:=qB h;refine⟨⟨c,d⟩,⟨by omega,f⟩, ?_⟩;rw[qK h];exact⟨G7 (by omega) f,trivial,trivial⟩
def Qz (x:A2 P6.args) (c:awf P6.args x) (g:P6.pre x):Ie x:=by
 obtain⟨⟨n,E⟩,l,b,_⟩:=x;have a:∀e∈E,Jh e.2.2.1:=fun e a=>Jb (c.1.2.2 e a).2.2.1
 have d:AF b:=fun e a=>Jb (c.2.2.1.2 e a).2
 change Int at n;change List Wv at E;change Int at l;change List D1 at b;obtain⟨v,y,h,o,c⟩:H2 (n,E)/\Bb (n,E)/\0<=l/\l<(E.length:Int)/\Yf K2 b:=g;have g:E.length<=9:=y.2.1;have w:Yf K1 b:=B2n c (by decide);have o:∀i,qs K2 (A4 b i):=fun i=>Uq c.1 d c.2.1 (by decide) i
 simp only[Ie,iB,Cp,I2,and_self];generalize t:(fun k:Nat=>Un E k*(A4 b (Ck E k:Int)-A4 b (Cj E k:Int)+if(k:Int)=l then 1 else 0))=S;refine⟨fun p=>0<=p.2.1/\p.2.1<=(E.length:Int)/\Z4 p.1/\(∀e∈p.1,0<=e.1/\e.1<p.2.1)/\∀j:Nat,(j:Int)<p.2.1->A4 p.1 (j:Int)=S j,fun p=>((E.length:Int)-p.2.1).toNat,⟨qI _,qD _,Zp,fun e a=>(by cases a),fun j d=>by simp only at d;omega⟩, ?_⟩;rintro⟨row,k,_⟩ _ ⟨c,g,h,a,d⟩;change List D1 at row;change Int at k;simp only at c g h a d⊢;refine⟨fun g=> ?_,fun g=> ?_⟩
 . have g:=qA g;have u:k.toNat<E.length:=by omega
   have z:gx (0,0,dQ,(false,[]),[]) E k=E.getD k.toNat dB:=G7 c g;have A:E.getD k.toNat dB∈E:=C8 u;obtain⟨r,s⟩:=fI v u;simp only at r s;have v:((k.toNat:Nat):Int)=k:=by omega
   have u:sz 2 (E.getD k.toNat dB).2.2.1:=(y.2.2 _ A).1;have y:row.length<=9:=by
    have:=gR (n:=k.toNat) (f:=fun j=>A4 row (j:Int)) ⟨h,fun e hh=>⟨(a e hh).1,by have:=(a e hh).2;omega⟩,fun j _=>rfl⟩;omega
   rw[z,r,s];refine⟨fun q=>Z4 q.1/\(∀e∈q.1,0<=e.1/\e.1<k+1)/\∀j:Nat,(j:Int)<k+1->A4 q.1 (j:Int)=S j,⟨⟨c,g⟩,w, ?_⟩, ?_⟩
   . rintro⟨c,_⟩ _ r;simp only at r⊢;refine⟨w, ?_⟩;rintro⟨c,_⟩ _ s;simp only at s⊢;refine⟨⟨by rw[r];exact P9 (o _) (by decide),by rw[s];exact P9 (o _) (by decide)⟩, ?_⟩;rintro⟨w,_⟩ _ c;simp only at c⊢;rw[r,s,E3,E3]at c;have r:qs (K2+K2+1) (A4 b (Ck E k.toNat:Int)-A4 b (Cj E k.toNat:Int)):=OR (o _) (o _);have o:qs (K2+K2+1+1+1) (A4 b (Ck E k.toNat:Int)-A4 b (Cj E k.toNat:Int)+if k=l then 1 else 0):=by
      have:qs 1 (if k=l then(1:Rat)else 0):=by
       split
       . exact iU (qZ 1)
       . exact Q4 (qZ 1)
      exact XQ (j:=K2+K2+1) (k:=1) r this
     refine⟨fun q=>((q.1,q.2.1),q.2.2.1)=rc (A4 b (Ck E k.toNat:Int)-A4 b (Cj E k.toNat:Int)+if k=l then 1 else 0),⟨fun hkl=>⟨trivial, ?_⟩,fun hkl=> ?_⟩, ?_⟩
     . rintro⟨l,_⟩ _ b;simp only at b⊢;refine⟨⟨by rw[c];exact P9 r (by decide),by rw[b,LB];exact P9 (k:=1) (q:=1) (iU (qZ 1)) (by decide)⟩, ?_⟩;rintro⟨r,_⟩ _ l;simp only at l⊢;rw[l,c,b,E3,LB,E3,qR (qA hkl)];rfl
     . rw[qK (qB hkl),rN];exact c
     . rintro⟨c,l,r,_⟩ _ b;simp only at b⊢;rw[b];refine⟨⟨X8 u (by decide),P9 o (by decide)⟩, ?_⟩;rintro⟨c,_⟩ _ b;simp only at b⊢;have s:c=rc (S k.toNat):=by
        rw[b,E3, <-t];simp only;rw[v];rfl
       have u:∀j:Nat,(j:Int)<k+1->(j:Int)<k\/j=k.toNat:=fun j d=>by omega
       refine⟨trivial, ?_⟩;rintro⟨y,_⟩ _ l;simp only at l⊢;rw[s,E3]at l;refine⟨fun c=> ?_,fun o=> ?_⟩
       . have c:S k.toNat≠0:=fun e=>qA c (by rw[l,e];rfl)
         refine⟨⟨by rw[rC];omega,by rw[rC];omega⟩, ?_,fun e b=> ?_,fun j r=> ?_⟩
         . rw[s];exact Lw h c fun z w=>(a z w).2
         . rcases qY.1 b with b|b
           . have:=a e b;omega
           . rw[qP.1 b];simp only;omega
         . rw[s,Ft];rcases u j r with c|c
           . rw[d j c,qK (by omega),rN]
           . subst c;rw[qR v.symm,D5 fun e b s=>by have:=(a e b).2;omega,tF]
       . have o:S k.toNat=0:=by
          have c:y=0:=qU (qB o);rw[c]at l;exact BD l.symm
         refine⟨h,fun e b=>by have:=a e b;omega,fun j r=> ?_⟩;rcases u j r with c|c
         . exact d j c
         . subst c;rw[o,D5 fun e b s=>by have:=(a e b).2;omega]
   . rintro⟨r,_⟩ _ ⟨c,l,o⟩;simp only at c l o⊢;rw[wv (by omega)];exact⟨⟨by omega,by omega,c,l,o⟩,by omega⟩
 . have g:=qB g;refine⟨h,fun e b=> ?_,fun j c=> ?_⟩
   . have:=a e b;omega
   . rw[d j (by omega), <-t]
def Qy (x:A2 P5.args) (b:awf P5.args x) (a:P5.pre x):Ic x:=by
 obtain⟨⟨sl,⟨f,j,c⟩,i,g,h⟩,_⟩:=x;simp only[Ic,iB,Ql];refine⟨trivial, ?_⟩;rintro⟨r,_⟩ _ b;simp only at b⊢;refine⟨fun _=>trivial, ?_⟩;rintro⟨d,_⟩ a;simp only at a⊢;by_cases d:C2 (f,j,c)
 . rw[rG d]at b;subst b;have a:=(a rfl).2;by_cases c:C2 (i,g,h)
   . rw[rG c]at a;subst a;refine⟨fun h=>(by cases h),fun _=> ?_⟩;by_cases k:i=f<;>by_cases i:g=f<;>by_cases f:j=(sl.length:Int)<;>simp[I6,Qt,d,c,k,i,f]<;>simp_all
   . rw[rE c]at a;subst a;exact⟨fun _=>(rE fun h=>c h.2.1).symm,fun h=>(by cases h)⟩
 . rw[rE d]at b;subst b;exact⟨fun _=>(rE fun h=>d h.1).symm,fun h=>(by cases h)⟩
def Ol (x:A2 N7.args) (i:awf N7.args x) (h:N7.pre x):Hl x:=by
 obtain⟨⟨sl,⟨f,g,a⟩,M2⟩,b,c,_⟩:=x;have E:aJ (f,g,a):=Vd i.1.2.1.2.2.2;change List Int at sl;change Int at f g b c;change List (List D1)at a;have A:X5 K3 (f,g,a):=h;have D:X5 K1 (f,g,a):=fun v k e he=>F9 (A v k e he) (by decide)
 simp only[Hl,iB,I2,Ql,and_self];refine⟨trivial, ?_⟩;rintro⟨F,_⟩ _ i;simp only at i⊢;by_cases k:Qt (sl,(f,g,a),M2)
 case neg=>
  rw[rE k]at i;subst i;exact⟨fun _=>⟨fun _=>by first|trivial|exact⟨by trivial,by trivial⟩,fun h=>absurd h k⟩,fun h=>(by cases h)⟩
 rw[rG k]at i;subst i;refine⟨fun h=>(by cases h),fun _=> ?_⟩;have w:C2 (f,g,a):=k.1;have g:(a.length:Int)=f:=w.2.2.2.2.1;have g:f<=16384:=w.2.1;have n:I6 (I6 (I6 (decide (b<0)) true (decide ((sl.length:Int)<=b))) true (decide (c<0))) true (decide ((sl.length:Int)<=c))=true↔¬(0<=b/\b<(sl.length:Int)/\0<=c/\c<(sl.length:Int)):=by
  rw[G6,G6,G6];simp only[uA,decide_eq_true_iff];omega
 refine⟨fun h=> ?_,fun h=> ?_⟩
 . have h:=n.1 h;exact⟨fun g=>absurd k g,fun _=>⟨fun _=>by first|trivial|exact⟨by trivial,by trivial⟩,fun g=>absurd g h⟩⟩
 have t:0<=b/\b<(sl.length:Int)/\0<=c/\c<(sl.length:Int):=qU fun g=>by rw[n.2 g]at h;cases h
 obtain⟨n,o,r,s⟩:=t;have h:gx 0 sl b=sl.getD b.toNat 0:=G7 n o;have t:gx 0 sl c=sl.getD c.toNat 0:=G7 r s;rw[h,t];refine⟨⟨n,o⟩,⟨r,s⟩,fun h=> ?_,fun u=> ?_⟩
 . have h:=qA h;exact⟨fun g=>absurd k g,fun _=>⟨fun g=>absurd ⟨n,o,r,s⟩ g,fun _=>⟨fun _=>by first|trivial|exact⟨by trivial,by trivial⟩,fun g=>absurd g h⟩⟩⟩
 have u:sl.getD b.toNat 0=sl.getD c.toNat 0:=qU (qB u);refine⟨⟨qI _,by omega,by omega,by omega⟩,fun p=>0<=p.2.1/\p.2.1<=(a.length:Int)/\p.1=TG p.2.1.toNat fun l=>A4 (a.getD l []) b-A4 (a.getD l []) c,fun p=>((a.length:Int)-p.2.1).toNat,⟨qI _,qD _,rfl⟩, ?_⟩;rintro⟨out,b,_⟩ _ ⟨h,c,t⟩;change List D3 at out;change Int at b;simp only at h c t⊢;have c:out.length=b.toNat:=by rw[t,gX]
 refine⟨fun c=> ?_,fun c=> ?_⟩
 . have c:=qA c;have z:gx [] a b=a.getD b.toNat []:=G7 h c;have B:a.getD b.toNat []∈a:=C8 (by omega);have y:Yf K1 (a.getD b.toNat []):=by rw[<-z];exact XW w D (H8 (d:=([]:List D1)) (l:=a) h (by omega))
   have w:∀j,qs K3 (A4 (a.getD b.toNat []) j):=fun j=>Uq y.1 (E _ B) (A _ B) (by decide) j
   rw[z];refine⟨⟨h,c⟩,y, ?_⟩;rintro⟨F,_⟩ _ i;simp only at i⊢;refine⟨y, ?_⟩;rintro⟨y,_⟩ _ a;simp only at a⊢;refine⟨⟨by rw[i];exact P9 (w _) (by decide),by rw[a];exact P9 (w _) (by decide)⟩, ?_⟩;rintro⟨y,_⟩ _ w;simp only at w⊢;rw[i,a,E3,E3]at w;rw[wv (by omega)];exact⟨⟨by rw[rC];omega,by rw[rC];omega⟩,⟨by omega,by omega,by rw[B1r _ h,t,w]⟩,by omega⟩
 . have c:=qB c;refine⟨fun g=>absurd k g,fun _=>⟨fun g=>absurd ⟨n,o,r,s⟩ g,fun _=>⟨fun g=>absurd u g,fun _=>⟨by trivial, ?_⟩⟩⟩⟩;rw[t];show TG b.toNat _=TG f.toNat _;rw[show b.toNat=f.toNat from by omega]
def C3p (g:Nat->Pl):List Nat->Pl
 | []=> .done
 | [i]=> .e i (g i)
 |i::j::r=> .or i (g i) (C3p g (j::r))
def lin (D:List (Nat×List Nat)):Nat->List Nat->Pl
 |0,_=> .done
 |f+1,L=>C3p (fun i=>lin D f (i::L)) ((D.filter fun x=> !(L.any (Nat.beq x.1))&&x.2.all fun y=>L.any (Nat.beq y)).map Prod.fst)
def trA (b:Int) (n:Nat) (k:List QQ->List Int->List QQ->Prop) (l:List QQ) (a:List Int) (c:List QQ):Prop:=bif Nat.beq l.length n then((0:Int)<=b/\b<(↑(List.length a):Int)/\I8 a b<(↑(List.length c):Int))/\∀(r:QQ×Unit) (o:List Int×List QQ×Unit),CY r.1/\True->(Ty.int i64).sl.wf o.1/\tQ.sl.wf o.2.1/\True->(r.1=if I8 a b<(0:Int)then rc (0:Rat)else List.getD c (I8 a b).toNat zr)->o.1=a/\o.2.1=c->k (l++ [r.1]) o.1 o.2.1 else True
def trE (d f:Int) (c:QQ) (i:Nat) (k:List QQ->List Int->List QQ->Prop) (l:List QQ) (b:List Int) (a:List QQ):Prop:=match i with
 |5=>trA d 0 k l b a
 |9=>trA f 1 k l b a
 |10=>bif Nat.beq l.length 2 then(E6 (l.getD 0 dQ)/\E6 (l.getD 1 dQ))/\∀(r:QQ×Unit),CY r.1/\True->r.1=rc (rv (l.getD 0 dQ)-rv (l.getD 1 dQ))->k (l++ [r.1]) b a else True
 |11=>bif Nat.beq l.length 3 then(E6 c/\E6 (l.getD 2 dQ))/\∀(r:QQ×Unit),CY r.1/\True->r.1=rc (rv c*rv (l.getD 2 dQ))->k (l++ [r.1]) b a else True
 | _=>k l b a
def trD (a b:Int) (c:QQ) (J:QQ->List Int->List QQ->Prop):Pl->List QQ->List Int->List QQ->Prop
 | .done,l,f,d=>bif Nat.beq l.length 4 then J (l.getD 3 dQ) f d else True
 | .q _ p,l,f,d=>trD a b c J p l f d
 | .p _ p,l,f,d=>trD a b c J p l f d
 | .e i p,l,f,d=>trE a b c i (trD a b c J p) l f d
 | .or i p q,l,f,d=>trE a b c i (trD a b c J p) l f d/\trD a b c J q l f d
 | .al _ _ _,_,_,_=>True
def C1o {g h:Int} {d:QQ} {J:QQ->List Int->List QQ->Prop} {c:List Int} {f:List QQ} (l:0<=g/\g<(c.length:Int)/\I8 c g<(f.length:Int)) (o:0<=h/\h<(c.length:Int)/\I8 c h<(f.length:Int)) {a b:QQ}
 (r:a=if I8 c g<0 then rc 0 else f.getD (I8 c g).toNat zr) (hb:b=if I8 c h<0 then rc 0 else f.getD (I8 c h).toNat zr) (s1:E6 a) (s2:E6 b) (s3:E6 d) (s4:E6 (rc (rv a-rv b))) (hJ:J (rc (rv d*rv (rc (rv a-rv b)))) c f):
 ∀(p:Pl) (n:Nat),trD g h d J p ([a,b,rc (rv a-rv b),rc (rv d*rv (rc (rv a-rv b)))].take n) c f:=by
 have step:∀(i:Nat) (k:List QQ->List Int->List QQ->Prop) (n:Nat),(∀n,k ([a,b,rc (rv a-rv b),rc (rv d*rv (rc (rv a-rv b)))].take n) c f)->trE g h d i k ([a,b,rc (rv a-rv b),rc (rv d*rv (rc (rv a-rv b)))].take n) c f:=by
  intro i k n c;have g:([a,b,rc (rv a-rv b),rc (rv d*rv (rc (rv a-rv b)))].take n).length=min n 4:=qW;have f:∀m,m<4->Nat.beq (min n 4) m=true->n=m:=fun m hm h=>by have:=qE h;omega
  unfold trE;split
  . unfold trA;rw[g];cases h:Nat.beq (min n 4) 0 with
    |false=>trivial
    |true=>
     have:=f 0 (by omega) h;subst this;refine⟨l,fun t s _ _ k j=> ?_⟩;rw[j.1,j.2,k, <-r];exact c 1
  . unfold trA;rw[g];cases h:Nat.beq (min n 4) 1 with
    |false=>trivial
    |true=>
     have:=f 1 (by omega) h;subst this;refine⟨o,fun r l _ _ k j=> ?_⟩;rw[j.1,j.2,k, <-hb];exact c 2
  . rw[g];cases h:Nat.beq (min n 4) 2 with
    |false=>trivial
    |true=>
     have:=f 2 (by omega) h;subst this;refine⟨⟨s1,s2⟩,fun r _ j=> ?_⟩;rw[j];exact c 3
  . rw[g];cases h:Nat.beq (min n 4) 3 with
    |false=>trivial
    |true=>
     have:=f 3 (by omega) h;subst this;refine⟨⟨s3,s4⟩,fun r _ f=> ?_⟩;rw[f];exact c 4
  . exact c n
 intro p
 induction p with
 |done=>
  intro n;have c:([a,b,rc (rv a-rv b),rc (rv d*rv (rc (rv a-rv b)))].take n).length=min n 4:=qW;unfold trD;rw[c];cases h:Nat.beq (min n 4) 4 with
  |false=>trivial
  |true=>
   have c:4<=n:=by have:=qE h;omega
   rw[qV (by simpa using c)];exact hJ
 |q i p c=>intro n;exact c n
 |p i p c=>intro n;exact c n
 |e i p c=>intro n;exact step i _ n c
 |or i p q c d=>intro n;exact⟨step i _ n c,d n⟩
 |al _ _ _ _=>intro n;trivial
def trP:Pl:=lin [(1,[]),(5,[]),(8,[]),(9,[5,8]),(10,[9]),(11,[1,10]),(12,[]),(13,[11,12])] 8 []
def Em:An:= {join:= [(10,⟨[3,4,9,27,28,29],[0,1,3],[(8,false,[.own (.int .i64) 3])],[],[(2, .row (.int .i64) 3)]⟩),(33,⟨[3,8,9,13,14,16,20,72,73,74,97,98,99],[0,5],[],[(3,22,[.val (.sl (.int .i64))]),(8,46,[.val (.sl tQ)])],[(6, .rows tE 79 106)]⟩)],loop:= [(4,⟨[3,4,9,27,28],[0,1,3],[(8,false,[.own (.int .i64) 3]),(29,false,vI)],[],[(2, .row (.int .i64) 3)]⟩),(28,⟨[3,8,9,13,14,16,20,72,73,74,97,98],[0,5],[(99,false,vI)],[(3,22,[.val (.sl (.int .i64))]),(8,46,[.val (.sl tQ)])],[(6, .rows tE 79 106)]⟩),(19,⟨[3,8,9,13,14,72,73],[0,5],[(74,false,vI)],[(3,22,[.val (.sl (.int .i64))])],[(6, .rows tE 79 106)]⟩)],plan:= [(30,[4],[5,9,13],false,(.p 0 (.p 2 (.p 3 (.q 4 (.p 6 (.p 7 trP))))))),(32,[5,7],[10,12],false,(pZ9 0 5 (.q 5 (.p 6 (.q 7 (.p 8 (.e 9 (.e 10 (.p 11 (.e 12 .done))))))))))]}
def Qs:H1:= [(44,Aj),(67,U5),(77,V5),(78,N2),(79,L3),(80,Z9),(81,G9),(82,V8)]
abbrev C4w:=Int×List Int×List (List EE)×Unit
abbrev C4y:=Int×List Int×List QQ×List (List EE)×Unit
abbrev C5k:=List Int×List QQ×List (List EE)×Unit
def X9:A2 G5.args->Prop:=fun(x:(Int×List (Int×Int×QQ×(Bool×List Int)×List Int))×MM×List Int×Unit)=>let M:=(140737488355328:Nat);let E:=(281474976710656:Int);let D:=(1:Nat);let C:=(16384:Nat);let B:=(1:Int);let A:=(9223372036854775807:Int);let q:=(x.2.2.1.length:Int);let f:=(x.1.2.length:Int);let c:=(0:Int);(c<=x.1.1/\x.1.1<=x.1.1/\(↑(8:Nat):Int)*x.1.1<=E/\x.1.1<=A)/\∃(I:B7w->Prop),∃(h: _->Nat),I ([],c,List.replicate x.1.1.toNat c,())/\∀(p:B7w),let H:Prop:=(p.2.1≠gx c x.2.2.1 p.2.1);let w:=p.2.1.toNat;let K:=(List.set p.2.2.1 w (-1:Int));let a:Prop:=((∃(i:Int),i∈p.1/\(i<c\/x.2.1.1<=i))\/∃(i:Int),i∈p.1/\(i<c\/x.2.1.2.1<=i));let d:=(↑p.1.length:Int);(Ty.int i64).sl.wf p.1/\(Ty.int i64).wf p.2.1/\TW p.2.2.1/\True->I p->(decide (p.2.1<q)=true->∃(J:Fe->Prop),((c<=p.2.1/\p.2.1<q)/\(c<=p.2.1/\p.2.1<(p.2.2.1.length:Int))/\(decide H=true->(c<=p.2.1/\p.2.1<(↑K.length:Int))/\((p.1.length+ [p.2.1].length)*(8:Nat)<=M/\p.1.length+ [p.2.1].length<=9223372036854775807)/\J (p.1++ [p.2.1],K.set w d,()))/\(decide H=false->J (p.1,List.set p.2.2.1 w (-1:Int),())))/\∀(Q:Fe),let t:=(Q.1,i64.wrap (p.2.1+B),Q.2.1,());(Ty.int i64).sl.wf Q.1/\TW Q.2.1/\True->J Q->I t/\h t<h p)/\(decide (p.2.1<q)=false->(X5 K1 x.2.1/\p.1.length<=(1000:Nat)/\p.1.length<=(1000:Nat)/\p.1.Nodup)/\∀(r:jH),let y:=r.1.1.toNat;WfM r.1/\K9 r.2.1/\True->(¬C2 x.2.1->r.1=zm/\r.2.1=B)/\(C2 x.2.1->(a->r.1=zm/\r.2.1=3)/\(¬a->(C<p.1.length\/C<p.1.length->r.1=zm/\r.2.1=8)/\(p.1.length<=C/\p.1.length<=C->Kd p.1.length p.1.length (fun(i j:Nat)=>el x.2.1 (p.1.getD i c).toNat (p.1.getD j c).toNat) r.1/\r.2.1=c)))->(decide (r.2.1≠c)=true->r.2.1=c/\∃(G:Nat->Nat->Rat),En x.1 G/\(∀(a b:Nat),a<x.1.1.toNat->b<x.1.1.toNat->qs K0 (G a b))/\0=x.1.2.length/\∀(l:Nat),l<x.1.2.length->SF x.1.1.toNat (fun(b:Nat)=>Kw x.1.2 G l b) ([].getD l []))/\(decide (r.2.1≠c)=false->(∃(s:Nat),D<=s/\X5 s r.1/\s<=K1/\(C2 r.1->r.1.1=r.1.2.1->sK s (Int.toNat r.1.1-D)<=K1))/\∀(O:C4f),let g:=O.1.1.length;let N:=(↑g:Int);(TW O.1.1/\TW O.1.2.1/\WfM O.1.2.2.1/\K9 O.1.2.2.2.1/\K9 O.1.2.2.2.2.1/\Rh O.1.2.2.2.2.2)/\K9 O.2.1/\True->(¬C2 r.1->O.1=jP/\O.2.1=B)/\(C2 r.1->(r.1.1≠r.1.2.1->O.1=jP/\O.2.1=4)/\(r.1.1=r.1.2.1->(¬nonsing y (el r.1)->O.1=jP/\O.2.1=6)/\(nonsing y (el r.1)->Cu O.1 r.1.1/\O.2.1=c/\(∀(v:List EE),v∈O.1.2.2.1.2.2->Z4 v)/\(∀(v:List EE),v∈O.1.2.2.2.2.2->Z4 v)/\(∀(s:Nat),D<=s->X5 s r.1->∀(i j:Nat),i<Int.toNat r.1.1->qs (sK s y) (el O.1.2.2.1 i j)/\qs (sK s i) (el O.1.2.2.2 i j))/\∀(i j:Nat),i<Int.toNat r.1.1->j<Int.toNat r.1.1->luM O.1 y i j=el r.1 (ix O.1.1 i) (ix O.1.2.1 j))))->(decide (O.2.1≠c)=true->O.2.1=c/\∃(G:Nat->Nat->Rat),En x.1 G/\(∀(a b:Nat),a<x.1.1.toNat->b<x.1.1.toNat->qs K0 (G a b))/\0=x.1.2.length/\∀(l:Nat),l<x.1.2.length->SF x.1.1.toNat (fun(b:Nat)=>Kw x.1.2 G l b) ([].getD l []))/\(decide (O.2.1≠c)=false->(c<=f/\f<=f/\(↑(24:Nat):Int)*f<=E/\f<=A)/\∃(I:C4w->Prop),∃(h: _->Nat),I (c,p.2.2.1,List.replicate f.toNat [],())/\∀(Q:C4w),let m:=Q.1.toNat;(Ty.int i64).wf Q.1/\(Ty.int i64).sl.wf Q.2.1/\Rh Q.2.2.1/\True->I Q->(decide (Q.1<d)=true->(c<=Q.1/\Q.1<d)/\(c<=d/\d<=d/\(↑(56:Nat):Int)*d<=E/\d<=A)/\True/\∀(r:H0),CY r.1/\True->r.1=ri B->(c<=Q.1/\Q.1<(↑(List.replicate d.toNat dQ).length:Int))/\(List.length O.1.1<=C/\X5 K1 O.1.2.2.1/\X5 K1 O.1.2.2.2/\(Cu O.1 N->((List.replicate d.toNat dQ).set m r.1).length=List.length O.1.1->∃(s:Nat),∃(T:Nat),D<=s/\D<=T/\X5 s O.1.2.2.1/\X5 s O.1.2.2.2/\GN T ((List.replicate d.toNat dQ).set m r.1)/\hK s (gK s T g) g+s<=K1))/\∀(R:B7x),WfL R.1/\K9 R.2.1/\True->(¬Cu O.1 N->R.1= []/\R.2.1=B)/\(Cu O.1 N->(((List.replicate d.toNat dQ).set m r.1).length≠List.length O.1.1->R.1= []/\R.2.1=4)/\(((List.replicate d.toNat dQ).set m r.1).length=List.length O.1.1->R.2.1=c/\R.1.length=List.length O.1.1/\(∀(e:QQ),e∈R.1->e=rc (rv e))/\(∀(s T:Nat),D<=s->D<=T->X5 s O.1.2.2.1->X5 s O.1.2.2.2->GN T ((List.replicate d.toNat dQ).set m r.1)->GN (hK s (gK s T g) g+s) R.1)/\∀(i:Nat),i<List.length O.1.1->(C6 g fun(j:Nat)=>luM O.1 g i j*rv (R.1.getD (ix O.1.2.1 j) zr))=rv (((List.replicate d.toNat dQ).set m r.1).getD (ix O.1.1 i) zr)))->(decide (R.2.1≠c)=true->R.2.1=c/\∃(G:Nat->Nat->Rat),En x.1 G/\(∀(a b:Nat),a<x.1.1.toNat->b<x.1.1.toNat->qs K0 (G a b))/\0=x.1.2.length/\∀(l:Nat),l<x.1.2.length->SF x.1.1.toNat (fun(b:Nat)=>Kw x.1.2 G l b) ([].getD l []))/\(decide (R.2.1≠c)=false->∃(I_1:C4y->Prop),∃(j: _->Nat),I_1 (c,Q.2.1,R.1,Q.2.2.1,())/\∀(P:C4y),let z:=P.1.toNat;let L:=(List.getD P.2.2.2.1 z []);let u:Prop:=(c<=P.1/\P.1<(P.2.2.2.1.length:Int));let n:=(i64.wrap (Q.1+B),P.2.1,P.2.2.2.1,());let k:=(gx (c,c,dQ,(false,[]),[]) x.1.2 P.1);(Ty.int i64).wf P.1/\(Ty.int i64).sl.wf P.2.1/\tQ.sl.wf P.2.2.1/\Rh P.2.2.2.1/\True->I_1 P->(decide (P.1<f)=true->∃(J:C5k->Prop),((c<=P.1/\P.1<f)/\trD k.1 k.2.1 k.2.2.1 (fun v i g=>let F:=(gx c p.1 Q.1,v);True/\∀(S:C7),K9 S.1/\True->S.1=(rv v).num.sign->(decide (S.1≠c)=true->u/\((L.length+ [F].length)*(64:Nat)<=M/\L.length+ [F].length<=9223372036854775807)/\u/\Int.toNat P.1=Int.toNat P.1/\J (i,g,List.set P.2.2.2.1 z (List.getD P.2.2.2.1 z []++ [F]),()))/\(decide (S.1≠c)=false->J (i,g,P.2.2.2.1,()))) trP [] P.2.1 P.2.2.1)/\∀(p:C5k),let o:=(i64.wrap (P.1+B),p.1,p.2.1,p.2.2.1,());(Ty.int i64).sl.wf p.1/\tQ.sl.wf p.2.1/\Rh p.2.2.1/\True->J p->I_1 o/\j o<j P)/\(decide (P.1<f)=false->I n/\h n<h Q)))/\(decide (Q.1<d)=false->c=c/\∃(G:Nat->Nat->Rat),En x.1 G/\(∀(a b:Nat),a<x.1.1.toNat->b<x.1.1.toNat->qs K0 (G a b))/\List.length Q.2.2.1=x.1.2.length/\∀(l:Nat),l<x.1.2.length->SF x.1.1.toNat (fun(b:Nat)=>Kw x.1.2 G l b) (List.getD Q.2.2.1 l [])))))
def Ls (x:A2 G5.args):B7f prog B8a Qs Em G5 f38 x=X9 x:=by kernel_rfl
def C0k {o:List Int} {v:Int} {k:Nat} (a:k<o.length):ix (o++ [v]) k=ix o k:=by
 unfold ix;rw[qF,wF a,qF]
def B6b {o:List Int} {v:Int} :ix (o++ [v]) o.length=v.toNat:=by
 unfold ix;rw[qF,uC (qZ _),xM];rfl
def A3t (N:Hq) (o a:List Int) (c:Nat):Prop:=(O1 N c=c->a.getD c 0= -1)/\(O1 N c≠c->0<=a.getD c 0/\(a.getD c 0).toNat<o.length/\ix o (a.getD c 0).toNat=c)
def GX (N:Hq) (o:List Int) (X:Nat->Nat->Rat) (c b:Nat):Rat:=if O1 N b=b then 0 else Qc o.length (ix o) (X b) c
def pS {k:Nat} {o:Nat->Nat} (f:∀a c,a<k->c<k->o a=o c->a=c) (x:Nat->Rat) (b:Nat):Qc k o x b=0\/∃c,c<k/\o c=b/\Qc k o x b=x c:=by
 by_cases h:∃c,c<k/\o c=b
 . obtain⟨c,d,rfl⟩:=h;exact .inr ⟨c,d,rfl,fY f x d⟩
 . exact .inl (Zu x fun c d e=>h ⟨c,d,e⟩)
def nW {n:Nat} {i:Nat} :GN 256 ((List.replicate n dQ).set i (ri 1)):=fun e a=>by
 rcases g1a a with a|rfl
 . rw[List.eq_of_mem_replicate a];exact⟨rM _,rM _⟩
 . rw[LB];exact F9 (GO (k:=1) (q:=1) (iU (qZ 1))) (by decide)
def B3i {n i a:Nat} (c:i<n) (b:a<n):rat ((List.replicate n dQ).set i (ri 1)) a=if a=i then 1 else 0:=by
 unfold rat;by_cases h:a=i
 . subst h;rw[qR rfl,B6 (by rw[rF];exact c),LB,E3];rfl
 . rw[qK h,D8 h,qF,uG,qR b];exact eC
set_option maxHeartbeats 4000000 in
def Lt (x:A2 G5.args) (dd:awf G5.args x) (da:G5.pre x):X9 x:=by
 obtain⟨⟨n,E⟩,m,sl,_⟩:=x;have cz:∀e∈E,Jh e.2.2.1:=fun e he=>Jb (dd.1.2.2 e he).2.2.1
 change Int at n;change List Wv at E;change List Int at sl;change U9 at m;obtain⟨u,ak,U,db⟩:H2 (n,E)/\Bb (n,E)/\Kd n.toNat n.toNat (FE E) m/\sl=Ar n (KZ E):=da;obtain⟨n,rfl⟩:∃Y:Nat,n=(Y:Int):=⟨n.toNat,by have:=u.1;simp only at this;omega⟩;have dt:n<=7:=by have:=ak.1;simp only at this;omega
 have ds:E.length<=9:=ak.2.1;simp only[qM]at U;have bp:∀b c,qs 28 (FE E b c):=A6z ak cz;obtain⟨bg,au⟩:=Dx u;simp only[qM]at bg au;rw[<-db]at bg au;have bw:=B2r u;have b6:=XJ u;have b9:=nB u;have bt:=fun a c=>B6p ((n:Int),E) n (a:=a) (c:=c)
 simp only[qM]at bw b6 b9;simp only[X9,qM];refine⟨⟨qD _,qI _,by omega,by omega⟩,fun p=>0<=p.2.1/\p.2.1<=(n:Int)/\p.1=I9 ((n:Int),E) p.2.1.toNat/\p.2.2.1.length=n/\∀c:Nat,(c:Int)<p.2.1->A3t ((n:Int),E) p.1 p.2.2.1 c,fun p=>((n:Int)-p.2.1).toNat,⟨qI _,qD _,rfl,rF,fun c s=>by simp only at s;omega⟩, ?_⟩;rintro⟨o,b,B,_⟩ _ ⟨a1,a5,w,ba,ae⟩;change List Int at o;change Int at b;change List Int at B;simp only at a1 a5 w ba ae⊢;refine⟨fun I=> ?_,fun I=> ?_⟩
 . have I:=qA I;have b2:b.toNat<n:=by omega
   have cu:((b.toNat:Nat):Int)=b:=by omega
   have eL:gx 0 sl b=(O1 ((n:Int),E) b.toNat:Int):=by rw[G7 a1 I];exact(au _ b2).1
   have du:o.length<=b.toNat:=by rw[w];unfold I9;rw[tG];exact qX (List.length_filter_le _ _) (by rw[zO];exact qZ _)
   have a3:=A6k ((n:Int),E) b.toNat;rw[show b.toNat+1=(b+1).toNat from by omega]at a3;rw[eL];refine⟨fun q=>q.1=I9 ((n:Int),E) (b+1).toNat/\q.2.1.length=n/\∀c:Nat,(c:Int)<b+1->A3t ((n:Int),E) q.1 q.2.1 c,⟨⟨a1,I⟩,⟨a1,by omega⟩,fun M=> ?_,fun R=> ?_⟩, ?_⟩
   . have M:=qA M;have t:O1 ((n:Int),E) b.toNat≠b.toNat:=fun e=>M (by rw[e];omega)
     rw[qR t,cu, <-w]at a3;refine⟨⟨a1,by rw[qN];omega⟩,⟨by rw[rC];omega,by rw[rC];omega⟩,a3.symm,by rw[qN,qN];exact ba,fun c s=> ?_⟩;by_cases Q:c=b.toNat
     . subst Q;refine⟨fun e=>absurd e t,fun _=> ?_⟩;rw[B6 (by rw[qN];omega),qM,B6b];exact⟨qD _,by rw[rO,rC];omega,rfl⟩
     . obtain⟨D,k⟩:=ae c (by omega);unfold A3t;rw[D8 Q,D8 Q];refine⟨D,fun h=> ?_⟩;obtain⟨aq,ar,cg⟩:=k h;exact⟨aq,by rw[rO];omega,by rw[C0k ar];exact cg⟩
   . have R:b=(O1 ((n:Int),E) b.toNat:Int):=qU (qB R);have t:O1 ((n:Int),E) b.toNat=b.toNat:=by omega
     rw[qK (fun h=>h t), <-w]at a3;refine⟨a3.symm,by rw[qN];exact ba,fun c s=> ?_⟩;by_cases Q:c=b.toNat
     . subst Q;refine⟨fun _=>B6 (by omega),fun h=>absurd t h⟩
     . unfold A3t;rw[D8 Q];exact ae c (by omega)
   . rintro⟨dx,bc,_⟩ _ ⟨D,k,a6⟩;simp only at D k a6⊢;rw[wv (by omega)];exact⟨⟨by omega,by omega,D,k,a6⟩,by omega⟩
 have I:=qB I;have b2:b=(n:Int):=by omega
 subst b2;simp only[qM]at w;rw[<-w]at bw b6 b9;simp only[<-w]at bt;obtain⟨a0,an,c2⟩:=b6;have d6:o.length<=6:=by omega
 have d4:o.Nodup:=w▸IH _ _;have d3:=Rr U (by omega) (by omega);have d9:∀c∈o,0<=c/\c<(n:Int):=fun c s=>by
  rw[w]at s;obtain⟨ab,c1,_⟩:=AS.1 s;exact⟨ab,c1⟩
 refine⟨⟨VX U (by decide) fun i j _ _=>L8 (bp i j) (by decide),show o.length<=1000 by omega,show o.length<=1000 by omega,d4⟩, ?_⟩;rintro⟨Z,cc,_⟩ _ ⟨_,k⟩;change Int at cc;simp only at k⊢;have F:¬((∃i,i∈o/\(i<0\/m.1<=i))\/∃i,i∈o/\(i<0\/m.2.1<=i)):=by
  rw[U.1,U.2.1];rintro(⟨i,f,h⟩ | ⟨i,f,h⟩)<;>(have:=d9 i f;omega)
 obtain⟨V,cv⟩:=((k d3).2 F).2 ⟨show o.length<=16384 by omega,show o.length<=16384 by omega⟩;clear k;subst cv;refine⟨fun h=>absurd h (by simp),fun _=> ?_⟩;have b3:∀i j,i<o.length->j<o.length->el Z i j=FE E (ix o i) (ix o j):=fun i j f r=>by
  rw[gO V f r];exact gO U (a0 i f).1 (a0 j r).1
 have d0:=Rr V (by omega) (by omega);have bu:X5 28 Z:=VX V (by decide) fun i j f r=>by
  rw[<-gO V f r,b3 i j f r];exact bp _ _
 obtain⟨c8,ap,dr,c9⟩:=C1k d6;have aw:Z.1=(o.length:Int):=V.1;have ch:Z.2.1=(o.length:Int):=V.2.1;have cl:Int.toNat Z.1=o.length:=by rw[aw,qM]
 rw[cl];refine⟨⟨28,by decide,bu,by decide,fun _ _=>dr⟩, ?_⟩;rintro⟨O,cd,_⟩ _ ⟨_,k⟩;change Int at cd;simp only at k⊢;have d5:nonsing o.length (el Z):=aL (fun i j f r=>(b3 i j f r).symm) b9;obtain⟨T,cw,c1,ca,ag,d2⟩:=((k d0).2 (aw.trans ch.symm)).2 d5;clear k;subst cw;refine⟨fun h=>absurd h (by simp),fun _=> ?_⟩;rw[aw]at T;have a7:=TN T.1;have av:=TN T.2.1;have ck:List.length O.1=o.length:=a7.1;obtain⟨dn,e0,dp⟩:=T.2.2.1;obtain⟨c7,e1,dq⟩:=T.2.2.2.1;have bz:=ag 28 (by decide) bu;have b7:X5 (sK 28 o.length) O.2.2.1:=B2m dp c1 ap fun i j f=>(bz i j (by rw[dn]at f;omega)).1
 have b8:X5 (sK 28 o.length) O.2.2.2:=B2m dq ca ap fun i j f=>L8 (bz i j (by rw[c7]at f;omega)).2 (EJ (by rw[c7]at f;omega))
 have d7:X5 K1 O.2.2.1:=fun v u e he=>F9 (b7 v u e he) c9
 have d8:X5 K1 O.2.2.2:=fun v u e he=>F9 (b8 v u e he) c9
 rw[ck];refine⟨⟨qD _,qI _,by omega,by omega⟩,fun p=>0<=p.1/\p.1<=(o.length:Int)/\p.2.1=B/\p.2.2.1.length=E.length/\∃X:Nat->Nat->Rat,(∀a,a<p.1.toNat->∀z,z<o.length->C6 o.length (fun c=>FE E (ix o z) (ix o c)*X (ix o a) c)=if ix o z=ix o a then 1 else 0)/\(∀a,a<p.1.toNat->∀c,c<o.length->qs K0 (X (ix o a) c))/\∀l,l<E.length->Hh o E (GX ((n:Int),E) o X) p.1.toNat l (p.2.2.1.getD l []),fun p=>((o.length:Int)-p.1).toNat,⟨qI _,qD _,rfl,rF,fun _ _=>0,fun a g=>absurd g (uZ a),fun a g=>absurd g (uZ a),fun l A=> ?_⟩, ?_⟩
 . simp only;rw[qF,uG,qR A];exact Hh.zero
 rintro⟨i,dk,rows,_⟩ _ ⟨am,de,af,bb,X,a9,aa,aj⟩;change Int at i;change List Int at dk;change List (List D1)at rows;simp only at am de af bb a9 aa aj⊢;have af:=af.symm;subst af;refine⟨fun f=> ?_,fun f=> ?_⟩
 . have f:=qA f;have F:i.toNat<o.length:=by omega
   have cf:gx 0 o i=(ix o i.toNat:Int):=by rw[G7 am f];exact(a0 _ F).2.2
   rw[cf];refine⟨⟨am,f⟩,⟨qD _,qI _,by omega,by omega⟩,trivial, ?_⟩;rintro⟨one,_⟩ _ bv;simp only at bv⊢;subst bv;have dc:((List.replicate o.length dQ).set i.toNat (ri 1)).length=o.length:=by rw[qN,rF]
   refine⟨⟨am,by rw[rF];exact f⟩,⟨show o.length<=16384 by omega,d7,d8,fun _ _=>⟨sK 28 o.length,256,ap,by decide,b7,b8,nW,qX c8 (by decide)⟩⟩, ?_⟩;rintro⟨Xl,ce,_⟩ _ ⟨_,k⟩;change Int at ce;change List D3 at Xl;simp only at k⊢;obtain⟨cx,az,bj,cn,cm⟩:=(k T).2 dc;clear k;subst cx;have co:GN K0 Xl:=fun y hy=>F9 (cn _ _ ap (by decide) b7 b8 nW y hy) c8
   have cp:∀z,z<o.length->C6 o.length (fun c=>FE E (ix o z) (ix o c)*rat Xl c)=if ix o z=ix o i.toNat then 1 else 0:=fun z W=>by
    obtain⟨j,r,rfl⟩:=Gk (fun a g=>(a7.2.1 a g).2) a7.2.2 W;have a6:=cm j r;rw[<-A6s (fun a g=>(av.2.1 a g).2) av.2.2 (fun c=>FE E (ix o (ix O.1 j)) (ix o c)*rat Xl c)];refine Eq.trans (B7 fun q ag=> ?_) (a6.trans ?_)
    . rw[d2 j q r ag,b3 _ _ (a7.2.1 j r).2 (av.2.1 q ag).2];rfl
    . refine(B3i F W).trans ?_;by_cases ab:ix O.1 j=i.toNat
      . rw[qR ab,qR (by rw[ab])]
      . rw[qK ab,qK fun e=>ab (an _ _ W F e)]
   have bk:∀c,c<o.length->qs K0 (rat Xl c):=fun c s=>by
    have D:=bj _ (C8 (d:=zr) (show c<Xl.length by rw[az];exact s));have k:=co _ (C8 (d:=zr) (show c<Xl.length by rw[az];exact s));rw[D]at k;exact k
   refine⟨fun h=>absurd h (by simp),fun _=> ?_⟩;generalize bh:(fun b:Nat=>if b=ix o i.toNat then rat Xl else X b)=X';have ay:X' (ix o i.toNat)=rat Xl:=by rw[<-bh];exact qR rfl
   have b0:∀a,a<i.toNat->X' (ix o a)=X (ix o a):=fun a g=>by
    rw[<-bh];exact qK fun e=>by have:=an _ _ (by omega) F e;omega
   have cj:∀a,a<i.toNat->∀c,GX ((n:Int),E) o X c (ix o a)=GX ((n:Int),E) o X' c (ix o a):=fun a g c=>by
    unfold GX;rw[b0 a g]
   have bq:∀a,a<i.toNat->ix o a<ix o i.toNat:=fun a g=>bt a i.toNat g F
   have ci:∀c,GX ((n:Int),E) o X' c (ix o i.toNat)=Qc o.length (ix o) (rat Xl) c:=fun c=>by
    unfold GX;rw[qK (a0 _ F).2.1,ay]
   have bm:∀c,c<n->I8 B (c:Int)<(Xl.length:Int)/\∃q,(if I8 B (c:Int)<0 then rc 0 else Xl.getD (I8 B (c:Int)).toNat zr)=rc q/\qs K0 q/\q=GX ((n:Int),E) o X' c (ix o i.toNat):=fun c s=>by
    have el:I8 B (c:Int)=B.getD c 0:=rfl;rw[el,ci,az];obtain⟨aq,ar⟩:=ae c (by omega);by_cases t:O1 ((n:Int),E) c=c
    . rw[aq t,qR (by decide)];exact⟨by omega,0,rfl,Q4 (by decide),(Zu _ fun a g e=>(a0 a g).2.1 (by rw[e];exact t)).symm⟩
    . obtain⟨dw,ab,dh⟩:=ar t;rw[qK (by omega)];refine⟨by omega,rat Xl (B.getD c 0).toNat, ?_,bk _ ab, ?_⟩
      . exact bj _ (C8 (by omega))
      . conv=>rhs;rw[<-dh]
        exact(fY an _ ab).symm
   refine⟨fun p=>0<=p.1/\p.1<=(E.length:Int)/\p.2.1=B/\p.2.2.1=Xl/\p.2.2.2.1.length=E.length/\∀l:Nat,l<E.length->Hh o E (GX ((n:Int),E) o X') (if(l:Int)<p.1 then i.toNat+1 else i.toNat) l (p.2.2.2.1.getD l []),fun p=>((E.length:Int)-p.1).toNat,⟨qI _,qD _,rfl,rfl,bb,fun l A=> ?_⟩, ?_⟩
   . simp only;rw[qK (by omega)];exact(aj l A).congr cj
   rintro⟨j,bc,X2,H,_⟩ _ ⟨a4,df,bx,bi,ah,r⟩;change Int at j;change List Int at bc;change List D3 at X2;change List (List D1)at H;simp only at a4 df bx bi ah r⊢;subst bx bi;refine⟨fun J=> ?_,fun J=> ?_⟩
   . have J:=qA J;have ac:j.toNat<E.length:=by omega
     have cb:gx (0,0,dQ,(false,[]),[]) E j=E.getD j.toNat dB:=G7 a4 J;have d1:E.getD j.toNat dB∈E:=C8 ac;obtain⟨a5,bd⟩:=fI u ac;obtain⟨be,bf⟩:=Wx u ac;simp only[qM]at a5 bd be bf;rw[cb,a5,bd];obtain⟨di,c5,cq,bl,cr⟩:=bm _ be;obtain⟨dj,c6,cs,bn,ct⟩:=bm _ bf;have ai:=r j.toNat ac;rw[qK (by omega)]at ai;have dv:=ai.len (n:=n) fun a g=>(a0 a (by omega)).1
     have c0:rc (rv (E.getD j.toNat dB).2.2.1*rv (rc (rv (rc c5)-rv (rc c6))))=rc (Kw E (GX ((n:Int),E) o X') j.toNat (ix o i.toNat)):=by
      rw[E3,E3,E3,cr,ct];rfl
     generalize ax:Kw E (GX ((n:Int),E) o X') j.toNat (ix o i.toNat)=S at c0;refine⟨fun q=>q.1=bc/\q.2.1=X2/\q.2.2.1=if S≠0 then H.set j.toNat (H.getD j.toNat []++ [((ix o i.toNat:Int),rc S)])else H,⟨⟨a4,J⟩, ?_⟩, ?_⟩
     . refine C1o (a:=rc c5) (b:=rc c6) ⟨qD _,by omega,di⟩ ⟨qD _,by omega,dj⟩ cq.symm cs.symm (P9 bl (by decide)) (P9 bn (by decide)) (X8 (ak.2.2 _ d1).1 (by decide)) (by rw[E3,E3];exact P9 (OR bl bn) (by decide)) ?_ trP 0;rw[c0];refine⟨trivial, ?_⟩;rintro⟨dm,_⟩ _ a2;simp only at a2⊢;rw[E3]at a2;refine⟨fun M=> ?_,fun R=> ?_⟩
       . have M:S≠0:=fun e=>qA M (by rw[a2,e];rfl)
         refine⟨⟨a4,by omega⟩,⟨by rw[rC];omega,by rw[rC];omega⟩,⟨a4,by omega⟩,by trivial,by trivial,by trivial, ?_⟩;rw[qR M]
       . have R:S=0:=by
          have D:dm=0:=qU (qB R);rw[D]at a2;exact BD a2.symm
         exact⟨by trivial,by trivial,by rw[qK (fun h=>h R)]⟩
     . rintro⟨dy,X3,dz,_⟩ _ ⟨c3,c4,ao⟩;simp only at c3 c4 ao⊢;rw[wv (by omega)];refine⟨⟨by omega,by omega,c3,c4, ?_,fun l A=> ?_⟩,by omega⟩
       . rw[ao];split
         . rw[qN];exact ah
         . exact ah
       . by_cases bo:l=j.toNat
         . subst bo;rw[qR (by omega),ao];by_cases a8:S≠0
           . rw[qR a8,B6 (by omega), <-ax];exact ai.add bq (by rw[ax];exact a8)
           . rw[qK a8];exact ai.skip bq (by rw[ax];exact qU a8)
         . have ad:=r l A;rw[ao];have:(if S≠0 then H.set j.toNat (H.getD j.toNat []++ [((ix o i.toNat:Int),rc S)])else H).getD l []=H.getD l []:=by
            split
            . exact D8 bo
            . rfl
           rw[this];by_cases bs:(l:Int)<j
           . rw[qR bs]at ad;rw[qR (by omega)];exact ad
           . rw[qK bs]at ad;rw[qK (by omega)];exact ad
   . have J:=qB J;rw[wv (by omega)];refine⟨⟨by omega,by omega,rfl,ah,X',fun a g z W=> ?_,fun a g c s=> ?_,fun l A=> ?_⟩,by omega⟩
     . by_cases b1:a=i.toNat
       . subst b1;rw[ay];exact cp z W
       . rw[b0 a (by omega)];exact a9 a (by omega) z W
     . by_cases b1:a=i.toNat
       . subst b1;rw[ay];exact bk c s
       . rw[b0 a (by omega)];exact aa a (by omega) c s
     . have:=r l A;rw[qR (by omega)]at this;rw[show(i+1).toNat=i.toNat+1 from by omega];exact this
 . have f:=qB f;have cy:i.toNat=o.length:=by omega
   rw[cy]at a9 aa aj;refine⟨by trivial,GX ((n:Int),E) o X, ?_,fun a b g P=> ?_,bb,fun l A=> ?_⟩
   . have b4:=B0t (N:=((n:Int),E)) u X (fun b P t a g=> ?_)
     . simp only[qM]at b4;rw[<-w]at b4;exact b4
     . simp only[qM, <-w]at P g⊢;obtain⟨Y,b5,rfl⟩:=c2 b P t;exact a9 Y b5 a g
   . unfold GX;split
     . exact Q4 (by decide)
     . rename_i t;obtain⟨Y,b5,rfl⟩:=c2 b P t;rcases pS an (X (ix o Y)) a with h| ⟨c,s,_,h⟩
       . rw[h];exact Q4 (by decide)
       . rw[h];exact aa Y b5 c s
   . have:=Hh.done (N:=((n:Int),E)) (G:=GX ((n:Int),E) o X) (l:=l) (row:=rows.getD l []) u (by simp only[qM];rw[<-w];exact aj l A) (fun c b P=>qR P);simp only[qM]at this;exact this
def JY:An:= {loop:= [(6,⟨[1,2,4,27,28],[0,1,2],[(6,false,[.own (.pair (.int .i64) (.int .i64)) 74]),(29,false,vI)],[],[]⟩),(18,⟨[1,2,9,10,11,70],[0,1],[(71,false,vI)],[],[(5, .row (.sl tE) 79)]⟩)],plan:= [(20,[2,7],[10],true,(.p 0 (.p 1 (.q 2 (pZ9 3 4 (.q 7 (.e 8 (.p 9 (.e 10 .done)))))))))]}
abbrev C5a:=List (Int×Int)×Int×Unit
def Pv:A2 S8.args->Prop:=fun(x:B7p)=>let s:=(281474976710656:Int);let q:=x.1.2.length;let o:=(9223372036854775807:Int);let j:=(1:Int);let i:=(KZ x.1.2);let g:=x.1.1.toNat;let e:=(0:Int);let c:=(↑q:Int);(H2 x.1->Bb x.1)/\∀(r:jH),WfM r.1/\K9 r.2.1/\True->(¬H2 x.1->r.1=zm/\r.2.1=j)/\(H2 x.1->Kd g g (FE x.1.2) r.1/\r.2.1=e)->(iB (decide (r.2.1≠e)) ((¬H2 x.1->r.2.1=j)/\(H2 x.1->r.2.1=e/\Cl Int=Ar x.1.1 i/\∃(G:Nat->Nat->Rat),En x.1 G/\(∀(a b:Nat),a<x.1.1.toNat->b<x.1.1.toNat->qs K0 (G a b))/\Kd x.1.2.length x.1.1.toNat (Kw x.1.2 G) (e,e,[])/\Kd x.1.2.length x.1.2.length (shF x.1.2 G) (e,e,[]))) ((e<=e/\e<=c/\(↑(16:Nat):Int)*c<=s/\c<=o)/\∃(I:C5a->Prop),∃(d: _->Nat),I (List.replicate e.toNat (e,e),e,())/\∀(p:C5a),let f:=(gx (e,e,dQ,(false,[]),[]) x.1.2 p.2.1);let n:=(f.1,f.2.1);let h:=(p.1++ [n],i64.wrap (p.2.1+j),());((Ty.int i64).pair (Ty.int i64)).sl.wf p.1/\(Ty.int i64).wf p.2.1/\True->I p->(iB (decide (p.2.1<c)) ((e<=p.2.1/\p.2.1<c)/\((p.1.length+ [n].length)*(16:Nat)<=(140737488355328:Nat)/\p.1.length+ [n].length<=9223372036854775807)/\I h/\d h<d p) (True/\∀(t:YJ),TW t.1/\K9 t.2.1/\True->(t.1=if Rw x.1.1 p.1=e then Ar x.1.1 p.1 else [])/\t.2.1=Rw x.1.1 p.1->(iB (decide (t.2.1≠e)) ((¬H2 x.1->t.2.1=j)/\(H2 x.1->t.2.1=e/\Cl Int=Ar x.1.1 i/\∃(G:Nat->Nat->Rat),En x.1 G/\(∀(a b:Nat),a<x.1.1.toNat->b<x.1.1.toNat->qs K0 (G a b))/\Kd x.1.2.length x.1.1.toNat (Kw x.1.2 G) (e,e,[])/\Kd x.1.2.length x.1.2.length (shF x.1.2 G) (e,e,[]))) ((H2 x.1/\Bb x.1/\Kd g g (FE x.1.2) r.1/\t.1=Ar x.1.1 i)/\∀(r:List (List EE)×Int×Unit),Rh r.1/\K9 r.2.1/\True->(r.2.1=e/\∃(G:Nat->Nat->Rat),En x.1 G/\(∀(a b:Nat),a<Int.toNat x.1.1->b<Int.toNat x.1.1->qs K0 (G a b))/\r.1.length=List.length x.1.2/\∀(l:Nat),l<List.length x.1.2->SF g (fun(b:Nat)=>Kw x.1.2 G l b) (r.1.getD l []))->(iB (decide (r.2.1≠e)) ((¬H2 x.1->r.2.1=j)/\(H2 x.1->r.2.1=e/\Cl Int=Ar x.1.1 i/\∃(G:Nat->Nat->Rat),En x.1 G/\(∀(a b:Nat),a<x.1.1.toNat->b<x.1.1.toNat->qs K0 (G a b))/\Kd x.1.2.length x.1.1.toNat (Kw x.1.2 G) (e,e,[])/\Kd x.1.2.length x.1.2.length (shF x.1.2 G) (e,e,[]))) ((e<=c/\c<=c/\(↑(24:Nat):Int)*c<=s/\c<=o)/\∃(I:oA->Prop),∃(d: _->Nat),I (e,List.replicate c.toNat [],())/\∀(p:oA),let m:=(gx [] r.1 p.1);(Ty.int i64).wf p.1/\Rh p.2.1/\True->I p->(iB (decide (p.1<c)) ((e<=p.1/\p.1<(r.1.length:Int))/\(H2 x.1/\Bb x.1/\e<=p.1/\p.1<c/\Yf K2 m)/\iV fun u=>let f:=(i64.wrap (p.1+j),List.set p.2.1 p.1.toNat u.1,());SF q (fun(k:Nat)=>Un x.1.2 k*(A4 m (↑(Ck x.1.2 k):Int)-A4 m (↑(Cj x.1.2 k):Int)+if(↑k:Int)=p.1 then(1:Rat)else(0:Rat))) u.1->(e<=p.1/\p.1<(p.2.1.length:Int))/\I f/\d f<d p) ((¬H2 x.1->e=j)/\(H2 x.1->e=e/\t.1=Ar x.1.1 i/\∃(G:Nat->Nat->Rat),En x.1 G/\(∀(a b:Nat),a<x.1.1.toNat->b<x.1.1.toNat->qs K0 (G a b))/\Kd x.1.2.length x.1.1.toNat (Kw x.1.2 G) (c,x.1.1,r.1)/\Kd x.1.2.length x.1.2.length (shF x.1.2 G) (c,c,p.2.1))))))))))))
def iN {N:Hq} {G:Nat->Nat->Rat} (n:H2 N) (k:Bb N) (j:∀e∈N.2,Jh e.2.2.1) (c:∀a b,a<N.1.toNat->b<N.1.toNat->qs K0 (G a b)) {l b:Nat} (f:l<N.2.length) (d:b<N.1.toNat):qs (2+(K0+K0+1)) (Kw N.2 G l b):=by
 have g:N.2.getD l dB∈N.2:=C8 f;obtain⟨h,i⟩:=Wx n f;exact IJ (Jm (j _ g) (k.2.2 _ g).1 (by decide)) (OR (c _ _ h d) (c _ _ i d))
def CP (x:A2 S8.args) (a:awf S8.args x) (c:S8.pre x):Pv x:=by
 obtain⟨⟨n,E⟩,_⟩:=x;have r:∀e∈E,Jh e.2.2.1:=fun e f=>Jb (a.1.2.2 e f).2.2.1
 change Int at n;change List Wv at E;have c:H2 (n,E)->Bb (n,E):=c;simp only[Pv,iB,iV,and_self];refine⟨c, ?_⟩;rintro⟨m,e,_⟩ _ ⟨d,g⟩;change Int at e;simp only at d g⊢;by_cases a:H2 (n,E)
 case neg=>
  obtain⟨_,rfl⟩:=d a;exact⟨fun _=>⟨fun _=>rfl,fun h=>absurd h a⟩,fun h=>by simp at h⟩
 obtain⟨o,rfl⟩:=g a;clear d g;refine⟨fun h=>by simp at h,fun _=> ?_⟩;have g:=c a;have c:E.length<=9:=g.2.1;have c:n<=7:=g.1;have A:0<=n:=a.1;refine⟨⟨qI _,qD _,by omega,by omega⟩,fun p=>0<=p.2.1/\p.2.1<=(E.length:Int)/\p.1=KZ (E.take p.2.1.toNat),fun p=>((E.length:Int)-p.2.1).toNat,⟨qI _,qD _,rfl⟩, ?_⟩;rintro⟨l,c,_⟩ _ ⟨i,j,d⟩;change List Ln at l;change Int at c;simp only at i j d⊢;have k:l.length<=16384:=by rw[d];unfold KZ;rw[tG,qW];omega
 refine⟨fun c=> ?_,fun c=>⟨trivial, ?_⟩⟩
 . have c:=qA c;rw[wv (by omega)];have j:∀z:Nat,z<=16384->(z+1)*16<=140737488355328/\z+1<=9223372036854775807:=fun z j=>⟨by omega,by omega⟩
   exact⟨⟨i,c⟩,j _ k,⟨by omega,by omega,by rw[B3d i c,d];rfl⟩,by omega⟩
 have c:=qB c;rw[D7 (by omega)]at d;subst d;rintro⟨sl,e,_⟩ _ ⟨l,c⟩;change List Int at sl;change Int at e;simp only at l c⊢;have d:Rw n (KZ E)=0:=A3n.2 (iC a);rw[qR d]at l;rw[d]at c;subst c;refine⟨fun h=>by simp at h,fun _=>⟨⟨a,g,o,l⟩, ?_⟩⟩;rintro⟨T,e,_⟩ _ ⟨f,G,u,o,v,s⟩;change List (List D1)at T;change Int at e;simp only at f u o v s⊢;subst f;refine⟨fun h=>by simp at h,fun _=> ?_⟩;have y:∀k b,k<E.length->b<n.toNat->qs K2 (Kw E G k b):=fun k b f hb=>L8 (iN (N:=(n,E)) a g r o f hb) (by decide)
 simp only[qM];refine⟨⟨qD _,qI _,by omega,by omega⟩,fun p=>0<=p.1/\p.1<=(E.length:Int)/\p.2.1.length=E.length/\∀k:Nat,(k:Int)<p.1->SF E.length (shF E G k) (p.2.1.getD k []),fun p=>((E.length:Int)-p.1).toNat,⟨qI _,qD _,rF,fun k f=>by simp only at f;omega⟩, ?_⟩;rintro⟨j,S,_⟩ _ ⟨i,c,r,n⟩;change Int at j;change List (List D1)at S;simp only at i c r n⊢;refine⟨fun c=> ?_,fun c=> ?_⟩
 . have c:=qA c;have w:j.toNat<E.length:=by omega
   have t:gx [] T j=T.getD j.toNat []:=G7 i (by omega);have d:=s j.toNat w;have B:=gR d;have B:((j.toNat:Nat):Int)=j:=by omega
   rw[t];refine⟨⟨i,by omega⟩,⟨a,g,i,c,d.1.1,DJ d.1 fun t=> ?_,by omega⟩, ?_⟩
   . rw[KH d];split
     . exact y _ _ w (by omega)
     . exact Q4 (by decide)
   rintro⟨w,_⟩ _ g;change List D1 at w;simp only at g⊢;rw[wv (by omega)];refine⟨⟨i,by omega⟩,⟨by omega,by omega,by rw[qN];exact r,fun k f=> ?_⟩,by omega⟩;by_cases w:k=j.toNat
   . subst w;rw[B6 (by omega)];refine cR g fun t y=> ?_
     obtain⟨g,i⟩:=Wx a y;simp only at g i;unfold shF;rw[d.2.2 _ g,d.2.2 _ i];by_cases d:t=j.toNat
     . rw[qR (by omega),qR d]
     . rw[qK (by omega),qK d]
   . rw[D8 w];exact n k (by omega)
 . have c:=qB c;refine⟨fun h=>absurd a h,fun _=>⟨by trivial,l,G,u,o,⟨rfl, ?_,v,s⟩,⟨rfl,rfl,r,fun k f=>n k (by omega)⟩⟩⟩;exact(sN A).symm
end Go.Proofs.YtiflhbllbgajeaaGreat
