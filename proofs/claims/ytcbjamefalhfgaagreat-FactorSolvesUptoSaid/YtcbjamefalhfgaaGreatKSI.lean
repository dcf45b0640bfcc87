/- Part. -/
import Derived.Test.YtcbjamefalhfgaaGreatKSH
set_option linter.all false
namespace Go.Proofs.YtcbjamefalhfgaaGreat
open Go.Proofs.Tryz
open Go.Vc Go.Gw
open Go.IntKind (i64 u32)
def C9i (n:Nat) (M:O1) (b:Wf) (rows c:List (List D5)) (a:List S7) (q:Int×Int×Bool×Wf×List (List D5)×NR×NB×Unit):Prop:=q.2.2.2.2.1=rows/\q.2.2.2.2.2.1.1=c/\mI n q.2.2.2.2.2.1.2/\q.2.2.2.2.2.2.1.1=a/\mI n q.2.2.2.2.2.2.1.2/\(q.2.2.1=false->¬nonsing n (el M))/\(q.2.2.1=true->q.2.1∈b/\q.1∈keys (a.getD q.2.1.toNat [])/\q.2.2.2.1.Nodup/\∀x,x∈q.2.2.2.1↔x∈b/\x≠q.2.1)
def C2d (n:Nat) (b:Wf) (a:List S7) (q:Int×NB×Unit):Prop:=0<=q.1/\q.1<(b.length:Int)/\q.2.1.1=a/\mI n q.2.1.2
def C5x (n:Nat) (a:Wf) (b:List S7) (q:Int×Int×NB×Unit):Prop:=0<=q.1/\q.1<(a.length:Int)/\0<=q.2.1/\q.2.1<=(a.length:Int)/\q.2.2.1.1=b/\mI n q.2.2.1.2
def C9j (n:Nat) (a:Wf) (b:Nat) (rows d:List (List D5)) (c:List S7) (q:Wf×List (List D5)×NR×NB×Unit):Prop:=q.1=a.take b++a.drop (b+1)/\q.2.1=rows/\q.2.2.1.1=d/\mI n q.2.2.1.2/\q.2.2.2.1.1=c/\mI n q.2.2.2.1.2
def C9r (es:S7) (q:Int×(S7×S7)×Unit):Prop:=q.2.1.1=es/\(∀y∈q.2.1.2,y∈es)/\((q.1<0/\q.2.1.2.length=es.length)\/q.1∈keys es)
def C9s (n:Nat) (a:List S7) (c:Int) (q:Int×NB×Unit):Prop:=q.1∈keys (a.getD c.toNat [])/\q.2.1.1=a/\mI n q.2.1.2
def C9p (es:S7) (q:Wf×(S7×S7)×Unit):Prop:=q.2.1.1=es/\(q.1++keys q.2.1.2).Perm (keys es)
def C9q (n:Nat) (a:List S7) (c:Int) (q:Wf×NB×Unit):Prop:=q.1.Perm (keys (a.getD c.toNat []))/\q.2.1.1=a/\mI n q.2.1.2
def J6 (n:Nat) (M:O1) (k:Nat) (d P:Wf) (rows b:List (List D5)) (r c:Int) (a:Wf) (q:Int×List (List D5)×NR×NB×Unit):Prop:=0<=q.1/\q.1<=(a.length:Int)/\(∀s,1<=s->Hl n n (el M) s->CI n k (s+s) d P rows b r c (a.take q.1.toNat) q.2.1 q.2.2.1.1 q.2.2.2.1.1)/\mI n q.2.2.1.2/\mI n q.2.2.2.1.2
def C6e (x:Rat) (q:Bool×Wf×Wf×Unit):Prop:=((q.1,q.2.1),q.2.2.1)=rc x
def C9m (n:Nat) (P place:Wf) (rows b:List (List D5)) (q:Wf×Int×List (List D5)×List (List D5)×NR×Unit):Prop:=q.1=place/\0<=q.2.1/\q.2.1<=(n:Int)/\q.2.2.1.length=n/\q.2.2.2.1.length=n/\q.2.2.2.2.1.1=b/\(∀m∈q.2.2.2.2.1.2,n<=m\/∃a:Nat,(a:Int)<q.2.1/\m=ix P a)/\(∀a:Nat,(a:Int)<q.2.1->q.2.2.1.getD a []=b.getD (ix P a) []++ [((a:Int),rc 1)])/\∀a:Nat,(a:Int)<q.2.1->OG (λi=>if 0<=i/\i<(n:Int)then A6 (rows.getD (ix P a) []) ((List.idxOf i place:Nat):Int)else 0) (q.2.2.2.1.getD a [])
def EI.okFin {n k:Nat} {S:Nat->Nat} {A:Nat->Nat->Rat} {g P Q place:Wf} {rows c:List (List D5)} {b:List S7} (h:EI n k S A g P Q place rows c b) (i:n<=16384) {a:Nat} (d:a<k) (f:S a<=K1):NE K1 (rows.getD (ix P a) []):=by
 obtain⟨b,c,_⟩:=h.can _ (h.elim.plt a d);have:=V5 (n:=(n:Int)) (v:=rows.getD (ix P a) []) ⟨b.1,λe he=>⟨(c e he).1,(c e he).2,(b.2 e he).1⟩⟩;exact⟨b.1,CN b λj=>D7 (h.fin a d j) f,ω⟩
def EI.cnt {n k:Nat} {S:Nat->Nat} {A:Nat->Nat->Rat} {a P Q place:Wf} {rows c:List (List D5)} {b:List S7} (h:EI n k S A a P Q place rows c b) (d:n<=16384) {i:Int} (f:0<=i) (g:i<(a.length:Int)):(0<=a.getD i.toNat 0/\a.getD i.toNat 0<((b.length:Nat):Int))/\(a.getD i.toNat 0).toNat<n/\(b.getD (a.getD i.toNat 0).toNat []).length<=9223372036854775807/\a.getD i.toNat 0∈a:=by
 have b:a.getD i.toNat 0∈a:=C9 ω;obtain⟨a,c1⟩:=h.crange b;have:=h.colLen b;rw[h.lcols];exact⟨⟨a,c1⟩,ω,ω,b⟩
set_option maxHeartbeats 4000000
def EZ:sn S6 Ix:=λx c2 fc=>by
 obtain⟨⟨R,C,D⟩,_⟩:=x;have f4:Lu (R,C,D):=V6 c2.1.2.2.2;change Int at R C;change List (List D5)at D;obtain⟨fl,f0⟩:J3 K1 (R,C,D)/\(A8 (R,C,D)->R=C->∃T:Nat,1<=T/\8*T+8<=K1/\Hl R.toNat R.toNat (el (R,C,D)) T):=fc;simp only[Ix];refine⟨trivial,?_⟩;rintro⟨u,_⟩ _ I;simp only at I|-;by_cases a7:A8 (R,C,D)
 case neg=>
  have I:u=false:=by rw[I];exact rB a7
  rw[I];exact⟨λ_=>⟨λ_=>⟨rfl,trivial⟩,λh=>absurd h a7⟩,λh=>(by cases h)⟩
 have I:u=true:=by rw[I];exact rD a7
 rw[I];obtain⟨g6,g7,g8,g9,eg,eh⟩:=id a7;simp only at g6 g7 g8 g9 eg eh;refine⟨λh=>(by cases h),λ_=>⟨λbv=>?_,λch=>?_⟩⟩
 . have bv:=qA bv;exact⟨λh=>absurd a7 h,λ_=>⟨λ_=>⟨rfl,trivial⟩,λh=>absurd h bv⟩⟩
 have ch:R=C:=qN (qB ch);subst ch;obtain⟨n,rfl⟩:∃n:Nat,R=(n:Int):=⟨R.toNat,ω⟩;obtain⟨V,cs,gz,c0⟩:=f0 a7 rfl;rw[qK]at c0;simp only[qK];have b1:0<=(n:Int)/\(n:Int)<=(n:Int)/\8*(n:Int)<=281474976710656/\(n:Int)<=9223372036854775807:=⟨ω,qH _,ω,ω⟩;have bi:0<=(n:Int)/\(n:Int)<=(n:Int)/\24*(n:Int)<=281474976710656/\(n:Int)<=9223372036854775807:=⟨ω,qH _,ω,ω⟩;refine⟨b1,b1,bi,bi,b1,bi,bi,b1,b1,KJ n,λp=>((n:Int)-p.1).toNat,KJ.init,?_⟩;rintro⟨(bf:Int),⟨(ag:List S7),en⟩,left,_⟩ _ H;simp only;have bu:=H.1;have ds:=H.2.1;have f5:ag.length=n:=H.2.2.1;have f6:left.length=n:=H.2.2.2.2.2.1;simp only at bu ds;refine⟨λf=>?_,λf=>?_⟩
 . have f:=qA f;rw[wv ω];exact⟨⟨bu,ω⟩,⟨bu,ω⟩,H.next f,ω⟩
 have f:=qB f;have co:(n:Int)<=bf:=ω
 have gq:(D.length:Int)=(n:Int):=eg;refine⟨FR n D,λp=>((n:Int)-p.1).toNat,FR.init H co,?_⟩;rintro⟨(X:Int),ee,⟨a1,d4⟩,_⟩ _ an;change List (List D5)at ee;change List S7 at a1;simp only;have av:=an.1;have e0:=an.2.1;have fi:ee.length=n:=an.2.2.1;simp only at av e0;refine⟨λw=>?_,λw=>?_⟩
 . have w:=qA w;have fm:X<(n:Int):=ω
   have cn:=G7 (d:=([]:List D5)) av w;rw[Hz av w]at cn|-;have cv:=eh _ cn;have a6:=ZB a7 fl cn;refine⟨⟨av,w⟩, .inl ⟨a6.1,a6.2.1,a6.2.2⟩,?_⟩;rintro⟨(ax:List D5),_⟩ _ c2;simp only at c2|-;refine⟨⟨av,ω⟩,QJ n (λi=>A6 (D.getD i [])) X (D.getD X.toNat []),λp=>(((D.getD X.toNat []).length:Int)-p.1).toNat,an.row,?_⟩;rintro⟨(c4:Int),⟨(cols2:List S7),d5⟩,_⟩ _ b8;simp only;have ey:=b8.1;have ez:=b8.2.1;simp only at ey ez;have e3:∀e∈D.getD X.toNat [],0<=e.1/\e.1<(n:Int):=λe a2=>⟨(cv.2 e a2).1,(cv.2 e a2).2.1⟩
   have fa:=a6.2.2;refine⟨λE=>?_,λE=>?_⟩
   . have E:=qA E;rw[wv ω];obtain⟨r,s,a9⟩:=b8.rng e3 E;exact⟨r,s,a9,b8.next e3 E,ω⟩
   . have E:=qB E;rw[wv ω];exact⟨an.next fm cv c2 b8 ω,ω⟩
 have w:=qB w;have dt:(n:Int)<=X:=ω
 refine⟨B9z n ((n:Int),(n:Int),D),λp=>((n:Int)-p.1).toNat,B9z.init a7 f4 rfl rfl H co an dt,?_⟩;clear H bu ds f5 f6 an av e0 fi f co w dt;rintro⟨(o:Int),(M:Wf),(P:Wf),(Q:Wf),(place:Wf),rows,⟨c3,gj⟩,⟨ag,en⟩,_⟩ _ ⟨cy,fp,ak,b3,d6⟩;change List (List D5)at rows c3;change List S7 at ag;simp only at cy fp ak b3 d6|-;have a:=ak V cs c0;refine⟨λb9=>?_,λb9=>?_⟩
 . have b9:=qA b9;have cm:o.toNat<n:=ω
   have b6:V+V<=K1:=ω
   have gw:=a.more cm;have bb:=a.lrows;have dp:=a.llow;have dn:=a.lcols;have gy:M.length<=n:=OT a.rnd λx hx=>a.crange hx
   refine⟨C9i n ((n:Int),(n:Int),D) M rows c3 ag,⟨C2d n M ag,⟨C5x n M ag,λq=>((M.length:Int)-q.2.1).toNat,⟨qH _,by simp only;omega,qH _,by simp only;omega,rfl,d6⟩,?_⟩,?_⟩,?_⟩
   . rintro⟨(b:Int),(j:Int),⟨b2,d3⟩,_⟩ _ ⟨a0,a3,ab,cx,rfl,N⟩;simp only at a0 a3 ab cx N|-;refine⟨λk=>?_,λk=>⟨a0,a3,rfl,N⟩⟩;have k:=qA k;obtain⟨c6,bg,c7,ay⟩:=a.cnt ω ab k;obtain⟨ej,ek,em,gd⟩:=a.cnt ω a0 a3;simp only[LJ];refine⟨C2d n M b2,⟨⟨ab,k⟩,c6,N _ bg,c7,⟨a0,a3⟩,ej,N _ ek,em,λ_=>⟨ab,k,rfl,N⟩,λ_=>⟨a0,a3,rfl,N⟩⟩,?_⟩;rintro⟨(ei:Int),⟨cols2,d5⟩,_⟩ _ ⟨az,b0,rfl,ah⟩;simp only at az b0 ah|-;obtain⟨bj,bk,bl,gn⟩:=a.cnt ω az b0;rw[wv ω];exact⟨⟨az,b0⟩,bj,ah _ bk,bl,λ_=>⟨az,b0,rfl,ah⟩,λ_=>⟨⟨az,b0,by simp only;omega,by simp only;omega,rfl,ah⟩,ω⟩⟩
   . rintro⟨(b:Int),⟨b2,d3⟩,_⟩ _ ⟨a0,a3,rfl,N⟩;simp only at a0 a3 N|-;obtain⟨c6,bg,c7,ay⟩:=a.cnt ω a0 a3;simp only[LJ];refine⟨⟨a0,a3⟩,c6,N _ bg,c7,λaj=>?_,λaj=>?_⟩
     . have aj:=qA aj;exact⟨rfl,rfl,b3,rfl,N,λ_=>a.stuck ay (qT (g3y.1 aj)),λh=>(by cases h)⟩
     have aj:=qB aj;rw[wv ω];simp only[qK,uZ];rw[(ω:(b+1).toNat=b.toNat+1)];have ba:b.toNat+(List.drop (b.toNat+1) M).length<=n:=by rw[sV];omega
     generalize ac:M.getD b.toNat 0=c at*;obtain⟨bh,c1⟩:=a.crange ay;have cp:=a.pick (b:=b.toNat) ω;rw[ac]at cp;refine⟨⟨a0,a3⟩,C9j n M b.toNat rows c3 b2,⟨⟨qH _,a0,ω⟩,⟨ω,ω,qH _⟩,⟨⟨ω,ω⟩,rfl,rfl,rfl,b3,rfl,N⟩,⟨ω,ω⟩,rfl,rfl,rfl,b3,rfl,N⟩,?_⟩;rintro⟨(fy:Wf),ed,⟨h2,gk⟩,⟨cols2,d5⟩,_⟩ _ ⟨ai,rfl,rfl,b4,rfl,aq⟩;simp only at ai b4 aq|-;obtain⟨gt,dd⟩:=a.col c ay;have fj:∀y:Int×Bool,y∈cols2.getD c.toNat []->0<=y.1/\y.1<(ed.length:Int):=λy a8=>by
      obtain⟨cc,ga,_⟩:=(dd y.1).1 (pS a8);rw[bb];exact⟨cc,ga⟩
     have bv:0<(cols2.getD c.toNat []).length:=by
      rcases vL (cols2.getD c.toNat []).length with J|J
      . exact absurd (g3y.2 J) aj
      . exact J
     have cf:c<(cols2.length:Int):=by rw[dn];exact c1
     refine⟨C9s n cols2 c,⟨⟨bh,cf⟩,aq _ bg,C9r (cols2.getD c.toNat []),λq=>q.2.1.2.length,⟨rfl,λy a8=>a8, .inl ⟨by show(-1:Int)<0;decide,rfl⟩⟩,?_⟩,?_⟩
     . rintro⟨(i:Int),⟨ep,(left:S7)⟩,_⟩ _ ⟨rfl,ae,B⟩;simp only at ae B|-;refine⟨λa4=>⟨λh=>(by cases h),λ_=>⟨?_,LJ _ _ _,aq⟩⟩,λl1 y l2 a4=>⟨λ_=>?_,λh=>(by cases h)⟩⟩
       . rcases B with⟨_,B⟩ |B
         . rw[a4]at B;simp only[yH]at B;omega
         . exact B
       have a8:=fj y (ae y (by rw[a4];simp));have fo:y.1∈keys (cols2.getD c.toNat []):=pS (ae y (by rw[a4];simp));have e1:∀z∈l1++l2,z∈cols2.getD c.toNat []:=λz J=>ae z (by
        rw[a4];rcases rA.1 J with J|J
        . exact sH _ J
        . exact tK _ (qL _ J))
       have bs:(l1++l2).length<left.length:=by rw[a4,rR,rR,rK];omega
       have ad:¬i<0->i∈keys (cols2.getD c.toNat [])/\0<=i/\i<(ed.length:Int):=λh=>by
        rcases B with⟨E,_⟩ |E
        . exact absurd E h
        . obtain⟨cc,ga,_⟩:=(dd i).1 E;rw[bb];exact⟨E,cc,ga⟩
       have f7:∀ {q:Bool},G6 (decide (i<0)) true q=false->¬i<0:=λ{q} h E=>by
        rw[rD E]at h;cases h
       refine⟨λ_=>a8,λh=>(ad (qB h)).2,λ_=>a8,λh=>(ad (f7 h)).2,λ_=>⟨⟨rfl,e1, .inr fo⟩,bs⟩,λh=>⟨⟨rfl,e1, .inr (ad ?_).1⟩,bs⟩⟩;intro E;rw[rD E]at h;cases h
     . rintro⟨i,⟨gb,gg⟩,_⟩ _ ⟨ae,rfl,be⟩;exact⟨rfl,rfl,b4,rfl,be,λh=>(by cases h),λ_=>⟨ay,ae,ai▸cp.1,ai▸cp.2⟩⟩
   . rintro⟨(u:Int),(c:Int),(e8:Bool),(fx:Wf),l,⟨Y,ca⟩,⟨b2,d3⟩,_⟩ _ ⟨rfl,rfl,N,rfl,ah,e6,e7⟩;simp only at N ah e6 e7|-;cases e8 with
     |false=>exact⟨λ_=>⟨λh=>absurd a7 h,λ_=>⟨λh=>absurd rfl h,λ_=>⟨λ_=>⟨rfl,trivial⟩,λh=>absurd h (e6 rfl)⟩⟩⟩,λh=>(by cases h)⟩
     |true=>
     obtain⟨ac,I,fg,fh⟩:=e7 rfl;obtain⟨bh,c1⟩:=a.crange ac;obtain⟨fs,fu,fw,ec⟩:=a.row ac I;have es:=a.lP;have gr:=a.lQ;have bz:=a.lpl;refine⟨λh=>(by cases h),λ_=>?_⟩;have fr:0<=o/\o<(P.length:Int):=⟨cy,ω⟩;have e9:0<=o/\o<(Q.length:Int):=⟨cy,ω⟩;have ea:0<=c/\c<(place.length:Int):=⟨bh,ω⟩;refine⟨λq=>q.1=P.set o.toNat u/\q.2.1=Q.set o.toNat c/\q.2.2.1=place.set c.toNat o,⟨fr,⟨e9,ea,rfl,rfl,rfl⟩,e9,ea,rfl,rfl,rfl⟩,?_⟩;rintro⟨P',Q',eb,_⟩ _ ⟨bj,bk,bl⟩;simp only at bj bk bl|-;have cr:NE K1 (l.getD u.toNat []):=a.okRow b6 ω ω;have bc:∀e∈l.getD u.toNat [],0<=e.1/\e.1<(n:Int):=(a.can u.toNat ω).2.1;have fe:=(a.can u.toNat ω).2.2;have dx:V8 l u.toNat c.toNat=A6 (l.getD u.toNat []) c:=by unfold V8;rw[(ω:((c.toNat:Nat):Int)=c)]
     rw[dx]at ec;generalize cq:l.getD u.toNat []=t at*;have gv:=cr.2.2;refine⟨⟨fs,by rw[bb];exact fu⟩,HF n M (inC b2) u t,λp=>((t.length:Int)-p.1).toNat,⟨qH _,qD _,dn,ah,λj k=>⟨a.crange k,nW ⟨(a.col j k).1,λx=>xX⟩⟩⟩,?_⟩;rintro⟨(bf:Int),⟨(a1:List S7),d4⟩,_⟩ _ A;simp only;have fz:=A.1;have g0:=A.2.1;simp only at fz g0;refine⟨λf=>?_,λf=>?_⟩
     . have f:=qA f;rw[wv ω];obtain⟨r,s,a9⟩:=A.rng bc f;exact⟨r,s,a9,A.next bc f,ω⟩
     have f:=qB f;have cj:∀W,1<=W->Hl n n (el ((n:Int),(n:Int),D)) W->CI n o.toNat (W+W) M P l Y u c [] l Y a1:=λW r s=>CI.init (ak W r s) ac I A.2.2.1 λj k=>by
      have cc:=(A.2.2.2.2 j k).2;simp only at cc;rw[I5 (ω:(t.length:Int)<=bf)]at cc;rw[cq];exact cc
     have d7:mI n d4:=A.2.2.2.1;have f3:a1.length=n:=A.2.2.1;clear A;obtain⟨cl,bq⟩:=(cj V cs c0).col c ac;have dk:∀x∈keys (a1.getD c.toNat []),0<=x/\x<(n:Int):=λx hx=>⟨((bq x).1 hx).2.1,((bq x).1 hx).2.2.1⟩
     have dj:(keys (a1.getD c.toNat [])).length<=n:=OT cl dk;refine⟨cr,?_⟩;rintro⟨(v:C0),_⟩ _ ct;simp only at ct|-;have cu:qs (V+V) (A6 t c):=fe c;refine⟨by rw[ct];exact I0 (D7 cu b6) δ,?_⟩;rintro⟨(cw:C0),h5,_⟩ _ au;simp only at au|-;rw[ct,F6]at au;obtain⟨au,_⟩:=au.2 ec;have cf:c<(a1.length:Int):=by rw[f3];exact c1
     refine⟨C9q n a1 c,⟨⟨bh,cf⟩,d7 _ ω,C9p (a1.getD c.toNat []),λq=>q.2.1.2.length,⟨rfl,wX _⟩,?_⟩,?_⟩
     . rintro⟨(c8:Wf),⟨ep,(left:S7)⟩,_⟩ _ ⟨rfl,B⟩;simp only at B|-;refine⟨λa4=>⟨λh=>(by cases h),λ_=>⟨?_,LJ _ _ _,d7⟩⟩,λl1 y l2 a4=>⟨λ_=>?_,λh=>(by cases h)⟩⟩
       . subst a4;rw[show keys []= []from rfl,vS]at B;exact B
       subst a4;have dw:(c8++ [y.1]++keys (l1++l2)).Perm (keys (a1.getD c.toNat [])):=by
        refine List.Perm.trans ?_ B;rw[vA];refine g3d c8 ?_;unfold keys;rw[vG,vG,rZ,List.singleton_append];exact List.perm_middle.symm
       have et:=dw.length_eq;rw[rR,rR,qV]at et;have bs:(l1++l2).length<(l1++y::l2).length:=by rw[rR,rR,rK];omega
       exact⟨⟨by rw[qV];omega,by rw[qV];omega⟩,⟨rfl,dw⟩,bs⟩
     rintro⟨(Z:Wf),⟨gc,gh⟩,_⟩ _ ⟨b5,rfl,d8⟩;simp only at b5 d8|-;have fb:Z.Nodup:=b5.nodup_iff.2 cl;have du:∀x,x∈Z↔x≠u/\0<=x/\x<(n:Int)/\(∀g,g<o.toNat->x.toNat≠ix P g)/\V8 l x.toNat c.toNat≠0:=λx=>by rw[b5.mem_iff];exact bq x
     have fa:Z.length<=n:=by
      rw[b5.length_eq];exact dj
     refine⟨J6 n ((n:Int),(n:Int),D) o.toNat M P l Y u c Z,λq=>((Z.length:Int)-q.1).toNat,⟨qH _,qD _,cj,N,d8⟩,?_⟩;clear cj cl bq dk dj b5;rintro⟨(X:Int),d0,⟨cz,eo⟩,⟨c9,gi⟩,_⟩ _ ⟨c5,g5,bn,bm,cb⟩;simp only at c5 g5 bn bm cb|-;have am:=bn V cs c0;refine⟨λw=>?_,λw=>?_⟩
     . have w:=qA w;have f2:Z.getD X.toNat 0∈Z:=C9 ω;have ck:Z.getD X.toNat 0∉Z.take X.toNat:=λhh=>by
        obtain⟨g,O,ar⟩:=wF.1 hh;rw[qZ]at O;rw[g1y,J7 _ _ (ω:X.toNat<Z.length)]at ar;have:=(yA fb).1 ar;omega
       have e2:=Lh (d:=(0:Int)) c5 w;rw[J4 c5 w]at e2;obtain⟨ae,B,be,e5,h0⟩:=(du _).1 f2;generalize Z.getD X.toNat 0=i at*;have aa:i.toNat<n:=ω
       have dh:((i.toNat:Nat):Int)=i:=ω
       have fk:d0.getD i.toNat []=l.getD i.toNat []:=am.ru _ aa (by rw[dh];exact ck);have dr:cz.getD i.toNat []=Y.getD i.toNat []:=by rw[am.lo _ aa,qG (by rw[dh];exact ck)]
       have ba:=a.lowLen aa;have gp:=a.two (i:=u.toNat) (j:=i.toNat) ω aa ω fw e5;have a6:=a.okRow b6 ω aa;have dz:=(a.can _ aa).2.2;have ad:0<=i/\i<(d0.length:Int):=⟨B,by rw[am.lrows];exact be⟩;have di:0<=i/\i<(cz.length:Int):=⟨B,by rw[am.llow];exact be⟩;have ew:i.toNat∉eo:=bm _ aa;rw[fk,dr];have eu:V8 l i.toNat c.toNat=A6 (l.getD i.toNat []) c:=by unfold V8;rw[(ω:((c.toNat:Nat):Int)=c)]
       have gs:4*(V+V)+1<=K1:=ω
       have ff:qs (V+V+(V+V)) (A6 (l.getD i.toNat []) c/A6 t c):=Zy (dz c) cu;have F:∀(af:QQ×Unit),IU af.1/\True->af.1=rc (A6 (l.getD i.toNat []) c)->(G4 af.1/\G4 cw)/\∀(aw:QQ×Unit),IU aw.1/\True->aw.1=rc (rv af.1*rv cw)->C6e (A6 (l.getD i.toNat []) c/A6 t c) (aw.1.1.1,aw.1.1.2,aw.1.2,()):=λaf _ h1=>by
        refine⟨⟨by rw[h1];exact I0 (D7 (dz c) b6) δ,by rw[au];exact I0 (D7 (B6u cu) b6) δ⟩,λaw _ cc=>?_⟩;rw[h1,au,F6,F6, <-tT]at cc;exact cc
       refine⟨⟨c5,w⟩,C6e (A6 (l.getD i.toNat []) c/A6 t c),⟨ad,⟨a6,λaf ax h=>⟨F af ax h,F af ax h⟩⟩,a6,F⟩,?_⟩;rintro⟨(da:Bool),(db:Wf),(dc:Wf),_⟩ _ ci;have ci:((da,db),dc)=rc (A6 (l.getD i.toNat []) c/A6 t c):=ci;simp only;rw[ci];refine⟨λq=>q.1.1=cz.set i.toNat (Y.getD i.toNat []++ [(o,rc (A6 (l.getD i.toNat []) c/A6 t c))])/\mI n q.1.2,?_,?_⟩
       . have L1:((Y.getD i.toNat []).length+ [(o,rc (A6 (l.getD i.toNat []) c/A6 t c))].length)*64<=140737488355328/\(Y.getD i.toNat []).length+ [(o,rc (A6 (l.getD i.toNat []) c/A6 t c))].length<=9223372036854775807:=by
          have J:∀z:Nat,z<=n->(z+1)*64<=140737488355328/\z+1<=9223372036854775807:=λz J=>⟨ω,ω⟩
          exact J _ (qU ba ω)
         repeat' apply And.intro
         all_goals first
          |exact di.1
          |exact di.2
          |exact ew
          |exact L1.1
          |exact L1.2
          |exact rfl
          |exact bm
          |exact True.intro
       rintro⟨⟨h4,gm⟩,_⟩ _ ⟨dm,d9⟩;simp only at dm d9|-;have dy:qs K1 (A6 (l.getD i.toNat []) c/A6 t c):=D7 ff ω;refine⟨ad,I0 dy δ,?_⟩;rintro⟨(fq:C0),_⟩ _ bw;simp only at bw|-;rw[F6]at bw;refine⟨⟨a6,by rw[bw];exact Kh (A4v dy),cr⟩,?_⟩;rintro⟨(nw:List D5),_⟩ _ a5;simp only at a5|-;have a5:OG (λj=>A6 (l.getD i.toNat []) j-A6 (l.getD i.toNat []) c/A6 t c*A6 t j) nw:=⟨a5.1,λj=>(a5.2 j).trans (by dsimp only;rw[bw,F6,g5h, <-tI])⟩;have bx:∀e∈nw,0<=e.1/\e.1<(n:Int):=λe a2=>qN λhh=>by
        refine(a5.1.2 e a2).1 ?_;rw[<-H6 a5.1.1 a2];refine(a5.2 e.1).trans ?_;dsimp only;rw[D1 (v:=l.getD i.toNat []) (i:=e.1) λy a8 cc=>hh (by rw[<-cc];exact(a.can _ aa).2.1 y a8),D1 (v:=t) (i:=e.1) λy a8 cc=>hh (by rw[<-cc];exact bc y a8),sL,tI,wM,rJ]
       have gu:nw.length<=n:=by
        have:=V5 (n:=(n:Int)) (v:=nw) ⟨a5.1.1,λe a2=>⟨(bx e a2).1,(bx e a2).2,(a5.1.2 e a2).1⟩⟩;omega
       refine⟨ad,HF n M (inC c9) i t,λp=>((t.length:Int)-p.1).toNat,⟨qH _,qD _,am.lcols,cb,λj k=>⟨a.crange k,nW ⟨(am.col j k).1,λx=>xX⟩⟩⟩,?_⟩;rintro⟨(c4:Int),⟨(d1:List S7),ge⟩,_⟩ _ A;simp only;have g1:=A.1;have g2:=A.2.1;simp only at g1 g2;refine⟨λf=>?_,λf=>?_⟩
       . have f:=qA f;rw[wv ω];obtain⟨r,s,a9⟩:=A.rng bc f;exact⟨r,s,a9,A.next bc f,ω⟩
       have f:=qB f;have dq:∀j:Int,j∈M->nV (inC c9) i t j (d1.getD j.toNat []):=λj k=>by
        have cc:=(A.2.2.2.2 j k).2;simp only at cc;rwa[I5 (ω:(t.length:Int)<=c4)]at cc
       rw[show(d0.set i.toNat nw).getD i.toNat []=nw from B7 (by rw[am.lrows];exact aa)];refine⟨by rw[qO];exact ad,fE n M (λj x=>inC c9 j x/\¬(x=i/\∃e∈t,e.1=j)) i nw,λp=>((nw.length:Int)-p.1).toNat,⟨qH _,qD _,A.2.2.1,A.2.2.2.1,λj k=>⟨a.crange k,B3c ⟨(dq j k).1,(dq j k).2⟩⟩⟩,?_⟩;rintro⟨(ef:Int),⟨(d2:List S7),gf⟩,_⟩ _ G;simp only;have g3:=G.1;have g4:=G.2.1;simp only at g3 g4;refine⟨λf=>?_,λf=>?_⟩
       . have f:=qA f;rw[wv ω];obtain⟨r,s,a9⟩:=G.rng bx f;exact⟨r,s,a9,G.next bx f,ω⟩
       have f:=qB f;rw[wv ω];refine⟨⟨by simp only;omega,by simp only;omega,λW r s=>?_,d9,G.2.2.2.1⟩,ω⟩;have f9:=CI.next (ak W r s) ac I (bn W r s) B be ae e5 ck (q:=A6 (l.getD i.toNat []) c/A6 t c) (by rw[eu,dx]) (nw:=nw) (by rw[cq];exact a5) (cols2:=d2) G.2.2.1 λj k=>by
        have cc:=(G.2.2.2.2 j k).2;simp only at cc;rw[I5 (ω:(nw.length:Int)<=ef)]at cc;rw[cq];exact cc
       simp only;rw[e2,dm, <-dr];rwa[(ω:((o.toNat:Nat):Int)=o)]at f9
     . have w:=qB w;rw[wv ω];refine⟨⟨by simp only;omega,by simp only;omega,λW r s=>?_,bm,cb⟩,ω⟩;have df:=bn W r s;rw[I5 ω]at df;have ex:=CI.doneT (ak W r s) r s ac I df du fg fh;simp only;rw[(ω:(o+1).toNat=o.toNat+1),bj,bk,bl];rwa[(ω:((o.toNat:Nat):Int)=o)]at ex
 . have b9:=qB b9;have cm:o=(n:Int):=ω
   subst cm;simp only[qK]at ak a;have bb:=a.lrows;have dp:=a.llow;have es:=a.lP;have fd:=a.places;refine⟨C9m n P place rows c3,λq=>((n:Int)-q.2.1).toNat,⟨rfl,qH _,qD _,rG,rG,rfl,λm H=> .inl (g2h λh=>b3 m h H),λg O=>by simp only at O;omega,λg O=>by simp only at O;omega⟩,?_⟩;rintro⟨eb,(j:Int),L,U,⟨Y,ca⟩,_⟩ _ ⟨rfl,ab,cx,ao,ap,rfl,cg,cd,ce⟩;change List (List D5)at L U;simp only at ab cx ao ap cg cd ce|-;refine⟨λk=>?_,λk=>?_⟩
   . have k:=qA k;have G:j.toNat<n:=ω
     have er:P.getD j.toNat 0=(ix P j.toNat:Int):=a.P0 _ G;have bt:=a.elim.plt _ G;have ba:=a.lowLen bt;have f8:ix P j.toNat∉ca:=λH=>by
      rcases cg _ H with h| ⟨g,O,ar⟩
      . omega
      . have:=a.elim.pinj _ _ G (ω:g<n) ar;omega
     have a6:=a.okFin ω G (ω:V+V<=K1);rw[er];simp only[qK];have r:0<=j/\j<(P.length:Int):=⟨ab,k⟩;have s:0<=(ix P j.toNat:Int)/\(ix P j.toNat:Int)<(Y.length:Int):=⟨qD _,by rw[dp];exact sC.2 bt⟩;have a9:0<=j/\j<(L.length:Int):=⟨ab,by rw[ao];omega⟩;have J:∀z:Nat,z<=n->(z+1)*64<=140737488355328/\z+1<=9223372036854775807:=λz J=>⟨ω,ω⟩
     refine⟨r,λq=>q.1=L.set j.toNat (Y.getD (ix P j.toNat) []++ [(j,rc 1)])/\q.2.1.1=Y/\q.2.1.2=ix P j.toNat::ca,?_,?_⟩
     . repeat' first
        |exact f8
        |exact True.intro
        |exact r.1
        |exact r.2
        |exact s.1
        |exact s.2
        |exact a9.1
        |exact a9.2
        |exact rfl
        |exact(J _ (qU ba (qP _))).1
        |exact(J _ (qU ba (qP _))).2
        |apply And.intro
        | (rintro⟨u,_⟩ _ I
           have I:u=rc 1:=I.trans (AB 1);subst I)
     rintro⟨L4,⟨h3,gl⟩,_⟩ _ ⟨ai,b4,aq⟩;simp only at ai b4 aq|-;refine⟨⟨s.1,by rw[bb];exact sC.2 bt⟩,⟨a6,by rw[a.lpl];omega⟩,?_⟩;rintro⟨(ax:List D5),h6,_⟩ _ dv;simp only at dv|-;have bz:=a.lpl;obtain⟨e4,_⟩:=dv (by rw[bz];exact fd.1) λi f1=>by
      rw[bz];obtain⟨e,a2,rfl⟩:=CO f1;exact(a.can _ bt).2.1 e a2
     rw[bz]at e4;rw[wv ω];refine⟨⟨ab,by rw[ap];omega⟩,⟨rfl,by simp only;omega,by simp only;omega,by simp only;rw[ai,qO];exact ao,by simp only;rw[qO];exact ap,b4,λm H=>?_,λg O=>?_,λg O=>?_⟩,ω⟩
     . simp only at H|-;rw[aq]at H;rcases qX.1 H with h|h
       . exact .inr ⟨j.toNat,ω,h⟩
       . rcases cg m h with h| ⟨g,O,ar⟩
         . exact .inl h
         . exact .inr ⟨g,ω,ar⟩
     . simp only at O|-;rw[ai];by_cases b7:g=j.toNat
       . subst b7;rw[B7 (by rw[ao];exact G),(ω:((j.toNat:Nat):Int)=j)]
       . rw[D3 b7];exact cd g ω
     . simp only at O|-;by_cases b7:g=j.toNat
       . subst b7;rw[B7 (by rw[ap];exact G)];exact e4
       . rw[D3 b7];exact ce g ω
   . have k:=qB k;have G:j=(n:Int):=ω
     subst G;have bo:∀g,g<n->L.getD g []=Y.getD (ix P g) []++ [((g:Int),rc 1)]:=λg O=>cd g ω
     have bp:∀g,g<n->OG (λi=>if 0<=i/\i<(n:Int)then A6 (rows.getD (ix P g) []) ((List.idxOf i eb:Nat):Int)else 0) (U.getD g []):=λg O=>ce g ω
     have de:=a.done ω ao ap bo bp;exact⟨λh=>absurd a7 h,λ_=>⟨λh=>absurd rfl h,λ_=>⟨λh=>absurd a.elim.nonsing h,λ_=>⟨de.1,trivial,(a.cans ao ap bo bp).1,(a.cans ao ap bo bp).2,λW r s g b O=>(ak W r s).sizes (λg=>ω) bo bp O b,de.2⟩⟩⟩⟩
def JA:An:= {}
abbrev C1f:=(Wf×Wf×MM×Int×Int×List (List EE))×List QQ×Unit
def Oy(x:C1f):Prop:=let e:=(4:Int);let d:=(1:Int);let c:=(0:Int);let b:=(↑x.1.1.length:Int);let a:=(x.1.1.length:Int);let f:Prop:=((x.2.1.length:Int)≠a);(c<=a/\a<=(16384:Int)/\J3 K1 x.1.2.2.1/\J3 K1 x.1.2.2.2)/\Nr λr=>(r.1=true↔H5 x.1 a)->(iB ((!r.1)) ((¬H5 x.1 b->d=d)/\(H5 x.1 b->(x.2.1.length≠x.1.1.length->d=e)/\(x.2.1.length=x.1.1.length->d=c))) ((iB (decide f) ((¬H5 x.1 b->e=d)/\(H5 x.1 b->(x.2.1.length≠x.1.1.length->e=e)/\(x.2.1.length=x.1.1.length->e=c))) ((¬H5 x.1 b->c=d)/\(H5 x.1 b->(x.2.1.length≠x.1.1.length->c=e)/\(x.2.1.length=x.1.1.length->c=c))))))
def RY:An:= {loop:= [(12,⟨[1,2,7,8,9,30,31,55,56],[0],[(57,false,vI)],[],[(1, .row tQ 46)]⟩),(7,⟨[1,2,7,8,30],[0],[(31,false,vI)],[],[(1, .row tQ 46)]⟩),(24,⟨[2,7,8,13,15,16,80,81,95,96],[0,2],[(97,false,vI)],[],[(1, .row tQ 46)]⟩),(19,⟨[2,7,8,13,80],[0],[(81,false,vI)],[],[(1, .row tQ 46),(2, .row tQ 46)]⟩)],plan:= [(14,[5,7,10,12],[15],true, .done),(26,[5,7,10,12],[15],true, .done),(28,[5,9],[15],true, .done),(29,[2,5,9],[11],true, .done)]}
abbrev C1o:=Int×List QQ×List QQ×Unit
def Wn(x:C1f):Prop:=let C:=(↑x.1.1.length:Int);let v:=(1:Int);let q:=(0:Int);let n:=(x.1.1.length:Int);let d:Prop:=(q<=n/\n<=n/\(↑(56:Nat):Int)*n<=(281474976710656:Int)/\n<=(9223372036854775807:Int));(List.length x.1.1<=16384/\J3 K1 x.1.2.2.1/\J3 K1 x.1.2.2.2)/\Dx λr=>(¬H5 x.1 n->r.1=v)/\(H5 x.1 n->(List.length x.2.1≠List.length x.1.1->r.1=4)/\(List.length x.2.1=List.length x.1.1->r.1=q))->(iB (decide (r.1≠q)) ((¬H5 x.1 C->Ef QQ= []/\r.1=v)/\(H5 x.1 C->(x.2.1.length≠x.1.1.length->Ef QQ= []/\r.1=4)/\(x.2.1.length=x.1.1.length->r.1=q/\0=x.1.1.length/\(∀(e:QQ),e∈ []->e=rc (rv e))/\∀(i:Nat),i<x.1.1.length->(A7 x.1.1.length fun(j:Nat)=>Qw x.1 x.1.1.length i j*rv ([].getD (ix x.1.2.1 j) zr))=rv (x.2.1.getD (ix x.1.1 i) zr)))) (d/\∃(I:Tk->Prop),∃(a: _->Nat),I (q,List.replicate n.toNat dQ,())/\∀(p:Tk),let F:=p.1.toNat;let t:=(gx [] x.1.2.2.1.2.2 p.1);let D:=(↑t.length:Int);let N:=(i64.wrap (D-v));let f:Prop:=(p.1<n);(Ty.int i64).wf p.1/\IT p.2.1/\True->I p->(iB (decide f) ((q<=p.1/\f)/\(q<=gx q x.1.1 p.1/\gx q x.1.1 p.1<(x.2.1.length:Int))/\(q<=p.1/\p.1<(p.2.1.length:Int))/\(q<=p.1/\p.1<(x.1.2.2.1.2.2.length:Int))/\(q<=q/\q<=i64.wrap (D-v)/\i64.wrap (D-v)<=D)/\∃(I_1:Tk->Prop),∃(b: _->Nat),I_1 (q,List.set p.2.1 F (gx dQ x.2.1 (gx q x.1.1 p.1)),())/\∀(O:Tk),let M:=(List.getD O.2.1 F dQ);let H:=(O.2.1.length:Int);let G:=(i64.wrap (p.1+v),O.2.1,());let l:=(gx E6 (List.drop q.toNat (List.take N.toNat t)) O.1);let w:=(List.getD O.2.1 l.1.toNat dQ);let g:Prop:=(q<=p.1/\p.1<H);let c:Prop:=(O.1<(↑(List.drop q.toNat (List.take N.toNat t)).length:Int));(Ty.int i64).wf O.1/\IT O.2.1/\True->I_1 O->(iB (decide c) ((q<=O.1/\c)/\g/\(q<=l.1/\l.1<H)/\(sz K1 M/\sz K1 l.2/\sz K1 w)/\M0 λr=>let B:=(i64.wrap (O.1+v),List.set O.2.1 F r.1,());(rv w=(0:Rat)->r.1=List.getD O.2.1 F dQ)/\(rv w≠(0:Rat)->r.1=rc (rv M-rv l.2*rv w))->g/\I_1 B/\b B<b O) (I G/\a G<a p))) (d/\∃(I:C1o->Prop),∃(a: _->Nat),I (q,p.2.1,List.replicate n.toNat dQ,())/\∀(p:C1o),let s:=(i64.wrap (n-v)-p.1);let k:=(i64.wrap s);let o:=(gx [] x.1.2.2.2.2.2 k);let L:=(gx E6 o q);let A:=(↑o.length:Int);let h:Prop:=(p.1<n);(Ty.int i64).wf p.1/\IT p.2.1/\IT p.2.2.1/\True->I p->(iB (decide h) ((q<=i64.wrap s/\i64.wrap s<(x.1.2.2.2.2.2.length:Int))/\(q<=v/\v<=A/\A<=A)/\∃(I_1:Tk->Prop),∃(b: _->Nat),I_1 (q,p.2.1,())/\∀(O:Tk),let J:=(O.2.1.length:Int);let z:=(List.getD O.2.1 k.toNat dQ);let m:=(gx E6 (List.drop v.toNat (List.take A.toNat o)) O.1);let y:=(List.getD O.2.1 m.1.toNat dQ);let d:Prop:=(O.1<(↑(List.drop v.toNat (List.take A.toNat o)).length:Int));let c:Prop:=(q<=i64.wrap s/\i64.wrap s<J);(Ty.int i64).wf O.1/\IT O.2.1/\True->I_1 O->(iB (decide d) ((q<=O.1/\d)/\c/\(q<=m.1/\m.1<J)/\(sz K1 z/\sz K1 m.2/\sz K1 y)/\M0 λr=>let E:=(i64.wrap (O.1+v),List.set O.2.1 k.toNat r.1,());(rv y=(0:Rat)->r.1=List.getD O.2.1 k.toNat dQ)/\(rv y≠(0:Rat)->r.1=rc (rv z-rv m.2*rv y))->c/\I_1 E/\b E<b O) (c/\(q<=q/\q<A)/\(G4 z/\G4 L.2)/\∀(r:Wm),let K:=(List.set O.2.1 k.toNat r.1);let u:=(i64.wrap (p.1+v),List.set O.2.1 k.toNat r.1,List.set p.2.2.1 (gx q x.1.2.1 k).toNat (K.getD k.toNat dQ),());IU r.1/\True/\True->(rv L.2=(0:Rat)->r.2.1=false)/\(rv L.2≠(0:Rat)->r.1=rc (rv z/rv L.2)/\r.2.1=true)->c/\(q<=i64.wrap s/\i64.wrap s<(x.1.2.1.length:Int))/\(q<=i64.wrap s/\i64.wrap s<(↑K.length:Int))/\(q<=gx q x.1.2.1 k/\gx q x.1.2.1 k<(p.2.2.1.length:Int))/\I u/\a u<a p))) ((¬H5 x.1 C->p.2.2.1= []/\q=v)/\(H5 x.1 C->(x.2.1.length≠x.1.1.length->p.2.2.1= []/\q=(4:Int))/\(x.2.1.length=x.1.1.length->q=q/\List.length p.2.2.1=x.1.1.length/\(∀(e:QQ),e∈p.2.2.1->e=rc (rv e))/\∀(i:Nat),i<x.1.1.length->(A7 x.1.1.length fun(j:Nat)=>Qw x.1 x.1.1.length i j*rv (List.getD p.2.2.1 (ix x.1.2.1 j) zr))=rv (x.2.1.getD (ix x.1.1 i) zr)))))))))
def bQ (k:Nat) (q:Rat) (x:C0):Prop:=sz k x/\Ic x/\rv x=q
def bN {k:Nat} {q:Rat} (h:qs k q):bQ k q (rc q):=⟨Kh h,A7g q,F6 q⟩
def Tx {j k:Nat} {q:Rat} {x:C0} (h:bQ j q x) (a:j<=k):bQ k q x:=⟨F1 h.1 a,h.2⟩
def B8y {v:List D5} {i:Nat} (a:∀e∈v,0<=e.1/\e.1<(i:Int)) (h:Nat->Rat):Rl v (λj=>h j.toNat)=A7 i λj=>A6 v (j:Int)*h j:=by
 rw[A6s a];exact A3 λj _=>by rw[qK]
def bM {s j k:Nat} {a f b r:C0} {x y:Rat} (d:bQ j x a) (w:Ic f) (z:sz s f) (D:1<=s) (v:bQ k y b) (A:1<=j) (B:1<=k) (t:rv b=0->r=a) (u:rv b≠0->r=rc (rv a-rv f*rv b)):bQ (j+(s+k)+1) (x-rv f*y) r:=by
 obtain⟨g,h,i⟩:=id d;obtain⟨l,n,o⟩:=id v;subst i o;by_cases c:rv b=0
 . rw[t c,c,sL,tI,wM,rJ];exact Tx d ω
 . rw[u c];exact bN (lA (Hr h g A) (Ii (Hr w z D) (Hr n l B)))
def FW (Y n i:Nat) (Lm:Nat->Nat->Rat) (b:Nat->Rat) (z:List C0):Prop:=z.length=n/\∀j,j<i->bQ Y (rv (z.getD j zr)) (z.getD j zr)/\rv (z.getD j zr)+A7 j (λm=>Lm j m*rv (z.getD m zr))=b j
def FI (s T Y i:Nat) (c:Rat) (w:List D5) (b:List C0) (t:Nat) (z:List C0):Prop:=∃a,z=b.set i a/\Ic a/\rv a=c-Rl (w.take t) (λj=>rv (b.getD j.toNat zr))/\(sz T a\/a=rc (rv a))/\∀m:Nat,(∀e∈w.take t,e.1<(m:Int))->sz (T+m*(s+Y+1)) a
variable {s T Y n i:Nat} {c:Rat} {w:List D5} {z0 z:List C0} {Lm:Nat->Nat->Rat} {b:Nat->Rat}
def FI.init {x:C0} (a:bQ T c x):FI s T Y i c w z0 0 (z0.set i x):=
 ⟨x,rfl,a.2.1,by rw[a.2.2];simp only[g0g,Rl];rw[tI,wM,rJ], .inl a.1,λm _=>F1 a.1 (g5d _ _)⟩
def B2p {d:D5} {w:List D5} (f:asc w) {t:Int} (h:0<=t) (i:t<(w.length:Int)):∀y∈w.take t.toNat,y.1<(gx d w t).1:=λy g=>by
 have c:(w.take (t+1).toNat).Pairwise (λa b=>a.1<b.1):=g1m f;rw[(ω:(t+1).toNat=t.toNat+1),rU,J1 (d:=d) h i,tS]at c;exact c.2.2 y g (gx d w t) (by simp)
def B6e {d:D5} {w:List D5} {t:Int} (b:0<=t) (c:t<(w.length:Int)) {m:Nat} (a:∀e∈w.take (t+1).toNat,e.1<(m:Int)):(gx d w t).1<(m:Int):=a _ (by
 rw[(ω:(t+1).toNat=t.toNat+1),rU,J1 (d:=d) b c];simp)
def kC {T s Y a m:Nat} (h:a+1<=m):T+a*(s+Y+1)+(s+Y)+1<=T+m*(s+Y+1):=by
 have:=rC (s+Y+1) h;rw[tX]at this;omega
def FI.next (k:FW Y n i Lm b z0) (hT:1<=T) (hY:1<=Y) (hs:1<=s) (hi:i<n) (hasc:asc w) (hw:∀e∈w,0<=e.1/\e.1<(i:Int)/\sz s e.2/\Ic e.2) {t:Int} (t0:0<=t) (t1:t<(w.length:Int)) (h:FI s T Y i c w z0 t.toNat z):
 (z.length=n/\sz (T+n*(s+Y+1)) (z.getD i zr)/\sz Y (z.getD (gx E6 w t).1.toNat zr))/\∀r,(rv (z.getD (gx E6 w t).1.toNat zr)=0->r=z.getD i zr)->(rv (z.getD (gx E6 w t).1.toNat zr)≠0->r=rc (rv (z.getD i zr)-rv (gx E6 w t).2*rv (z.getD (gx E6 w t).1.toNat zr)))->FI s T Y i c w z0 (t+1).toNat (z.set i r):=by
 obtain⟨A,rfl,H,M,F,O⟩:=h;have G:=G7 (d:=E6) t0 t1;obtain⟨Q,R,B,D⟩:=hw _ G;have E:=B2p (d:=E6) hasc t0 t1;have N:=eO (d:=E6) t0 t1 (λj=>rv (z0.getD j.toNat zr));have P:∀m:Nat,(∀e∈w.take (t+1).toNat,e.1<(m:Int))->(gx E6 w t).1<(m:Int):=λm f=>B6e t0 t1 f
 generalize gx E6 w t=e at*;have J:e.1.toNat≠i:=ω
 have I:=k.1;rw[D3 J,B7 ω];obtain⟨l,_⟩:=k.2 e.1.toNat ω;have g:=O e.1.toNat λy hy=>by have:=E y hy;omega
 have U:=kC (T:=T) (s:=s) (Y:=Y) (ω:e.1.toNat+1<=n);refine⟨⟨by rw[qO];exact I,F1 g ω,l.1⟩,λr u v=>?_⟩;have a:=bM (x:=rv A) ⟨g,H,rfl⟩ D B hs l ω hY u v;refine⟨r,by rw[g4u],a.2.1,?_,?_,λm f=>?_⟩
 . rw[a.2.2,N,M];grind
 . by_cases o:rv (z0.getD e.1.toNat zr)=0
   . rw[u o];exact F
   . right;rw[v o,F6]
 . exact F1 a.1 (kC (by have:=P m f;omega))
def FI.done (o:FW Y n i Lm b z0) (I:i<n) (H:∀e∈w,0<=e.1/\e.1<(i:Int)) (v:∀j,j<i->A6 w (j:Int)=Lm i j) {t:Nat} (G:w.length<=t) (h:FI s T Y i (b i) w z0 t z) (x:T<=Y) (E:qs Y (b i-A7 i λm=>Lm i m*rv (z0.getD m zr))):FW Y n (i+1) Lm b z:=by
 obtain⟨l,rfl,B,d,a,_⟩:=h;have D:=o.1;rw[qS G]at d;have k:∀j,j<i->(z0.set i l).getD j zr=z0.getD j zr:=λj y=>D3 ω
 have F:Rl w (λj=>rv (z0.getD j.toNat zr))=A7 i λm=>Lm i m*rv (z0.getD m zr):=by
  rw[B8y H (λm=>rv (z0.getD m zr))];exact A3 λm c=>by rw[v m c]
 rw[F]at d;refine⟨by rw[qO];exact D,λj y=>?_⟩;by_cases A:j=i
 . subst A;rw[B7 ω];refine⟨⟨?_,B,rfl⟩,?_⟩
   . rcases a with a|a
     . exact F1 a x
     . rw[a,d];exact Kh E
   rw[d,A3 (f:=λm=>Lm j m*rv ((z0.set j l).getD m zr)) (g:=λm=>Lm j m*rv (z0.getD m zr)) λm c=>by rw[k m c]];grind
 . rw[k j ω];obtain⟨r,u⟩:=o.2 j ω;refine⟨r,?_⟩;rw[<-u];congr 1;exact A3 λm c=>by rw[k m ω]
def C5b {α:Type} (l:List α) (i:Nat) (d:α):l.set i (l.getD i d)=l:=by
 refine g0o (by rw[qO]) λj b a=>?_
 rw[g4z];split
 . rename_i e;subst e;rw[J7 _ _ a]
 . rfl
def BW (Y n i:Nat) (U:Nat->Nat->Rat) (y:Nat->Rat) (z:List C0):Prop:=z.length=n/\(∀j,j<i->bQ Y (y j) (z.getD j zr))/\∀j,i<=j->j<n->(∃q,z.getD j zr=rc q/\qs Y q)/\A7 n (λm=>U j m*rv (z.getD m zr))=y j
def BI (s Y n i:Nat) (c:Rat) (w:List D5) (z0:List C0) (t:Nat) (z:List C0):Prop:=∃a,z=z0.set i a/\Ic a/\rv a=c-Rl (w.take t) (λj=>rv (z0.getD j.toNat zr))/\∀m:Nat,(∀e∈w.take t,e.1<(m:Int))->sz (Y+m*(s+Y+1)) a
variable {s Y n i:Nat} {c:Rat} {w:List D5} {z0 z:List C0} {U:Nat->Nat->Rat} {y:Nat->Rat}
def BI.init (d:BW Y n (i+1) U y z0) (a:i<n):BI s Y n i (y i) w z0 0 z0:=by
 obtain⟨a,b,c⟩:=d.2.1 i (rN _);refine⟨z0.getD i zr,(C5b z0 i zr).symm,b,?_,λm _=>F1 a (g5d _ _)⟩;rw[c];simp only[g0g,Rl];rw[tI,wM,rJ]
def BI.next (f:BW Y n (i+1) U y z0) (hs:1<=s) (hY:1<=Y) (hi:i<n) (hasc:asc w) (hw:∀e∈w,(i:Int)<e.1/\e.1<(n:Int)/\sz s e.2/\Ic e.2) {t:Int} (t0:0<=t) (t1:t<(w.length:Int)) (h:BI s Y n i c w z0 t.toNat z):
 (z.length=n/\sz (Y+n*(s+Y+1)) (z.getD i zr)/\sz Y (z.getD (gx E6 w t).1.toNat zr))/\∀r,(rv (z.getD (gx E6 w t).1.toNat zr)=0->r=z.getD i zr)->(rv (z.getD (gx E6 w t).1.toNat zr)≠0->r=rc (rv (z.getD i zr)-rv (gx E6 w t).2*rv (z.getD (gx E6 w t).1.toNat zr)))->BI s Y n i c w z0 (t+1).toNat (z.set i r):=by
 obtain⟨l,rfl,B,H,J⟩:=h;have A:=G7 (d:=E6) t0 t1;obtain⟨P,Q,o,u⟩:=hw _ A;have v:=B2p (d:=E6) hasc t0 t1;have I:=eO (d:=E6) t0 t1 (λj=>rv (z0.getD j.toNat zr));have M:∀m:Nat,(∀e∈w.take (t+1).toNat,e.1<(m:Int))->(gx E6 w t).1<(m:Int):=λm b=>B6e t0 t1 b
 generalize gx E6 w t=e at*;have E:e.1.toNat≠i:=ω
 have D:=f.1;rw[D3 E,B7 ω];obtain⟨⟨q,F,G⟩,_⟩:=f.2.2 e.1.toNat ω ω;have k:=J e.1.toNat λy hy=>by have:=v y hy;omega
 have g:bQ Y (rv (z0.getD e.1.toNat zr)) (z0.getD e.1.toNat zr):=by
  rw[F,F6];exact bN G
 have R:=kC (T:=Y) (s:=s) (Y:=Y) (ω:e.1.toNat+1<=n);refine⟨⟨by rw[qO];exact D,F1 k ω,g.1⟩,λr N O=>?_⟩;have a:=bM (x:=rv l) ⟨k,B,rfl⟩ u o hs g ω hY N O;refine⟨r,by rw[g4u],a.2.1,?_,λm b=>?_⟩
 . rw[a.2.2,I,H];grind
 . exact F1 a.1 (kC (by have:=M m b;omega))
def BI.done (f:BW Y n (i+1) U y z0) (Q:i<n) (d:∀e∈w,(i:Int)<e.1/\e.1<(n:Int)) (H:∀j,i<j->A6 w (j:Int)=U i j) (u:∀k m,m<k->k<n->U k m=0) (M:U i i≠0) {t:Nat} (O:w.length<=t) (h:BI s Y n i (y i) w z0 t z)
 (N:∀x:Nat->Rat,(∀j,i<=j->j<n->A7 n (λm=>U j m*x m)=y j)->qs Y (x i)):
 sz (Y+n*(s+Y+1)) (z.getD i zr)/\qs Y (rv (z.getD i zr)/U i i)/\BW Y n i U y (z.set i (rc (rv (z.getD i zr)/U i i))):=by
 obtain⟨c,rfl,R,A,E⟩:=h;have J:=f.1;rw[qS O]at A E;rw[B7 ω,g4u];have P:=E n λe a=>(d e a).2
 have D:∀j,A7 n (λm=>U j m*rv ((z0.set i (rc (rv c/U i i))).getD m zr))=A7 n (λm=>if m=i then U j i*(rv c/U i i)else U j m*rv (z0.getD m zr)):=λj=>A3 λm _=>by
  by_cases o:m=i
  . subst o;rw[qJ rfl,B7 ω,F6]
  . rw[qG o,D3 o]
 have B:∀j,i<=j->j<n->A7 n (λm=>U j m*rv ((z0.set i (rc (rv c/U i i))).getD m zr))=y j:=λj l b=>by
  by_cases g:j=i
  . subst g;rw[D];have F:Rl w (λm=>rv (z0.getD m.toNat zr))=A7 n (λm=>if m=j then 0 else U j m*rv (z0.getD m zr)):=by
     rw[A6s (n:=n) λe a=>⟨by have:=(d e a).1;omega,(d e a).2⟩];refine A3 λm o=>?_
     rw[qK];rcases g0i m j with hmj|hmj|hmj
     . rw[qG ω,D1 λe a I=>by have:=(d e a).1;omega,u j m hmj b]
     . rw[qJ hmj,D1 λe a I=>by have:=(d e a).1;omega,rS]
     . rw[qG ω,H m hmj]
    have G:A7 n (λm=>if m=j then U j j*(rv c/U j j)else U j m*rv (z0.getD m zr))=A7 n (λm=>(if m=j then U j j*(rv c/U j j)else 0)+if m=j then 0 else U j m*rv (z0.getD m zr)):=A3 λm _=>by
     split
     . rw[rJ]
     . rw[sM]
    rw[G,S9, <-F,F8 b λm _ o=>qG o,qJ rfl,A,tT,vY,tF,wE _ M,uA];grind
  . rw[D, <-(f.2.2 j ω b).2];refine A3 λm o=>?_
    by_cases r:m=i
    . rw[qJ r,r,u j i ω b,rS,rS]
    . rw[qG r]
 have v:qs Y (rv c/U i i):=by
  have:=N _ B;rwa[B7 ω,F6]at this
 refine⟨P,v,by rw[qO];exact J,λj l=>?_,λj l b=>⟨?_,B j l b⟩⟩
 . rw[D3 ω];exact f.2.1 j ω
 . by_cases g:j=i
   . subst g;exact⟨_,B7 ω,v⟩
   . rw[D3 g];exact(f.2.2 j ω b).1
def mA (b:∀k m,m<k->k<n->U k m=0) (c:∀i,i<n->U i i≠0):∀(i:Nat) (x:Nat->Rat),i<=n->(∀j,i<=j->j<n->A7 n (λm=>U j m*x m)=y j)->∃a:Nat->Rat,(∀j,i<=j->a j=x j)/\∀j,j<n->A7 n (λm=>U j m*a m)=y j
 |0,x,_,h=>⟨x,λ_ _=>rfl,λj d=>h j (rM _) d⟩
 |i+1,x,s,h=>by
  let q:=y i-A7 n (λm=>if m=i then 0 else U i m*x m)
  have r:∀j,A7 n (λm=>U j m*(if m=i then q/U i i else x m))=U j i*(q/U i i)+A7 n (λm=>if m=i then 0 else U j m*x m):=λj=>by
   rw[A3 (g:=λm=>(if m=i then U j i*(q/U i i)else 0)+if m=i then 0 else U j m*x m) λm _=>by
    by_cases e:m=i
    . subst e;rw[qJ rfl,qJ rfl,qJ rfl,rJ]
    . rw[qG e,qG e,qG e,sM],S9,F8 (k:=i) ω λm _ o=>qG o,qJ rfl]
  obtain⟨a,d,f⟩:=mA b c i (λm=>if m=i then q/U i i else x m) ω λj l hjn=>by
   rw[r];by_cases e:j=i
   . subst e;rw[tT,vY,tF,wE _ (c j hjn),uA];show y j-A7 n (λm=>if m=j then 0 else U j m*x m)+ _= _;grind
   . rw[b j i ω hjn,rS,sM, <-h j ω hjn];refine A3 λm _=>?_
     by_cases e:m=i
     . subst e;rw[qJ rfl,b j m ω hjn,rS]
     . rw[qG e]
  exact⟨a,λj l=>by rw[d j ω,qG ω],f⟩
def B7a {n:Nat} {L U:Nat->Nat->Rat} {b:Nat->Rat} {v:Nat->Rat} {y:Nat->Rat} (d:∀j,j<n->y j+A7 j (λm=>L j m*y m)=b j) (f:∀j,j<n->A7 n (λm=>U j m*v m)=y j) (h:∀i,i<n->L i i=1) (l:∀i j,i<j->j<n->L i j=0) {i:Nat} (a:i<n):
 A7 n (λj=>A7 n (λk=>L i k*U k j)*v j)=b i:=by
 have c:A7 n (λj=>A7 n (λk=>L i k*U k j)*v j)=A7 n λk=>L i k*y k:=by
  rw[A3 (g:=λj=>A7 n λk=>L i k*(U k j*v j)) λj _=>by rw[<-PH];exact A3 λk _=>tF _ _ _,Sj];exact A3 λk o=>by rw[Bd,f k o]
 rw[c, <-d i a];have c:∀t,i+1+t<=n->A7 (i+1+t) (λk=>L i k*y k)=y i+A7 i (λm=>L i m*y m):=by
  intro t
  induction t with
  |zero=>intro _;rw[tA,A7,h i a,uD,yY]
  |succ t a=>intro d;rw[<-uM,A7,a ω,l i (i+1+t) ω ω,rS,rJ]
 have:=c (n-(i+1)) ω;rwa[(ω:i+1+(n-(i+1))=n)]at this
def AO:sn Y7 Oy:=λx _ i=>by
 obtain⟨⟨P,Q,⟨j,lc,L⟩,⟨l,k,U⟩⟩,b,_⟩:=x;obtain⟨f,c,d⟩:=i;simp only[Oy,iB,Nr];refine⟨⟨qD _,g1f.2 f,c,d⟩,?_⟩;rintro⟨(r:Bool),_⟩ _ a;simp only at a|-;cases r with
 |false=>
  have g:¬H5 (P,Q,(j,lc,L),(l,k,U)) (P.length:Int):=λh=>by have:=a.2 h;cases this
  exact⟨λ_=>⟨λ_=>by trivial,λh=>absurd h g⟩,λh=>(by cases h)⟩
 |true=>
  have h:=a.1 rfl;refine⟨λh=>(by cases h),λ_=>⟨λhne=>⟨λh2=>absurd h h2,λ_=>⟨λ_=>by trivial,λhe=>absurd (sZ Int.ofNat he) (qA hne)⟩⟩,λheq=>⟨λh2=>absurd h h2,λ_=>⟨λhne=>absurd (wV (qN (qB heq))) hne,λ_=>by trivial⟩⟩⟩⟩
def O5 {p:Wf} {n:Nat} (h:G3 p (n:Int)):p.length=n/\(∀a,a<n->p.getD a 0=(ix p a:Int)/\ix p a<n)/\∀a b,a<n->b<n->ix p a=ix p b->a=b:=by
 obtain⟨c,g,i⟩:=h;have k:p.length=n:=ω
 have c:∀a,a<n->p.getD a 0=(ix p a:Int)/\ix p a<n:=λa f=>by
  have:=g _ (C9 (d:=0) (ω:a<p.length));unfold ix;omega
 refine⟨k,c,λa b f j e=>?_⟩;have g:=(c a f).1;have f:=(c b j).1;rw[<-e]at f;have c:p.getD a 0=p.getD b 0:=g.trans f.symm;rw[J7 _ _ ω,J7 _ _ ω]at c;exact(yA i).1 c
def B5j {v:List D5} {n:Int} (h:F7 v n) {i:Nat} (r:(i:Int)<n) (k:∀j:Nat,(j:Int)<n->i<j->A6 v (j:Int)=0) (o:A6 v (i:Int)=1):v≠ []/\asc (v.take (v.length-1))/\(∀e∈v.take (v.length-1),e∈v/\0<=e.1/\e.1<(i:Int))/\∀j:Nat,j<i->A6 (v.take (v.length-1)) (j:Int)=A6 v (j:Int):=by
 obtain⟨f,y,z⟩:=(A7l h r).2 ⟨k,o⟩;have A:0<v.length:=uJ.2 f;have c:v=v.take (v.length-1)++ [gx E6 v ((v.length:Int)-1)]:=by
  have:=Lh (d:=E6) (l:=v) (t:=(v.length:Int)-1) ω ω;rw[(ω:((v.length:Int)-1+1).toNat=v.length),uZ,(ω:((v.length:Int)-1).toNat=v.length-1)]at this;exact this
 generalize gx E6 v ((v.length:Int)-1)=l at*;have b:=h.1;generalize u:v.take (v.length-1)=w at*;have s:∀e∈w,e.1<(i:Int):=λe a=>by
  rw[c]at b;have:=(tS.1 b).2.2 e a l (qY.2 rfl);omega
 refine⟨f,u▸g1m b,λe a=>?_,λj x=>?_⟩
 . have g:e∈v:=by rw[c];exact sH _ a
   exact⟨g,(h.2 e g).1,s e a⟩
 . rw[c,Q9];have:A6 [l] (j:Int)=0:=D1 λe a hej=>by
    rw[qY]at a;subst a;omega
   rw[this,rJ]
def B7t {v:List D5} {n:Int} (h:F7 v n) {i:Nat} (c:∀j:Nat,j<i->A6 v (j:Int)=0) (d:A6 v (i:Int)≠0):1<=v.length/\gx E6 v 0∈v/\rv (gx E6 v 0).2=A6 v (i:Int)/\asc (v.drop 1)/\(∀e∈v.drop 1,e∈v/\(i:Int)<e.1/\e.1<n)/\∀j:Nat,i<j->A6 (v.drop 1) (j:Int)=A6 v (j:Int):=by
 obtain⟨k,b⟩:=(B7u h).2 ⟨c,d⟩;cases v with
 |nil=>exact absurd rfl k
 |cons e r=>
  have g:gx E6 (e::r) 0=e:=rfl;rw[g]at b|-;obtain⟨f,l⟩:=M6.1 h.1;refine⟨by rw[rK];omega,rL,?_,l,λx a=>⟨qL _ a,?_,(h.2 x (qL _ a)).2.1⟩,λj o=>?_⟩
  . rw[<-b,Bp h.1]
  . have:=f x a;omega
  . exact(Fo ω).symm
def fwI (Y n:Nat) (ML:O1) (c:Nat->Rat) (p:Int×List C0×Unit):Prop:=0<=p.1/\p.1<=(n:Int)/\FW Y n p.1.toNat (el ML) c p.2.1
def fiI (s T Y i:Nat) (c:Rat) (w:List D5) (z0:List C0) (p:Int×List C0×Unit):Prop:=0<=p.1/\p.1<=(w.length:Int)/\FI s T Y i c w z0 p.1.toNat p.2.1
def bwI (Y n:Nat) (Q:Wf) (MU:O1) (y:Nat->Rat) (p:Int×List C0×List C0×Unit):Prop:=0<=p.1/\p.1<=(n:Int)/\BW Y n (n-p.1.toNat) (el MU) y p.2.1/\p.2.2.1.length=n/\∀j,n-p.1.toNat<=j->j<n->p.2.2.1.getD (ix Q j) zr=p.2.1.getD j zr
def biI (s Y n i:Nat) (c:Rat) (w:List D5) (z0:List C0) (p:Int×List C0×Unit):Prop:=0<=p.1/\p.1<=(w.length:Int)/\BI s Y n i c w z0 p.1.toNat p.2.1
def C1d {T:Nat} {b:List C0} (h:Gc T b) {i:Nat} (a:i<b.length):sz T (b.getD i zr):=h _ (C9 a)
def IC:sn Ct Wn:=λx ar ci=>by
 obtain⟨⟨(P:Wf),(Q:Wf),⟨av,lc,L⟩,⟨b0,ai,U⟩⟩,b,_⟩:=x;change List (List D5)at L U;change List C0 at b;change Int at av lc b0 ai;have cb:Lu (av,lc,L):=V6 ar.1.2.2.1.2.2.2;have cc:Lu (b0,ai,U):=V6 ar.1.2.2.2.2.2.2;have ce:∀x∈b,Ic x:=λx hx=>Gj (ar.2.1.2 x hx)
 obtain⟨ap,c8,c9,c6⟩:=ci;simp only[Wn,iB,Dx,M0];refine⟨⟨ap,c8,c9⟩,?_⟩;rintro⟨(s:Int),_⟩ _ X;simp only at X|-;by_cases M:H5 (P,Q,(av,lc,L),(b0,ai,U)) (P.length:Int)
 case neg=>
  have a6:s=1:=X.1 M;subst a6;exact⟨λ_=>⟨λ_=>⟨by trivial,by trivial⟩,λr=>absurd r M⟩,λr=>absurd r (by simp)⟩
 by_cases R:b.length=P.length
 case neg=>
  have a6:s=4:=(X.2 M).1 R;subst a6;exact⟨λ_=>⟨λr=>absurd M r,λ_=>⟨λ_=>⟨by trivial,by trivial⟩,λr=>absurd r R⟩⟩,λr=>absurd r (by simp)⟩
 have a6:s=0:=(X.2 M).2 R;subst a6;refine⟨λr=>absurd r (by simp),λ_=>?_⟩;obtain⟨D,T0,Y0,af,aj,b8,cm,cn,co,⟨cp,cq⟩,bb⟩:=c6 M R;obtain⟨bf,bg,⟨bo,ag,bk⟩,⟨bp,ah,bl⟩,H⟩:=id M;simp only at bf bg bo ag bp ah;obtain⟨_,b5,d2⟩:=O5 bf;obtain⟨cy,b6,bn⟩:=O5 bg;subst bo bp;have ag:lc=(P.length:Int):=ag;have ah:ai=(P.length:Int):=ah;subst ag ah;have ap:P.length<=16384:=ap;have bb:Y0+P.length*(D+Y0+1)+D<=K1:=bb;have ac:1<=Y0:=qU aj b8;generalize an:P.length*(D+Y0+1)=d3 at*;have R:b.length=P.length:=R;have bx:L.length=P.length:=wV bk.2.2.2.2.1;have c2:U.length=P.length:=wV bl.2.2.2.2.1;have c0:∀i,i<P.length->F7 (L.getD i []) (P.length:Int)/\Zj (L.getD i []):=λi f=>by
  have J:=C9 (d:=([]:List D5)) (ω:i<L.length);exact⟨bk.2.2.2.2.2 _ J,cb _ J⟩
 have c3:∀i,i<P.length->F7 (U.getD i []) (P.length:Int)/\Zj (U.getD i []):=λi f=>by
  have J:=C9 (d:=([]:List D5)) (ω:i<U.length);exact⟨bl.2.2.2.2.2 _ J,cc _ J⟩
 have c4:∀i,i<P.length->ix P i<b.length/\Ic (b.getD (ix P i) zr):=λi f=>by
  have:=(b5 i f).2;exact⟨ω,ce _ (C9 ω)⟩
 refine⟨⟨qD _,qH _,ω,ω⟩,fwI Y0 P.length (↑P.length, ↑P.length,L) (λi=>rv (b.getD (ix P i) zr)),λp=>((P.length:Int)-p.1).toNat,⟨qH _,qD _,rG,λj c=>absurd c (tY j)⟩,?_⟩;rintro⟨(i:Int),(z:List C0),_⟩ _ ⟨N,cv,A⟩;simp only at N cv A|-;refine⟨λf=>?_,λf=>?_⟩
 . have f:=qA f;have G:i.toNat<P.length:=ω
   obtain⟨bv,d0⟩:=b5 _ G;obtain⟨ak,c5⟩:=c4 _ G;rw[J4 (d:=(0:Int)) N f,Hz N (ω:i<(L.length:Int)),bv];obtain⟨Y,ao⟩:=c0 _ G;obtain⟨ch,O,u,au⟩:=B5j Y (i:=i.toNat) ω (λj c a4=>(H i.toNat j (sC.2 G) c).1 a4) (H i.toNat i.toNat (sC.2 G) (sC.2 G)).2.1;have cf:0<(L.getD i.toNat []).length:=uJ.2 ch;have d1:=V5 Y;have bz:∀e∈L.getD i.toNat [],sz D e.2:=cm _ (C9 (l:=L) (ω:i.toNat<L.length));have ad:∀j:Nat,el ((P.length:Int),(P.length:Int),L) i.toNat j=A6 (L.getD i.toNat []) (j:Int):=λ_=>rfl
   generalize L.getD i.toNat []=v at*;rw[wv ω,(ω:((v.length:Int)-1).toNat=v.length-1)];simp only[show Int.toNat 0=0 from rfl,uB];generalize v.take (v.length-1)=w at*;have V:∀e∈w,0<=e.1/\e.1<(i.toNat:Int)/\sz D e.2/\Ic e.2:=λe h=>by
    obtain⟨b4,bt,bu⟩:=u e h;exact⟨bt,bu,bz e b4,ao e b4⟩
   have cr:w.length<=16384:=by
    have:=V5 (n:=(i.toNat:Int)) (v:=w) ⟨O,λe h=>⟨(u e h).2.1,(u e h).2.2,(Y.2 e (u e h).1).2.2⟩⟩;omega
   refine⟨⟨N,f⟩,⟨qD _,sC.2 ak⟩,⟨N,by rw[A.1];exact f⟩,⟨N,by rw[bx];exact f⟩,⟨qH _,ω,ω⟩,fiI D T0 Y0 i.toNat (rv (b.getD (ix P i.toNat) zr)) w z,λp=>((w.length:Int)-p.1).toNat,⟨qH _,qD _,?_⟩,?_⟩
   . show FI D T0 Y0 i.toNat (rv (b.getD (ix P i.toNat) zr)) w z 0 (z.set i.toNat (gx dQ b ↑(ix P i.toNat)));rw[J4 (d:=dQ) (qD _) (sC.2 ak),qK];exact FI.init ⟨C1d co ak,c5,rfl⟩
   rintro⟨(aa:Int),(y:List C0),_⟩ _ ⟨E,az,B⟩;simp only at E az B|-;refine⟨λo=>?_,λo=>?_⟩
   . have o:=qA o;obtain⟨⟨a0,a9,aw⟩,_⟩:=FI.next A aj ac af G O V E o B
     have am:=G7 (d:=E6) E o;obtain⟨b3,ab,a2,bs⟩:=V _ am;rw[an]at a9;rw[wv ω];refine⟨⟨E,o⟩,⟨N,by rw[a0];exact f⟩,⟨b3,by rw[a0];omega⟩,⟨F1 a9 ω,F1 a2 ω,F1 aw ω⟩,?_⟩;rintro⟨(s:C0),_⟩ _ ⟨ax,ay⟩;exact⟨⟨N,by rw[a0];exact f⟩,⟨by simp only;omega,by simp only;omega,(FI.next A aj ac af G O V E o B).2 s ax ay⟩,ω⟩
   . have o:=qB o;rw[wv ω];refine⟨⟨by simp only;omega,by simp only;omega,?_⟩,ω⟩;simp only;rw[(ω:(i+1).toNat=i.toNat+1)];refine FI.done A G (λe h=>⟨(u e h).2.1,(u e h).2.2⟩) (λj c=>(au j c).trans (ad j).symm) (ω:w.length<=aa.toNat) B b8 ?_;have:=cp i.toNat (λm=>if m=i.toNat then rv (b.getD (ix P i.toNat) zr)-A7 i.toNat (λm=>el ((P.length:Int),(P.length:Int),L) i.toNat m*rv (z.getD m zr))else rv (z.getD m zr)) G λj c=>by
      rw[A3 (g:=λm=>el ((P.length:Int),(P.length:Int),L) j m*rv (z.getD m zr)) λm J=>by rw[qG ω]];by_cases e:j=i.toNat
      . subst e;rw[qJ rfl];grind
      . rw[qG e,yY];exact(A.2 j ω).2
     rwa[qJ rfl]at this
 have f:=qB f;have c7:i.toNat=P.length:=ω
 rw[c7]at A;refine⟨⟨qD _,qH _,ω,ω⟩,bwI Y0 P.length Q (↑P.length, ↑P.length,U) (λj=>rv (z.getD j zr)),λp=>((P.length:Int)-p.1).toNat,⟨qH _,qD _,?_,rG,λj I a3=>?_⟩,?_⟩
 . exact⟨A.1,λj c=>(A.2 j c).1,λj I a3=>absurd a3 (Nat.not_lt.2 I)⟩
 . simp only[g0b,yG]at I;omega
 rintro⟨(k:Int),(a1:List C0),(b1:List C0),_⟩ _ ⟨cw,cx,F,a7,a8⟩;simp only at cw cx F a7 a8|-;have be:∀i,i<P.length->el ((P.length:Int),(P.length:Int),U) i i≠0:=λi f=>(H i i (sC.2 f) (sC.2 f)).2.2.2
 have b9:∀a m,m<a->a<P.length->el ((P.length:Int),(P.length:Int),U) a m=0:=λa m J W=>(H a m (sC.2 W) ω).2.2.1 J
 refine⟨λa5=>?_,λa5=>?_⟩
 . have a5:=qA a5;obtain⟨q,t,cj,ck,bh⟩:∃q:Nat,q<P.length/\(P.length:Int)-1-k=(q:Int)/\P.length-k.toNat=q+1/\P.length-(k+1).toNat=q:=⟨P.length-1-k.toNat,ω,ω,ω,ω⟩;have cs:i64.wrap (i64.wrap ((P.length:Int)-1)-k)=(q:Int):=by
    rw[wv (a:=(P.length:Int)-1) ω,wv ω];exact cj
   rw[ck]at F a8;obtain⟨bw,b7⟩:=b6 q t;have T:(q:Int)<(P.length:Int):=sC.2 t;obtain⟨Y,ao⟩:=c3 q t;have ba:∀e∈U.getD q [],sz D e.2:=cn _ (C9 (l:=U) (ω:q<U.length));have ad:∀j:Nat,el ((P.length:Int),(P.length:Int),U) q j=A6 (U.getD q []) (j:Int):=λ_=>rfl
   have bc:A6 (U.getD q []) (q:Int)≠0:=(H q q T T).2.2.2;obtain⟨cf,cg,bj,O,u,au⟩:=B7t Y (i:=q) (λj c=>(H q j T ω).2.2.1 c) bc;simp only[cs];rw[Hz (qD q) (ω:(q:Int)<(U.length:Int)),J4 (d:=(0:Int)) (qD q) (ω:(q:Int)<(Q.length:Int))];simp only[qK,uZ,show Int.toNat 1=1 from rfl];rw[bw];simp only[qK];generalize U.getD q []=v at*;generalize v.drop 1=w at*;have V:∀e∈w,(q:Int)<e.1/\e.1<(P.length:Int)/\sz D e.2/\Ic e.2:=λe h=>by
    obtain⟨b4,bt,bu⟩:=u e h;exact⟨bt,bu,ba e b4,ao e b4⟩
   have cr:w.length<=16384:=by
    have:=V5 (n:=(P.length:Int)) (v:=w) ⟨O,λe h=>⟨by have:=(u e h).2.1;omega,(u e h).2.2,(Y.2 e (u e h).1).2.2⟩⟩;omega
   have cd:(q:Int)<(U.length:Int):=by rw[c2];exact T
   refine⟨⟨qD _,cd⟩,⟨δ,ω,qH _⟩,biI D Y0 P.length q (rv (z.getD q zr)) w a1,λp=>((w.length:Int)-p.1).toNat,⟨qH _,qD _,BI.init F t⟩,?_⟩;rintro⟨(aa:Int),(y:List C0),_⟩ _ ⟨E,az,B⟩;simp only at E az B|-;refine⟨λo=>?_,λo=>?_⟩
   . have o:=qA o;obtain⟨⟨a0,a9,aw⟩,_⟩:=BI.next F af ac t O V E o B
     rw[an]at a9;have am:=G7 (d:=E6) E o;obtain⟨b3,ab,a2,bs⟩:=V _ am;have Z:(q:Int)<(y.length:Int):=by rw[a0];exact T
     rw[wv ω];refine⟨⟨E,o⟩,⟨qD _,Z⟩,⟨ω,by rw[a0];exact ab⟩,⟨F1 a9 ω,F1 a2 ω,F1 aw ω⟩,?_⟩;rintro⟨(s:C0),_⟩ _ ⟨ax,ay⟩;exact⟨⟨qD _,Z⟩,⟨by simp only;omega,by simp only;omega,(BI.next F af ac t O V E o B).2 s ax ay⟩,ω⟩
   have o:=qB o;obtain⟨b2,cz,bq⟩:=BI.done F t (λe h=>(u e h).2) (λj c=>(au j c).trans (ad j).symm) b9 (be q t) (ω:w.length<=aa.toNat) B λx hx=>by
    obtain⟨b4,ab,a2⟩:=mA b9 be q x ω hx;rw[<-ab q (qP _)];refine cq b4 (λi f=>?_) q t;exact B7a (L:=el ((P.length:Int),(P.length:Int),L)) (U:=el ((P.length:Int),(P.length:Int),U)) (λj c=>(A.2 j c).2) a2 (λi f=>(H i i (sC.2 f) (sC.2 f)).2.1) (λi j a4 c=>(H i j ω (sC.2 c)).1 a4) f
   rw[an]at b2;have Z:y.length=P.length:=by
    obtain⟨b4,rfl,_⟩:=B;rw[qO];exact F.1
   have cu:∀j,j≠q->y.getD j zr=a1.getD j zr:=λj c=>by
    obtain⟨b4,rfl,_⟩:=B;exact D3 c
   have aq:(q:Int)<(y.length:Int):=by rw[Z];exact T
   refine⟨⟨qD _,aq⟩,⟨δ,ω⟩,⟨K9 (k:=K1) (F1 b2 ω) δ,K9 (ba _ cg) (qU (ω:D<=K1) δ)⟩,?_⟩;rintro⟨(s:C0),d4,_⟩ _ ⟨_,bi⟩;simp only at bi|-;have X:s=rc (rv (y.getD q zr)/el ((P.length:Int),(P.length:Int),U) q q):=by
    rw[ad, <-bj];exact(bi (by rw[bj];exact bc)).1
   rw[show(List.set y q s).getD q dQ=s from B7 (by rw[Z];exact t),wv ω];refine⟨⟨qD _,aq⟩,⟨qD _,by rw[cy];exact T⟩,⟨qD _,by rw[qO];exact aq⟩,⟨qD _,by rw[a7];exact sC.2 b7⟩,⟨by simp only;omega,by simp only;omega,?_,by simp only;rw[qO];exact a7,λj I a3=>?_⟩,ω⟩
   . simp only;rw[bh,X];exact bq
   . simp only at I|-;rw[bh]at I;by_cases ae:j=q
     . subst ae;rw[B7 (by rw[a7];exact b7),B7 (by rw[Z];exact t)]
     . rw[D3 λe=>ae (bn j q a3 t e),D3 ae,cu j ae];exact a8 j ω a3
 have a5:=qB a5;have ca:P.length-k.toNat=0:=ω
 rw[ca]at F a8;have bm:∀j,j<P.length->b1.getD (ix Q j) zr=a1.getD j zr:=λj c=>a8 j (rM _) c
 have ct:∀e∈b1,∃j,j<P.length/\e=a1.getD j zr:=λe h=>by
  obtain⟨a,W,rfl⟩:=N4 zr h;obtain⟨j,c,b4⟩:=H7 (λa W=>(b6 a W).2) bn (ω:a<P.length);exact⟨j,c,by rw[<-b4];exact bm j c⟩
 refine⟨λr=>absurd M r,λ_=>⟨λr=>absurd R r,λ_=>⟨by trivial,a7,λe h=>?_,λa W=>?_⟩⟩⟩
 . obtain⟨j,c,rfl⟩:=ct e h;obtain⟨⟨x,I,_⟩,_⟩:=F.2.2 j (rM _) c;rw[I,F6]
 . have cl:=B7a (L:=el ((P.length:Int),(P.length:Int),L)) (U:=el ((P.length:Int),(P.length:Int),U)) (v:=λj=>rv (a1.getD j zr)) (λj c=>(A.2 j c).2) (λj c=>(F.2.2 j (rM _) c).2) (λi f=>(H i i (sC.2 f) (sC.2 f)).2.1) (λi j a4 c=>(H i j ω (sC.2 c)).1 a4) W;refine Eq.trans (A3 λj c=>?_) cl;rw[bm j c];rfl
def RZ:An:= {join:= [(8,⟨[0,4,5,6,11,12],[],[(3,false,[.val .bool])],[],[(0, .row .bool 4)]⟩)],loop:= [(7,⟨[0,4,5,11,12],[],[(3,false,[.val .bool]),(6,false,vI)],[],[(0, .row .bool 4)]⟩),(4,⟨[0,4,11],[],[(3,false,[.val .bool]),(12,false,vI)],[],[(0, .row .bool 4)]⟩)]}
def bW:An:= {join:= [(14,⟨[2,6],[1],[],[(3,46,[.val .bool, .val qa, .val qa])],[]⟩)],loop:= [(8,⟨[2,4,6,24,25],[1,2],[(26,false,vI)],[(3,46,[.val .bool, .val qa, .val qa])],[]⟩)],plan:= [(10,[0,4],[6],true, .done),(12,[1,4],[],true, .done)]}
abbrev C1j:=Bool×Int×List Bool×Unit
def Wo(x:Ql):Prop:=let e:=(0:Int);let a:=(x.1.length:Int);(e<=a/\a<=a/\(↑(1:Nat):Int)*a<=(281474976710656:Int)/\a<=(9223372036854775807:Int))/\∃(I:C1j->Prop),∃(h: _->Nat),I (false,e,List.replicate a.toNat false,())/\∀(p:C1j),Ty.bool.wf p.1/\(Ty.int i64).wf p.2.1/\(List.length p.2.2.1<=9223372036854775807/\∀(x:Bool),x∈p.2.2.1->True)/\True->I p->(iB (decide (p.2.1<a)) (∃(I_1:C1j->Prop),∃(j: _->Nat),I_1 (p.1,p.2.1,p.2.2.1,())/\∀(i:C1j),let k:Prop:=(gx e x.1 i.2.1≠p.2.1);let g:Prop:=(e<=i.2.1/\i.2.1<a);let d:=i.2.1.toNat;let c:=(i.1,i64.wrap (p.2.1+1),i.2.2.1,());let b:Prop:=(e<=i.2.1/\i.2.1<(i.2.2.1.length:Int));Ty.bool.wf i.1/\(Ty.int i64).wf i.2.1/\(List.length i.2.2.1<=9223372036854775807/\∀(x:Bool),x∈i.2.2.1->True)/\True->I_1 i->b/\(iB ((!List.getD i.2.2.1 d false)) (∃(J:Bool×List Bool×Unit->Prop),(b/\g/\(iB (decide k) (J (!i.1,List.set i.2.2.1 d true,())) (J (i.1,List.set i.2.2.1 d true,()))))/\∀(p:Bool×List Bool×Unit),let f:=(p.1,gx e x.1 i.2.1,p.2.1,());Ty.bool.wf p.1/\(List.length p.2.1<=9223372036854775807/\∀(x:Bool),x∈p.2.1->True)/\True->J p->g/\I_1 f/\j f<j i) (I c/\h c<h p))) (det x.1.length (Xv (ix x.1))=sgB p.1))
def GA(x:S4):Prop:=let l:=(4:Int);let h:=(1:Int);let d:=x.1.1.toNat;let b:=(0:Int);(J3 K1 x.1/\(A8 x.1->x.1.1=x.1.2.1->∃(T:Nat),(1:Nat)<=T/\(8:Nat)*T+(8:Nat)<=K1/\Hl d d (el x.1) T))/\∀(r:B7p),let m:=r.1.1.length;let k:=r.1.2.1.length;(bO r.1.1/\bO r.1.2.1/\WfM r.1.2.2.1/\O0 r.1.2.2.2.1/\O0 r.1.2.2.2.2.1/\DY r.1.2.2.2.2.2)/\O0 r.2.1/\True->(¬A8 x.1->r.1=UX/\r.2.1=h)/\(A8 x.1->(x.1.1≠x.1.2.1->r.1=UX/\r.2.1=l)/\(x.1.1=x.1.2.1->(¬nonsing d (el x.1)->r.1=UX/\r.2.1=6)/\(nonsing d (el x.1)->H5 r.1 x.1.1/\r.2.1=b/\(∀(v:List EE),v∈r.1.2.2.1.2.2->U5 v)/\(∀(v:List EE),v∈r.1.2.2.2.2.2->U5 v)/\(∀(T:Nat),(1:Nat)<=T->Hl d d (el x.1) T->∀(i j:Nat),i<Int.toNat x.1.1->qs (T+T) (el r.1.2.2.1 i j)/\qs (T+T) (el r.1.2.2.2 i j))/\∀(i j:Nat),i<Int.toNat x.1.1->j<Int.toNat x.1.1->Qw r.1 d i j=el x.1 (ix r.1.1 i) (ix r.1.2.1 j))))->(iB (decide (r.2.1=6)) (True/\M0 λr=>r.1=ri b->(¬A8 x.1->r.1=dQ/\b=h)/\(A8 x.1->(x.1.1≠x.1.2.1->r.1=dQ/\b=l)/\(x.1.1=x.1.2.1->r.1=rc (det x.1.1.toNat (el x.1))/\b=b))) ((iB (decide (r.2.1≠b)) ((¬A8 x.1->dQ=dQ/\r.2.1=h)/\(A8 x.1->(x.1.1≠x.1.2.1->dQ=dQ/\r.2.1=l)/\(x.1.1=x.1.2.1->dQ=rc (det x.1.1.toNat (el x.1))/\r.2.1=b))) (True/\M0 λo=>o.1=ri h->∃(I:TO->Prop),∃(s: _->Nat),I (b,o.1.1.1,o.1.1.2,o.1.2,())/\∀(p:TO),let f:=(gx [] r.1.2.2.2.2.2 p.1);let c:=((p.2.1,p.2.2.1),p.2.2.2.1);let a:Prop:=(p.1<(r.1.2.2.2.2.2.length:Int));(Ty.int i64).wf p.1/\Ty.bool.wf p.2.1/\(Ty.int u32).sl.wf p.2.2.1/\(Ty.int u32).sl.wf p.2.2.2.1/\True->I p->(iB (decide a) ((b<=p.1/\a)/\(b<=b/\b<(↑f.length:Int))/\(G4 c/\G4 (gx E6 f b).2)/\M0 λn=>let e:=(i64.wrap (p.1+h),n.1.1.1,n.1.1.2,n.1.2,());n.1=rc (rv c*rv (gx E6 f b).2)->I e/\s e<s p) (∃(J:A1k->Prop),((G3 r.1.1 (↑m:Int)/\List.length r.1.1<=16384)/\Nr λn=>det m (Xv (ix r.1.1))=sgB n.1->(G3 r.1.2.1 (↑k:Int)/\List.length r.1.2.1<=16384)/\Nr λq=>det k (Xv (ix r.1.2.1))=sgB q.1->(iB ((n.1 !=q.1)) (G4 c/\M0 λr=>r.1=rc (-rv c)->J (r.1.1.1,r.1.1.2,r.1.2,())) (J (p.2.1,p.2.2.1,p.2.2.2.1,()))))/\∀(p:A1k),let g:=((p.1,p.2.1),p.2.2.1);Ty.bool.wf p.1/\(Ty.int u32).sl.wf p.2.1/\(Ty.int u32).sl.wf p.2.2.1/\True->J p->(¬A8 x.1->g=dQ/\b=h)/\(A8 x.1->(x.1.1≠x.1.2.1->g=dQ/\b=l)/\(x.1.1=x.1.2.1->g=rc (det x.1.1.toNat (el x.1))/\b=b))))))))
def nT:∀ {l:List Bool} {j:Nat},j<l.length->l.getD j false=false->(l.set j true).countP (λb=> !b)+1=l.countP (λb=> !b)
 | [],_,h,_=>by cases h
 |b::l,0,_,h=>by
  have h:b=false:=h;subst h;simp
 |b::l,j+1,h,a=>by
  have c:=nT (l:=l) (j:=j) (by simpa using h) a;simp only[g4k,List.countP_cons];omega
def Mx (s:List Bool) (a:Nat):Prop:=s.getD a false=true
def C0o {s:List Bool} {j:Nat} (b:j<s.length) (a:Nat):Mx (s.set j true) a↔Mx s a\/a=j:=by
 unfold Mx;by_cases h:a=j
 . subst h;rw[B7 b];exact⟨λ_=> .inr rfl,λ_=>rfl⟩
 . rw[D3 h];exact⟨.inl,λg=>g.resolve_right h⟩
def ID:sn Cu Wo:=λx _ M=>by
 obtain⟨(l:Wf),_⟩:=x;obtain⟨J,Q⟩:G3 l (l.length:Int)/\l.length<=16384:=M;obtain⟨_,B,I⟩:=O5 J;simp only[Wo,iB];refine⟨⟨qD _,qH _,ω,ω⟩,λp=>0<=p.2.1/\p.2.1<=(l.length:Int)/\p.2.2.1.length=l.length/\UZ l.length (ix l) p.1 (Mx p.2.2.1)/\∀a,a<p.2.1.toNat->Mx p.2.2.1 a,λp=>((l.length:Int)-p.2.1).toNat,⟨qH _,qD _,by simp,UZ.start I λa g h=>?_,λa g=>by simp at g⟩,?_⟩
 . unfold Mx at h;rw[qF,uW]at h;split at h<;>cases h
 rintro⟨(r:Bool),(i:Int),(seen:List Bool),_⟩ _ ⟨F,N,n,v,f⟩;simp only at F N n v f|-;refine⟨λk=>?_,λk=>?_⟩
 . have k:=qA k;have w:i.toNat<l.length:=ω
   refine⟨λq=>0<=q.2.1/\q.2.1<(l.length:Int)/\q.2.2.1.length=l.length/\(∀a,a<i.toNat->Mx q.2.2.1 a)/\((q.2.1=i/\UZ l.length (ix l) q.1 (Mx q.2.2.1))\/mQ l.length (ix l) i.toNat q.2.1.toNat q.1 (Mx q.2.2.1)),λq=>q.2.2.1.countP (λb=> !b),⟨F,k,n,f, .inl ⟨rfl,v⟩⟩,?_⟩;rintro⟨(r:Bool),(j:Int),(seen:List Bool),_⟩ _ ⟨o,u,n,f,c⟩;simp only at o u n f c|-;have t:j.toNat<l.length:=ω
   refine⟨⟨o,ω⟩,λh=>?_,λh=>?_⟩
   . have z:seen.getD j.toNat false=false:=by simpa using h
     have D:¬Mx seen j.toNat:=λhh=>by unfold Mx at hh;rw[z]at hh;cases hh
     have y:=C0o (s:=seen) (j:=j.toNat) ω;have H:gx 0 l j=(ix l j.toNat:Int):=(J4 (d:=(0:Int)) o u).trans (B _ t).1;have P:=(B _ t).2;have O:=nT (l:=seen) (j:=j.toNat) ω z;rw[H];refine⟨λs=>s.1=(if ix l j.toNat=i.toNat then r else !r)/\s.2.1=seen.set j.toNat true,⟨⟨o,ω⟩,⟨o,u⟩,λhd=>⟨?_,rfl⟩,λhd=>⟨?_,rfl⟩⟩,?_⟩
     . have:=qA hd;rw[qG ω]
     . have:=tJ.1 (qB hd);rw[qJ ω]
     rintro⟨R,T,_⟩ _ ⟨rfl,rfl⟩;refine⟨⟨o,u⟩,⟨qD _,ω,by rw[qO];exact n,λa g=>(y a).2 (.inl (f a g)), .inr ?_⟩,(ω:(seen.set j.toNat true).countP (λb=> !b)<seen.countP (λb=> !b))⟩;show mQ l.length (ix l) i.toNat ((ix l j.toNat:Nat):Int).toNat _ _;rw[qK];rcases c with⟨rfl,c⟩ |c
     . exact c.enter w D y
     . exact c.step w t D y
   . have E:Mx seen j.toNat:=by unfold Mx;simpa using h
     have A:UZ l.length (ix l) r (Mx seen)/\Mx seen i.toNat:=by
      rcases c with⟨rfl,c⟩ |c
      . exact⟨c,E⟩
      . exact⟨(c.exit w t E).2,c.1⟩
     rw[wv ω];refine⟨⟨ω,ω,n,A.1,λa g=>?_⟩,ω⟩;by_cases G:a=i.toNat
     . rw[G];exact A.2
     . exact f a ω
 . have k:=qB k;exact v.finish λa g=>f a ω
def PT:sn Gy GA:=λx b6 ai=>by
 obtain⟨⟨(R:Int),(C:Int),D⟩,_⟩:=x;change List (List D5)at D;obtain⟨am,a5⟩:J3 K1 (R,C,D)/\(A8 (R,C,D)->R=C->∃T:Nat,1<=T/\Hl R.toNat R.toNat (el (R,C,D)) T/\(T+T)*(R.toNat+4)+8<=K1):=ai;simp only[GA,iB,M0,Nr];refine⟨⟨am,λv w=>?_⟩,?_⟩
 . obtain⟨T,ax,ay,b8⟩:=a5 v w;have:=rV (T+T) (ω:4<=R.toNat+4);exact⟨T,ax,ω,ay⟩
 rintro⟨⟨(P:Wf),(Q:Wf),(L:O1),(l:Int),(k:Int),U⟩,(e:Int),_⟩ _ ⟨N,o⟩;change List (List D5)at U;simp only at N o|-;by_cases f:A8 (R,C,D)
 case neg=>
  obtain⟨_,rfl⟩:=N f;exact⟨λh=>by simp at h,λ_=>⟨λ_=>⟨λ_=>⟨by trivial,by trivial⟩,λh=>absurd h f⟩,λh=>by simp at h⟩⟩
 by_cases r:R=C
 case neg=>
  obtain⟨_,rfl⟩:=(o f).1 r;exact⟨λh=>by simp at h,λ_=>⟨λ_=>⟨λh=>absurd f h,λ_=>⟨λ_=>⟨by trivial,by trivial⟩,λh=>absurd h r⟩⟩,λh=>by simp at h⟩⟩
 have o:=(o f).2 r;obtain⟨s,aw,ak,b7⟩:=a5 f r;have b5:=rV (s+s) (ω:4<=R.toNat+4);obtain⟨a6,az,_⟩:=id f;simp only at a6 az;by_cases F:nonsing R.toNat (el (R,C,D))
 case neg=>
  obtain⟨_,rfl⟩:=o.1 F;refine⟨λ_=>⟨trivial,?_⟩,λh=>by simp at h⟩;rintro⟨A,_⟩ _ d;simp only at d|-;refine⟨λh=>absurd f h,λ_=>⟨λh=>absurd r h,λ_=>⟨?_,by trivial⟩⟩⟩;have E:det R.toNat (el (R,C,D))=0:=by
   refine qN λE=>F λx aq j t=>qN λar=>E (oB t ar aq)
  rw[d,E,AB];rfl
 obtain⟨ah,rfl,_,ad,an,a9⟩:=o.2 F;refine⟨λh=>by simp at h,λ_=>⟨λh=>by simp at h,λ_=>⟨trivial,?_⟩⟩⟩;rintro⟨one,_⟩ _ a1;simp only at a1|-;obtain⟨y,z,a8,X,u⟩:=id ah;simp only at y z a8 X u;have ac:((R.toNat:Nat):Int)=R:=ω
 rw[<-ac]at y z;obtain⟨V,aa,b2⟩:=O5 y;obtain⟨W,ab,b3⟩:=O5 z;obtain⟨a2,ap,a3⟩:=X;simp only at a2 ap;have b4:(U.length:Int)=R:=a3.2.2.2.2.1.trans a2;have ao:∀i:Nat,i<R.toNat->qs (s+s) (el (l,k,U) i i):=λi a=>(an s aw ak i i a).2
 let n:Nat->Rat:=λi=>if i<R.toNat then el (l,k,U) i i else 0
 have Y:∀i,qs (s+s) (n i):=λi=>by
  show qs (s+s) (if i<R.toNat then el (l,k,U) i i else 0);by_cases a:i<R.toNat
  . rw[qJ a];exact ao i a
  . rw[qG a];exact K2 ω
 have Z:∀i,i<=R.toNat->qs K1 (V4 n i 0):=λi a=>D7 (gZ ω Y i) (qU (rV (s+s) (ω:i+1<=R.toNat+4)) ω)
 have b1:K1+1<=2199023255552:=δ
 refine⟨λp=>0<=p.1/\p.1<=R/\((p.2.1,p.2.2.1),p.2.2.2.1)=rc (V4 n p.1.toNat 0),λp=>(R-p.1).toNat,⟨qH _,a6,by rw[a1];exact(AB 1).trans (sZ rc (show((1:Int):Rat)=1 from rfl))⟩,?_⟩;rintro⟨(i:Int),H,b,c,_⟩ _ ⟨G,au,g⟩;simp only at G au g|-;refine⟨λa=>?_,λa=>?_⟩
 . have a:=qA a;have af:i.toNat<R.toNat:=ω
   rw[Hz G a];have a0:U.getD i.toNat []∈U:=C9 ω;obtain⟨b0,a7,B,_⟩:=B7t (i:=i.toNat) (a3.2.2.2.2.2 _ a0) (λj t=>(u i.toNat j ω ω).2.2.1 t) (u i.toNat i.toNat ω ω).2.2.2;have B:rv (gx E6 (U.getD i.toNat []) 0).2=el (l,k,U) i.toNat i.toNat:=B;have ae:n i.toNat=el (l,k,U) i.toNat i.toNat:=qJ af;have a4:(gx E6 (U.getD i.toNat []) 0).2=rc (n i.toNat):=by
    rw[((ad _ a0).2 _ a7).2,B,ae]
   have aj:=Z i.toNat ω;refine⟨⟨G,a⟩,⟨qH _,ω⟩,⟨by rw[g];exact I0 aj δ,by rw[a4];exact I0 (D7 (Y _) (ω:s+s<=K1)) δ⟩,?_⟩;rintro⟨A,_⟩ _ d;simp only at d|-;rw[g,a4,F6,F6]at d;rw[wv ω];refine⟨⟨ω,ω,?_⟩,ω⟩;show A= _;rw[d,(ω:(i+1).toNat=i.toNat+1),Tg,rY]
 . have a:=qB a;have ag:i.toNat=R.toNat:=ω
   rw[ag]at g;refine⟨λp=>((p.1,p.2.1),p.2.2.1)=rc (det R.toNat (el (R,C,D))),⟨⟨by rw[V];exact y,ω⟩,?_⟩,?_⟩
   . rintro⟨(I:Bool),_⟩ _ v;simp only at v|-;refine⟨⟨by rw[W];exact z,ω⟩,?_⟩;rintro⟨(J:Bool),_⟩ _ w;simp only at w|-;rw[V]at v;rw[W]at w;have av:sgB I*(sgB J*det R.toNat (el (R,C,D)))=V4 n R.toNat 0:=by
      rw[<-v, <-w,C3m (L:=el L) (U:=el (l,k,U)) (λi a=>(aa i a).2) (λi a=>(ab i a).2) (λi j E t=>(u i j ω ω).1 E) (λi a=>(u i i ω ω).2.1) (λi j E a=>(u i j ω ω).2.2.1 E) λi j a t=>a9 i j a t];exact AI λi _ a=>(qJ ω).symm
     have M:=C3n av;refine⟨λh=>⟨by rw[g];exact I0 (Z _ (qP _)) δ,?_⟩,λh=>?_⟩
     . rintro⟨A,_⟩ _ d;simp only at d|-;show A= _;rw[d,g,F6,M,qJ h]
     . show((H,b),c)= _;rw[g,M,qG (by rw[h];decide)]
   rintro⟨H,b,c,_⟩ _ O;simp only at O|-;exact⟨λh=>absurd f h,λ_=>⟨λh=>absurd r h,λ_=>⟨O,by trivial⟩⟩⟩
noncomputable def LM:H0:= [(54,Da)]
def JD:An:= {loop:= [(3,⟨[1,3],[0,2,3],[(4,false,vI)],[],[(4, .rows tQ 28 46)]⟩)],plan:= [(5,[3,6,8],[14],true, .done)]}
def VI:An:= {join:= [(11,⟨[4,7],[0],[],[(2,25,[.val qb, .val qb, .val (.sl qf)])],[]⟩)],loop:= [(7,⟨[4,6,7,8],[0,2],[(9,false,vI)],[],[(4, .rows tQ 28 46)]⟩)],plan:= [(9,[3,8,11],[15],true, .done)]}
noncomputable def ZM:H0:= [(6,Im),(19,U2),(20,P9),(22,Lc),(23,Bu),(24,Iq),(21,Dm (Wh ⟨prog,lY⟩ [(24,LM,JD)] f21.results.toList (f21.body.getD .skip) f21.ntmps))]
abbrev C7w:=Int×Int×List (List EE)×Unit
def AX(x:ZU):Prop:=let h:=(1:Int);let d:=(0:Int);let b:(Dv)->Prop:=(λp=>d<=p.1/\p.1<(p.2.1.length:Int));True/\∀(r:TM),let u:=(r.1.1.length:Int);(bO r.1.1/\O0 r.1.2)/\True->r.1=(x.1,d)->(d<x.2.1/\d<=r.1.2/\r.1.2<=u)/\∀(w:E3) (o:TM),let v:=(o.1.1.length:Int);let q:=(i64.wrap (h+w.1));O0 w.1/\True->((Ty.int i64).sl.pair (Ty.int i64)).wf o.1/\True->d<=w.1/\w.1<x.2.1->o.1.1=r.1.1/\d<=o.1.2/\o.1.2<=u->(d<=i64.wrap (h+w.1)/\i64.wrap (h+w.1)<=(20:Int)/\d<=i64.wrap (h+w.1)/\i64.wrap (h+w.1)<=(20:Int)/\d<=o.1.2/\o.1.2<=v)/\∀(r:S4) (y:TM),let t:=(y.1.1.length:Int);WfM r.1/\True->((Ty.int i64).sl.pair (Ty.int i64)).wf y.1/\True->C3x q.toNat q.toNat r.1->y.1.1=o.1.1/\d<=y.1.2/\y.1.2<=v->∃(J:C7w->Prop),((d<(4:Int)/\d<=y.1.2/\y.1.2<=t)/\∀(A:E3) (o:TM),O0 A.1/\True->((Ty.int i64).sl.pair (Ty.int i64)).wf o.1/\True->d<=A.1/\A.1<4->o.1.1=y.1.1/\d<=o.1.2/\o.1.2<=t->(iB (decide (d<A.1)) ((d<=r.1.1/\r.1.1<=r.1.1/\(↑(24:Nat):Int)*r.1.1<=281474976710656/\r.1.1<=9223372036854775807)/\∃(I:Dv->Prop),∃(a: _->Nat),I (d,List.replicate r.1.1.toNat [],())/\∀(p:Dv),let s:=(gx [] r.1.2.2 p.1);(Ty.int i64).wf p.1/\Qy p.2.1/\True->I p->(iB (decide (p.1<r.1.1)) ((d<=p.1/\p.1<(r.1.2.2.length:Int))/\(NE K1 s/\F7 s r.1.2.1/\d<=r.1.2.1/\r.1.2.1<=16384)/\∀(z:B1p),let k:=(i64.wrap (p.1+h),List.set p.2.1 p.1.toNat z.1,());IT z.1/\True/\True->z.1=dl r.1.2.1 (A6 s)/\z.2.1=true->(b p)/\I k/\a k<a p) (∃(I:Dv->Prop),∃(a: _->Nat),I (d,p.2.1,())/\∀(p:Dv),let m:=p.1.toNat;let e:=(List.getD p.2.1 m []);let c:Prop:=(p.1<i64.wrap (h+w.1));let f:Prop:=(d<=p.1/\p.1<(↑e.length:Int));(Ty.int i64).wf p.1/\Qy p.2.1/\True->I p->(iB (decide c) ((b p)/\(b p)/\f/\True/\M0 λr=>r.1=ri (20:Int)->(G4 (e.getD m dQ)/\G4 r.1)/\M0 λz=>let g:=(i64.wrap (p.1+h),List.set p.2.1 m (e.set m z.1),());z.1=rc (rv (e.getD m dQ)+rv r.1)->f/\I g/\a g<a p) (((∀(l:List QQ),l∈p.2.1->Gc K1 l/\(↑l.length:Int)=i64.wrap (h+w.1))/\d<=i64.wrap (h+w.1)/\i64.wrap (h+w.1)<=(16384:Int)/\List.length p.2.1<=16384)/\gE λr=>Zh p.2.1.length q.toNat (fun(i j:Nat)=>rv ((List.getD p.2.1 i []).getD j zr)) r.1->J (r.1.1,r.1.2.1,r.1.2.2,())))))) (J (r.1.1,r.1.2.1,r.1.2.2,()))))/\∀(p:C7w),(Ty.int i64).wf p.1/\(Ty.int i64).wf p.2.1/\tE.sl.sl.wf p.2.2.1/\True->J p->∃(n:Nat),(1:Nat)<=n/\(↑n:Int)<=x.2.1/\∃(f:Nat->Nat->Rat),(∀(i j:Nat),qs (4:Nat) (f i j))/\Zh n n f (p.1,p.2.1,p.2.2.1)
def LY:sn Ep AX:=λx _ ae=>by
 obtain⟨(a1:Wf),(M:Int),_⟩:=x;obtain⟨ap,aq⟩:1<=M/\M<=20:=ae;simp only[AX,iB,M0,gE];refine⟨trivial,?_⟩;rintro⟨⟨tl,ti⟩,_⟩ _ Z;simp only at Z|-;have ag:ti=0:=sZ Prod.snd Z;subst ag;refine⟨⟨ω,qH _,qD _⟩,?_⟩;rintro⟨(v:Int),_⟩ ⟨⟨av,ar⟩,_⟩ _ _ ⟨ai,aj⟩ ⟨a2,a3,a4⟩;simp only at ai aj a2 a3 a4|-;have ah:i64.wrap (1+v)=1+v:=wv ω;simp only[ah];refine⟨⟨ω,ω,ω,ω,a3,by rw[a2];exact a4⟩,?_⟩;rintro⟨⟨(R:Int),(C:Int),D⟩,_⟩ ⟨⟨aw,au⟩,_⟩ _ _ o ⟨a5,a6,a7⟩;change List (List D5)at D;simp only at o a5 a6 a7|-;obtain⟨r,A,o⟩:=o;have a0:A8 (R,C,D):=Dn o ω ω;have af:J3 K1 (R,C,D):=Uq o δ λi j _ _=>D7 (A i j) δ
 obtain⟨ab,a9,aa,X⟩:=id o;simp only at ab a9 aa X;have am:∀w∈D,F7 w C:=a0.2.2.2.2.2;generalize an:(1+v).toNat=N at*;have ao:(N:Int)=1+v:=ω
 refine⟨λp=>∃y:Nat->Nat->Rat,(∀i j,qs 4 (y i j))/\Zh N N y (p.1,p.2.1,p.2.2.1),⟨⟨ω,a6,by rw[a5];exact a7⟩,?_⟩,?_⟩
 . rintro⟨(a8:Int),_⟩ ⟨ax,_⟩ _ _ _ _;simp only;refine⟨λ_=>⟨⟨ω,qH _,ω,ω⟩,λp=>0<=p.1/\p.1<=R/\fill R.toNat p.1.toNat (λi=>dl C (A6 (D.getD i []))) p.2.1,λp=>(R-p.1).toNat,⟨qH _,ω,A6u rG⟩,?_⟩,λ_=>⟨r,λi j=>D7 (A i j) δ,o⟩⟩;rintro⟨(k:Int),rows,_⟩ _ ⟨g,J,B⟩;change List (List C0)at rows;simp only at g J B|-;have:=B.1;refine⟨λh=>?_,λh=>?_⟩
   . have h:=qA h;have G:k<(D.length:Int):=ω
     have V:=G7 (d:=([]:List D5)) g G;refine⟨⟨g,G⟩,⟨ZB a0 af V,am _ V,ω,ω⟩,?_⟩;rintro⟨ak,b,_⟩ _ ⟨E,_⟩;simp only at E|-;rw[wv ω];refine⟨⟨g,ω⟩,⟨ω,ω,KD B g ω ?_⟩,ω⟩;rw[E,Hz g G]
   . have h:=qB h;have Y:rows=Qv (R,C,D):=KC B ω;have u:rows.length=N:=by rw[Y];unfold Qv;rw[sU,yS];omega
     refine⟨λp=>0<=p.1/\p.1<=(N:Int)/\p.2.1.length=N/\∀i,i<N->(p.2.1.getD i []).length=N/\∀j,j<N->(p.2.1.getD i []).getD j zr=rc (r i j+if i=j/\i<p.1.toNat then 20 else 0),λp=>((N:Int)-p.1).toNat,⟨qH _,qD _,u,λi f=>?_⟩,?_⟩
     . have n:rows.getD i []=dl C (A6 (D.getD i [])):=by
        rw[Y];unfold Qv;rw[qF,vB,wN (ω:i<(R:Int).toNat)];rfl
       show(rows.getD i []).length=N/\∀j,j<N->(rows.getD i []).getD j zr= _;rw[n,WI];refine⟨ω,λj l=>?_⟩;rw[UG zr ω,(X i f).2.2 j l,qG (by simp),rJ]
     rintro⟨(k:Int),rows,_⟩ _ ⟨g,J,u,n⟩;change List (List C0)at rows;simp only at g J u n|-;refine⟨λh=>?_,λh=>?_⟩
     . have h:=qA h;have U:k.toNat<N:=ω
       obtain⟨F,O⟩:=n k.toNat U;have z:=O k.toNat U;rw[qG ω,rJ]at z;have z:(rows.getD k.toNat []).getD k.toNat dQ=rc (r k.toNat k.toNat):=z;refine⟨⟨g,ω⟩,⟨g,ω⟩,⟨g,by rw[F];omega⟩,trivial,?_⟩;rintro⟨ay,_⟩ _ I;simp only at I|-;rw[z];refine⟨⟨I0 (A _ _) δ,by rw[I,AB];exact I0 (Mg δ) δ⟩,?_⟩;rintro⟨ak,_⟩ _ H;simp only at H|-;rw[I,F6,LI]at H;rw[wv ω];refine⟨⟨g,by rw[F];omega⟩,⟨ω,ω,by rw[qO];exact u,λi f=>?_⟩,ω⟩;by_cases Q:i=k.toNat
       . subst Q;rw[B7 ω];refine⟨by rw[qO];exact F,λj l=>?_⟩;by_cases T:j=k.toNat
         . subst T;rw[B7 ω,H,qJ ⟨rfl,ω⟩];rfl
         . rw[D3 T,O j l,qG ω,qG ω]
       . rw[D3 Q];refine⟨(n i f).1,λj l=>?_⟩;rw[(n i f).2 j l];congr 2;by_cases s:i=j/\i<k.toNat
         . rw[qJ s,qJ ω]
         . rw[qG s,qG ω]
     . have h:=qB h;have W:∀i j,qs 4 (r i j+if i=j then 20 else 0):=λi j=>by
        refine D7 (PC (A i j) (k:=1) ?_) δ;split
        . exact Mg (a:=20) δ
        . exact K2 δ
       have P:∀i j,i<N->j<N->(rows.getD i []).getD j zr=rc (r i j+if i=j then 20 else 0):=λi j f l=>by
        rw[(n i f).2 j l];congr 2;by_cases s:i=j
        . rw[qJ s,qJ ω]
        . rw[qG s,qG ω]
       refine⟨⟨λa1 E=>?_,ω,ω,ω⟩,?_⟩
       . obtain⟨i,f,rfl⟩:=N4 [] E;have f:i<N:=ω
         refine⟨λe ac=>?_,by rw[(n i f).1];omega⟩;obtain⟨j,l,rfl⟩:=N4 zr ac;rw[P i j f (by rw[<-(n i f).1];exact l)];exact Kh (D7 (W i j) δ)
       rintro⟨m,_⟩ _ t;simp only at t|-;rw[u]at t;exact⟨_,W,CX t λi j f l=>by rw[P i j f l,F6]⟩
 rintro⟨a,b,c,_⟩ _ ⟨y,ad,t⟩;exact⟨N,ω,ω,y,ad,t⟩
noncomputable def Ky:H0:= []
def Kp:An:= {}
noncomputable def Qi:H0:= [(30,R3),(116,W0),(139,Dm (Wh ⟨prog,lY⟩ [(17,Ky,Kp)] f139.results.toList (f139.body.getD .skip) f139.ntmps))]
def Pu:An:= {loop:= [(8,⟨[2,4,5,19,20,21,26,27],[0,2,4,7],[(28,false,vI)],[],[(6, .rows tE 61 75)]⟩),(5,⟨[2,4,19,20],[0,2,4,7],[(21,false,vI)],[],[(6, .rows tE 61 75)]⟩)],plan:= [(10,[5,7,9,12],[16,18],false, .done)]}
def Xh:An:= {loop:= [(3,⟨[1,3,19,20],[0],[(21,false,vI)],[],[(1, .row qb 3)]⟩),(8,⟨[1,3,36],[0],[(37,false,vI)],[],[(1, .row qb 3)]⟩),(14,⟨[1,3,7,56,57],[0],[(58,false,vI)],[],[(1, .row qb 3),(2, .row qb 3)]⟩),(21,⟨[10,85,86],[8],[(7,false,[.val qi]),(87,false,vI)],[],[(6, .row qf 61)]⟩)],plan:= [(10,[4,8],[11],true, .done),(23,[1],[10],true, .done)]}
noncomputable def Xx:H0:= [(35,Q4),(131,Dm (Wh ⟨prog,lY⟩ [(81,Qi,Pu)] f131.results.toList (f131.body.getD .skip) f131.ntmps))]
abbrev C1l:=Int×List (List EE)×Unit
abbrev C8m:=Wf×Int×List (List EE)×Unit
def Ht(x:S4):Prop:=let Z:=(140737488355328:Nat);let S:=(2:Int);let R:=(281474976710656:Int);let L:=(9223372036854775807:Int);let J:=(x.1.2.2.length:Int);let y:=(1:Int);let w:=(0:Int);(w<=i64.wrap (x.1.2.1+S)/\i64.wrap (x.1.2.1+S)<=i64.wrap (x.1.2.1+S)/\(↑(8:Nat):Int)*i64.wrap (x.1.2.1+S)<=R/\i64.wrap (x.1.2.1+S)<=L)/\∃(I:ZT->Prop),∃(g: _->Nat),I (w,List.replicate (i64.wrap (x.1.2.1+S)).toNat w,())/\∀(p:ZT),let A:=(↑(gx [] x.1.2.2 p.1).length:Int);let Y:=(i64.wrap (A+y));let C:=(i64.wrap (p.1+y),List.set p.2.1 Y.toNat (i64.wrap (List.getD p.2.1 Y.toNat w+y)),());let n:Prop:=(p.1<J);let d:Prop:=(w<=i64.wrap (A+y)/\i64.wrap (A+y)<(p.2.1.length:Int));(Ty.int i64).wf p.1/\bO p.2.1/\True->I p->(iB (decide n) ((w<=p.1/\n)/\d/\d/\I C/\g C<g p) (∃(I:ZT->Prop),∃(g: _->Nat),I (w,p.2.1,())/\∀(a:ZT),let U:=(i64.wrap (a.1+y));let T:=(a.2.1.length:Int);let z:=(i64.wrap (a.1+y),List.set a.2.1 U.toNat (i64.wrap (List.getD a.2.1 U.toNat w+List.getD a.2.1 a.1.toNat w)),());let q:Prop:=(a.1<i64.wrap (x.1.2.1+y));let h:Prop:=(w<=i64.wrap (a.1+y)/\i64.wrap (a.1+y)<T);(Ty.int i64).wf a.1/\bO a.2.1/\True->I a->(iB (decide q) (h/\(w<=a.1/\a.1<T)/\h/\I z/\g z<g a) ((w<=x.1.1/\x.1.1<=x.1.1/\(↑(8:Nat):Int)*x.1.1<=R/\x.1.1<=L)/\∃(I:C1n->Prop),∃(g: _->Nat),I (w,a.2.1,List.replicate x.1.1.toNat w,())/\∀(d:C1n),let u:=(↑(gx [] x.1.2.2 d.1).length:Int);let B:=(i64.wrap (d.1+y),List.set d.2.1 u.toNat (i64.wrap (List.getD d.2.1 u.toNat w+y)),List.set d.2.2.1 d.1.toNat (List.getD d.2.1 u.toNat w),());let l:Prop:=(d.1<J);let a:Prop:=(w<=u/\u<(d.2.1.length:Int));(Ty.int i64).wf d.1/\bO d.2.1/\bO d.2.2.1/\True->I d->(iB (decide l) ((w<=d.1/\l)/\a/\(w<=d.1/\d.1<(d.2.2.1.length:Int))/\a/\a/\I B/\g B<g d) (True/\Nr λr=>r.1=decide (A8 x.1)->(iB ((!r.1)) (False) ((w<=x.1.2.1/\x.1.2.1<=x.1.2.1/\(↑(24:Nat):Int)*x.1.2.1<=R/\x.1.2.1<=L)/\∃(I:C1l->Prop),∃(g: _->Nat),I (w,List.replicate x.1.2.1.toNat [],())/\∀(f:C1l),let X:=(gx [] x.1.2.2 f.1);let m:Prop:=(f.1<J);(Ty.int i64).wf f.1/\DY f.2.1/\True->I f->(iB (decide m) ((w<=f.1/\m)/\∃(I_1:C1l->Prop),∃(j: _->Nat),I_1 (w,f.2.1,())/\∀(p:C1l),let Q:=(i64.wrap (f.1+y),p.2.1,());let t:=(gx E6 X p.1);let v:=t.1.toNat;let H:=(List.getD p.2.1 v []);let a:Prop:=(p.1<(↑X.length:Int));let k:(D4)->Prop:=(λr=>(H.length+ [(f.1,r.1)].length)*(64:Nat)<=Z/\H.length+ [(f.1,r.1)].length<=9223372036854775807);let c:Prop:=(w<=t.1/\t.1<(p.2.1.length:Int));let h:(D4)->Prop:=(λr=>let W:=(f.1,r.1);let M:=(List.getD p.2.1 v []++ [W]);let N:=(i64.wrap (p.1+y),List.set p.2.1 v M,());((H.length+ [W].length)*(64:Nat)<=Z/\H.length+ [W].length<=9223372036854775807)/\c/\Int.toNat t.1=Int.toNat t.1/\I_1 N/\j N<j p);let b:Prop:=((G4 t.2/\M0 λr=>r.1=rc (rv t.2)->h r)/\G4 t.2/\M0 λr=>let O:=(List.getD p.2.1 v []++ [(f.1,r.1)]);let P:=(i64.wrap (p.1+y),List.set p.2.1 v O,());r.1=rc (rv t.2)->(h r)/\(h r)/\(k r)/\c/\Int.toNat t.1=Int.toNat t.1/\I_1 P/\j P<j p);(Ty.int i64).wf p.1/\DY p.2.1/\True->I_1 p->(iB (decide a) ((w<=p.1/\a)/\c/\b/\b/\G4 t.2/\M0 λr=>let D:=(List.getD p.2.1 v []++ [(f.1,r.1)]);let E:=(i64.wrap (p.1+y),List.set p.2.1 v D,());r.1=rc (rv t.2)->((h r)/\(h r)/\h r)/\((h r)/\(h r)/\h r)/\((h r)/\h r)/\((h r)/\h r)/\(k r)/\(c/\Int.toNat t.1=Int.toNat t.1/\I_1 E/\j E<j p)/\c/\Int.toNat t.1=Int.toNat t.1/\I_1 E/\j E<j p) (I Q/\g Q<g f))) (∃(I:C8m->Prop),∃(g: _->Nat),I (d.2.2.1,w,f.2.1,())/\∀(a:C8m),let K:=(a.1.length:Int);let F:=(List.getD a.2.2.1 a.2.1.toNat []);let s:Prop:=(a.2.1<(f.2.1.length:Int));let o:Prop:=(w<=a.2.1/\a.2.1<(a.2.2.1.length:Int));(Ty.int i64).sl.wf a.1/\(Ty.int i64).wf a.2.1/\DY a.2.2.1/\True->I a->(iB (decide s) (o/\(NE K1 F/\List.length a.1<=100000)/\∀(d:List EE×Bool×Unit),let G:=(a.1,i64.wrap (a.2.1+y),List.set a.2.2.1 a.2.1.toNat d.1,());DX d.1/\True/\True->(G3 a.1 K->(∀(j:Int),A6 F j≠(0:Rat)->w<=j/\j<K)->OG (fun(i:Int)=>if w<=i/\i<K then A6 F (↑(List.idxOf i a.1):Int)else(0:Rat)) d.1/\d.2.1=true)->o/\I G/\g G<g a) (∃(p:Wf),G3 p x.1.1/\List.length a.2.2.1=x.1.2.1.toNat/\∀(j:Nat),let V:=(List.getD a.2.2.1 j []);j<List.length a.2.2.1->U5 V/\(∀(e:D5),e∈List.getD a.2.2.1 j []->w<=e.1/\e.1<x.1.1)/\∀(i:Nat),i<x.1.1.toNat->A6 V (p.getD i w)=el x.1 i j))))))))))))
def Qn:sn N7 Ht:=λx bk bg=>by
 obtain⟨⟨(R:Int),(C:Int),D⟩,_⟩:=x;change List (List D5)at D;obtain⟨P,g⟩:A8 (R,C,D)/\J3 K1 (R,C,D):=bg;obtain⟨Z,bu,am,bv,_,_⟩:=id P;have bz:(D.length:Int)=R:=P.2.2.2.2.1;have b1:∀w∈D,F7 w C:=P.2.2.2.2.2;simp only at Z bu am bv;have bf:Lu (R,C,D):=V6 bk.1.2.2.2
 let ln:Nat->Nat:=λk=>(D.getD k []).length
 have au:∀k:Nat,(k:Int)<R->(ln k:Int)<=C:=λk z=>by
  have:=V5 (b1 _ (C9 (l:=D) (i:=k) (d:= []) ω));show((D.getD k []).length:Int)<=C;omega
 have bm:i64.wrap (C+2)=C+2:=wv ω;have bl:i64.wrap (C+1)=C+1:=wv ω;have V:∀(i:Nat) (q:Nat->Bool),cN i q<=i:=λi q=>A3d
 simp only[Ht,iB,M0,Nr,bm,bl];refine⟨⟨ω,qH _,ω,ω⟩,λp=>0<=p.1/\p.1<=R/\p.2.1.length=C.toNat+2/\∀s,s<C.toNat+2->p.2.1.getD s 0=((cN p.1.toNat λk=>decide (ln k+1=s):Nat):Int),λp=>(R-p.1).toNat,⟨qH _,Z,by rw[rG];omega,λs g=>?_⟩,?_⟩
 . show(List.replicate (C+2).toNat (0:Int)).getD s 0= _;rw[qF,uW,qJ ω];rfl
 rintro⟨(i:Int),(F:Wf),_⟩ _ ⟨I,ag,v,c⟩;simp only at I ag v c|-;refine⟨λh=>?_,λh=>?_⟩
 . have h:=qA h;rw[Hz I h];have X:=au i.toNat ω;have bn:i64.wrap (((D.getD i.toNat []).length:Int)+1)=((ln i.toNat:Nat):Int)+1:=wr (by show _ <=((ln i.toNat:Nat):Int)+1;omega) (by show((ln i.toNat:Nat):Int)+1<= _;omega);rw[bn,(ω:(((ln i.toNat:Nat):Int)+1).toNat=ln i.toNat+1),c _ ω];have:=V i.toNat λk=>decide (ln k+1=ln i.toNat+1)
   rw[wv (a:=i+1) ω,wv (a:=(_:Int)+1) ω];refine⟨⟨I,h⟩,⟨ω,ω⟩,⟨ω,ω⟩,⟨ω,ω,by rw[qO];exact v,λs g=>?_⟩,ω⟩;rw[(ω:(i+1).toNat=i.toNat+1)];show _=((cN i.toNat _ +(if decide (ln i.toNat+1=s)=true then 1 else 0):Nat):Int);by_cases Y:s=ln i.toNat+1
   . subst Y;rw[B7 ω,qJ (by simp)];omega
   . rw[D3 Y,c s g,qG (by simp;omega),tA]
 have h:=qB h;have b9:i.toNat=R.toNat:=ω
 rw[b9]at c;refine⟨λp=>0<=p.1/\p.1<=C+1/\p.2.1.length=C.toNat+2/\∀s,s<C.toNat+2->p.2.1.getD s 0=((cN R.toNat λk=>if s<=p.1.toNat then decide (ln k+1<=s)else decide (ln k+1=s):Nat):Int),λp=>(C+1-p.1).toNat,⟨qH _,ω,v,λs g=>?_⟩,?_⟩
 . show F.getD s 0= _;rw[c s g];refine sZ Int.ofNat (Yt λk _=>?_);by_cases a7:s<=(0:Int).toNat
   . rw[qJ a7];have:s=0:=by simpa using a7
     subst this;rfl
   . rw[qG a7]
 rintro⟨(t:Int),(F:Wf),_⟩ _ ⟨M,ak,v,c⟩;simp only at M ak v c|-;refine⟨λh=>?_,λh=>?_⟩
 . have h:=qA h;have bp:i64.wrap (t+1)=t+1:=wv ω;rw[bp,(ω:(t+1).toNat=t.toNat+1),c _ ω,c _ ω];have c1:=V R.toNat λk=>if t.toNat+1<=t.toNat then decide (ln k+1<=t.toNat+1)else decide (ln k+1=t.toNat+1)
   have b2:=V R.toNat λk=>if t.toNat<=t.toNat then decide (ln k+1<=t.toNat)else decide (ln k+1=t.toNat)
   rw[wv (a:=(_:Int)+ _) ω];refine⟨⟨ω,ω⟩,⟨M,ω⟩,⟨ω,ω⟩,⟨ω,ω,by rw[qO];exact v,λs g=>?_⟩,ω⟩;by_cases ay:s=t.toNat+1
   . subst ay;rw[B7 ω, <-wO];refine sZ Int.ofNat (A3c λk _=>?_).symm;rw[qJ (qP (t.toNat+1)),qG (ω:¬t.toNat+1<=t.toNat),qJ (qP t.toNat)];simp only[rQ];split<;>split<;>split<;>omega
   . rw[D3 ay,c s g];refine sZ Int.ofNat (Yt λk _=>?_);by_cases O:s<=t.toNat
     . rw[qJ O,qJ ω]
     . rw[qG O,qG ω]
 have h:=qB h;have c:∀s,s<C.toNat+2->F.getD s 0=((cN R.toNat λk=>decide (ln k<s):Nat):Int):=λs g=>by
  rw[c s g];refine sZ Int.ofNat (Yt λk _=>?_);rw[qJ ω];exact wU.2 ω
 refine⟨⟨Z,qH _,ω,ω⟩,λp=>0<=p.1/\p.1<=R/\p.2.1.length=C.toNat+2/\p.2.2.1.length=R.toNat/\(∀s,s<C.toNat+2->p.2.1.getD s 0=((cN R.toNat (λk=>decide (ln k<s))+cN p.1.toNat λk=>decide (ln k=s):Nat):Int))/\∀b,b<p.1.toNat->p.2.2.1.getD b 0=((rkN R.toNat ln b:Nat):Int),λp=>(R-p.1).toNat,⟨qH _,Z,v,rG,λs g=>c s g,λb f=>by simp at f⟩,?_⟩;rintro⟨(i:Int),(F:Wf),(N:Wf),_⟩ _ ⟨I,ag,v,a5,c,A⟩;simp only at I ag v a5 c A|-;refine⟨λh=>?_,λh=>?_⟩
 . have h:=qA h;rw[Hz I h];have X:=au i.toNat ω;have bc:(D.getD i.toNat []).length=ln i.toNat:=rfl;rw[bc,qK,c _ ω];have c1:=V R.toNat λk=>decide (ln k<ln i.toNat)
   have b2:=V i.toNat λk=>decide (ln k=ln i.toNat)
   rw[wv (a:=i+1) ω,wv (a:=(_:Int)+1) ω];refine⟨⟨I,h⟩,⟨ω,ω⟩,⟨I,ω⟩,⟨ω,ω⟩,⟨ω,ω⟩,⟨ω,ω,by rw[qO];exact v,by rw[qO];exact a5,λs g=>?_,λb f=>?_⟩,ω⟩
   . rw[(ω:(i+1).toNat=i.toNat+1)];show _=((_ +(cN i.toNat _ +(if decide (ln i.toNat=s)=true then 1 else 0)):Nat):Int);by_cases Y:s=ln i.toNat
     . subst Y;rw[B7 ω,qJ (by simp)];omega
     . rw[D3 Y,c s g,qG (by simp;omega),tA]
   . by_cases ap:b=i.toNat
     . subst ap;rw[B7 ω,B0s ω]
     . rw[D3 ap];exact A b ω
 have h:=qB h;have A:∀b,b<R.toNat->N.getD b 0=((rkN R.toNat ln b:Nat):Int):=λb f=>A b ω
 have a2:∀b,b<R.toNat->ix N b=rkN R.toNat ln b:=λb f=>by unfold ix;rw[A b f,qK]
 have ae:G3 N R:=by
  have:=kV a5 (λa E=>by rw[a2 a E];exact A a E) (λa E=>by rw[a2 a E];exact B6x E) λa b E f ab=>C0i E f (by rw[<-a2 a E, <-a2 b f,ab])
  rwa[(ω:((R.toNat:Nat):Int)=R)]at this
 refine⟨trivial,?_⟩;rintro⟨bt,_⟩ _ a4;simp only at a4|-;have a4:bt=true:=by rw[a4];exact rD P
 rw[a4];refine⟨λh=>(by cases h),λ_=>⟨⟨am,qH _,ω,ω⟩,?_⟩⟩;refine⟨λp=>0<=p.1/\p.1<=R/\p.2.1.length=C.toNat/\∀j,j<C.toNat->isV p.1.toNat (λi=>el (R,C,D) i j) (p.2.1.getD j []),λp=>(R-p.1).toNat,⟨qH _,Z,rG,λj r=>?_⟩,?_⟩
 . have e:(List.replicate C.toNat ([]:List D5)).getD j []= []:=by
    rw[qF,uW,qJ r];rfl
   show isV _ _ ((List.replicate C.toNat ([]:List D5)).getD j []);rw[e];exact⟨JS,λ_ h=>(by cases h),λi n=>by simp at n⟩
 rintro⟨(k:Int),rows,_⟩ _ ⟨a6,bs,X,W⟩;change List (List D5)at rows;simp only at a6 bs X W|-;refine⟨λz=>?_,λz=>?_⟩
 . have z:=qA z;have ac:=G7 (d:=([]:List D5)) a6 z;rw[Hz a6 z]at ac|-;have az:=b1 _ ac;have af:=ZB P g ac;have b7:∀j:Nat,A6 (D.getD k.toNat []) (j:Int)=el (R,C,D) k.toNat j:=λj=>rfl
   generalize D.getD k.toNat []=row at*;have a5:=af.2.2;refine⟨⟨a6,z⟩,λp=>0<=p.1/\p.1<=(row.length:Int)/\p.2.1.length=C.toNat/\∀j,j<C.toNat->isV (k+1).toNat (λi=>if i<k.toNat then el (R,C,D) i j else A6 (row.take p.1.toNat) (j:Int)) (p.2.1.getD j []),λp=>((row.length:Int)-p.1).toNat,⟨qH _,qD _,X,λj r=>?_⟩,?_⟩
   . obtain⟨T,U,a0⟩:=W j r;refine⟨T,λe y=>by have:=U e y;omega,λi n=>?_⟩;dsimp only;by_cases u:i<k.toNat
     . rw[qJ u];exact a0 i u
     . rw[qG u,D1 λe y bx=>by have:=(U e y).2;omega];rfl
   rintro⟨(t:Int),o,_⟩ _ ⟨M,ak,J,of⟩;change List (List D5)at o;simp only at M ak J of|-;refine⟨λB=>?_,λB=>?_⟩
   . have B:=qA B;have ar:=G7 (d:=E6) M B;obtain⟨an,bw,b3⟩:=az.2 _ ar;have bh:=af.2.1 _ ar;have aa:=A9m (d:=E6) M B;have ao:A6 (row.take t.toNat) (gx E6 row t).1=0:=by
      refine D1 λx E ab=>?_
      have G:(row.take (t+1).toNat).Pairwise (λa b=>a.1<b.1):=af.1.take;rw[(ω:(t+1).toNat=t.toNat+1),rU,J1 (d:=E6) M B,tS]at G;have:=G.2.2 x E (gx E6 row t) (by simp);omega
     generalize gx E6 row t=e at*;have bi:G4 e.2:=K9 bh δ;have A1:t<(row.length:Int):=B;have B1:e.1<(o.length:Int):=by rw[J];omega
     have ad:=of e.1.toNat ω;have be:=A7d ad;have L1:((o.getD e.1.toNat []).length+ [(k,rc (rv e.2))].length)*64<=140737488355328:=by simp only[qV];omega
     have L2:(o.getD e.1.toNat []).length+ [(k,rc (rv e.2))].length<=9223372036854775807:=by simp only[qV];omega
     have bo:i64.wrap (t+1)=t+1:=wv ω;rw[bo];have I1:0<=t+1:=ω
     have I2:t+1<=(row.length:Int):=ω
     have I3:(o.set e.1.toNat (o.getD e.1.toNat []++ [(k,rc (rv e.2))])).length=C.toNat:=by rw[qO];exact J
     have I4:∀j,j<C.toNat->isV (k+1).toNat (λi=>if i<k.toNat then el (R,C,D) i j else A6 (row.take (t+1).toNat) (j:Int)) ((o.set e.1.toNat (o.getD e.1.toNat []++ [(k,rc (rv e.2))])).getD j []):=λj r=>by
      rw[qF,yQ];by_cases ab:e.1.toNat=j
      . rw[qJ ab,qJ ω];subst ab;obtain⟨T,U,a0⟩:=ad;have av:∀x∈o.getD e.1.toNat [],x.1<k:=λx E=>by
         have G:=U x E;have O:=(T.2 x E).1;rw[<-H6 T.1 E]at O;refine qN λa3=>O ?_
         have b4:x.1=((k.toNat:Nat):Int):=ω
         rw[b4,a0 k.toNat ω];dsimp only;rw[qG ω,(ω:((e.1.toNat:Nat):Int)=e.1)];exact ao
        refine⟨Ri T b3 av,λx E=>?_,λi n=>?_⟩
        . rcases rA.1 E with E|E
          . exact U x E
          . rw[qY.1 E];show 0<=k/\k< _;omega
        . show A6 (o.getD e.1.toNat []++ [(k,rc (rv e.2))]) (i:Int)= _;rw[Kz,a0 i n];dsimp only;rw[aa,qJ (ω:e.1=((e.1.toNat:Nat):Int))];by_cases u:i<k.toNat
          . rw[qJ u,qJ u,qG ω,rJ]
          . rw[qG u,qG u,qJ ω]
      . rw[qG ab, <-qF];refine OH (of j r) λi _=>?_
        rw[aa,qG (ω:¬e.1=(j:Int)),rJ]
     have M1:((row.length:Int)-(t+1)).toNat<((row.length:Int)-t).toNat:=ω
     clear ad be aa ao of W az
     repeat' first
      |exact⟨⟨an,B1⟩,by trivial,⟨I1,I2,I3,I4⟩,M1⟩
      |exact⟨L1,L2⟩
      |exact⟨an,B1⟩
      |exact⟨M,A1⟩
      |exact bi
      |apply And.intro
      | (rintro⟨q,_⟩ _ E;simp only at E|-;subst E)
   . have B:=qB B;rw[wv ω];rw[I5 (l:=row) (i:=t) ω]at of;refine⟨⟨ω,ω,J,λj r=>OH (of j r) λi n=>?_⟩,ω⟩;by_cases u:i<k.toNat
     . rw[qJ u]
     . rw[qG u,b7,(ω:i=k.toNat)]
 . have z:=qB z;rw[(ω:k.toNat=R.toNat)]at W;have b5:((R.toNat:Nat):Int)=R:=ω
   have ax:(N.length:Int)=R:=ω
   refine⟨λp=>p.1=N/\0<=p.2.1/\p.2.1<=C/\p.2.2.1.length=C.toNat/\(∀b,p.2.1.toNat<=b->b<C.toNat->isV R.toNat (λi=>el (R,C,D) i b) (p.2.2.1.getD b []))/\∀b,b<p.2.1.toNat->U5 (p.2.2.1.getD b [])/\(∀e∈p.2.2.1.getD b [],0<=e.1/\e.1<R)/\∀i:Nat,i<R.toNat->A6 (p.2.2.1.getD b []) (N.getD i 0)=el (R,C,D) i b,λp=>(C-p.2.1).toNat,⟨rfl,qH _,am,X,λb _ f=>W b f,λb f=>by simp at f⟩,?_⟩;rintro⟨(Q:Wf),(j:Int),o,_⟩ _ ⟨aw,ah,bq,J,ai,aj⟩;change List (List D5)at o;simp only at aw ah bq J ai aj|-;subst aw;refine⟨λr=>?_,λr=>?_⟩
   . have r:=qA r;have bb:j.toNat<C.toNat:=ω
     have H:=ai j.toNat (qP _) bb;have bj:NE K1 (o.getD j.toNat []):=by
      refine⟨H.1.1,λe y=>?_,by have:=A7d H;omega⟩;have G:=H6 H.1.1 y;have O:=H.2.1 e y;have E:=H.2.2 e.1.toNat ω;rw[(ω:((e.1.toNat:Nat):Int)=e.1),G]at E;rw[(H.1.2 e y).2,E];exact Kh (Oe P bf g δ _ _)
     have b8:∀i:Int,A6 (o.getD j.toNat []) i≠0->0<=i/\i<R:=λi n=>by
      rw[pO H i,b5]at n;exact qN λa3=>n (qG a3)
     refine⟨⟨ah,ω⟩,⟨bj,ω⟩,?_⟩;rintro⟨(b0:List D5),b,_⟩ _ a8;simp only at a8|-;rw[ax]at a8;obtain⟨⟨a9,a1⟩,_⟩:=a8 ae b8;have a1:∀i:Int,A6 b0 i=if 0<=i/\i<R then A6 (o.getD j.toNat []) ((List.idxOf i Q:Nat):Int)else 0:=a1
     rw[wv ω];refine⟨⟨ah,ω⟩,⟨by trivial,ω,ω,by rw[qO];exact J,λb f b6=>?_,λb f=>?_⟩,ω⟩
     . rw[D3 ω];exact ai b ω b6
     . by_cases aq:b=j.toNat
       . subst aq;rw[B7 ω];refine⟨a9,λe y=>?_,λi n=>?_⟩
         . have G:=H6 a9.1 y;rw[a1]at G;exact qN λa3=>(a9.2 e y).1 (by rw[<-G,qG a3])
         . have av:=B6x (ln:=ln) n;have ba:((List.idxOf (Q.getD i 0) Q:Nat):Int)=(i:Int):=((kW (by rw[ax];exact ae) (a:=(i:Int)) (i:=Q.getD i 0) ω ω (by rw[A i n];omega) (by rw[A i n];omega)).1 (by rw[qK])).symm;rw[a1,qJ (by rw[A i n];omega),ba];exact H.2.2 i n
       . rw[D3 aq];exact aj b ω
   . have r:=qB r;exact⟨Q,ae,J,λb f=>aj b ω⟩
noncomputable def Qh:H0:= [(43,Ac),(78,N3),(79,V2)]
def Pt:An:= {join:= [(6,⟨[],[1,2],[(1,false,[.val qf])],[],[]⟩)],loop:= [(1,⟨[0],[1,2],[(1,false,[.val qf])],[],[]⟩)],plan:= [(4,[3,7],[13],true, .done)]}
def Xg:An:= {join:= [(12,⟨[4,14,15,16],[],[(5,false,[.own qb 3])],[],[(1, .map false qb false qf)]⟩)],loop:= [(6,⟨[4,14,15],[],[(5,false,[.own qb 3]),(16,false,vI)],[],[(1, .map false qb false qf)]⟩)]}
noncomputable def Xw:H0:= [(30,R3),(85,N7),(86,Dm (Wh ⟨prog,tys⟩ [(23,Qh,Pt)] f86.results.toList (f86.body.getD .skip) f86.ntmps))]
abbrev C8k:=Wf×Int×List (Int×List EE)×Unit
abbrev C8o:=Wf×List (Int×List EE)×Unit
def Hs(x:S4):Prop:=let k:=(1:Int);let g:=(0:Int);let b:(Qk)->Prop:=(λl=>g<(l.1.length:Int));True/\Nr λr=>r.1=decide (A8 x.1)->(iB ((!r.1)) ((¬A8 x.1->Ef Int= []/\k=k)/\(A8 x.1->B9g x.1 []/\k=g)) ((A8 x.1/\J3 K1 x.1)/\∀(r:List (List EE)×Unit),DY r.1/\True->spF x.1 r.1->∃(I:C8k->Prop),∃(a: _->Nat),I ([],g,[],())/\∀(p:C8k),let d:Prop:=(p.2.1<(r.1.length:Int));(Ty.int i64).sl.wf p.1/\(Ty.int i64).wf p.2.1/\(∀(x:Int×List EE),x∈p.2.2.1->O0 x.1/\DX x.2)/\True->I p->(iB (decide d) (∃(J:C8o->Prop),((g<=p.2.1/\d)/\∃(J_1:Qk->Prop),(∃(I:Qk->Prop),∃(a: _->Nat),I (gx [] r.1 p.2.1,())/\∀(l:Qk),let h:=(gx E6 l.1 g);let f:=(gx E6 ((K5 (Ty.int i64) h.1 p.2.2.1).getD []) g);let e:Prop:=(g<=g/\b l);let c:Prop:=(G4 h.2/\G4 f.2);let d:(Wm)->Prop:=(λr=>IU r.1/\True/\True->(rv f.2=(0:Rat)->r.2.1=false)/\(rv f.2≠(0:Rat)->r.1=rc (rv h.2/rv f.2)/\r.2.1=true)->G4 r.1/\M0 λm=>m.1=rc (-rv r.1)->(NE K1 l.1/\sz K1 m.1/\NE K1 ((K5 (Ty.int i64) h.1 p.2.2.1).getD []))/\rT6 λr=>OG (fun(i:Int)=>A6 l.1 i+rv m.1*A6 ((K5 (Ty.int i64) h.1 p.2.2.1).getD []) i) r.1->I r/\a r<a l);tE.sl.wf l.1/\True->I l->(iB (decide (b l)) (e/\(iB ((!(K5 (Ty.int i64) h.1 p.2.2.1).isSome)) (J_1 l) (e/\(g<=g/\g<(↑((K5 (Ty.int i64) h.1 p.2.2.1).getD []).length:Int))/\(c/\∀(r:Wm),d r)/\c/\∀(r:Wm),d r))) (J_1 l)))/\∀(l:Qk),tE.sl.wf l.1/\True->J_1 l->(iB (decide (b l)) ((g<=g/\b l)/\((p.1.length+ [p.2.1].length)*(8:Nat)<=(140737488355328:Nat)/\p.1.length+ [p.2.1].length<=9223372036854775807)/\J (p.1++ [p.2.1],Ga (Ty.int i64) (gx E6 l.1 g).1 l.1 p.2.2.1,())) (J (p.1,p.2.2.1,()))))/\∀(l:C8o),let j:=(l.1,i64.wrap (p.2.1+k),l.2.1,());(Ty.int i64).sl.wf l.1/\(∀(x:Int×List EE),x∈l.2.1->O0 x.1/\DX x.2)/\True->J l->I j/\a j<a p) ((¬A8 x.1->p.1= []/\g=k)/\(A8 x.1->B9g x.1 p.1/\g=g)))))
def lR (c:Nat->Int->Rat) (j:Nat) (u:Int->Rat):Prop:=∃x:Nat->Rat,∀i,u i=A7 j λk=>x k*c k i
section
variable {c:Nat->Int->Rat} {j:Nat} {u v:Int->Rat}
def Iv (h:lR c j u) (e:∀i,v i=u i):lR c j v:=by
 obtain⟨x,a⟩:=h;exact⟨x,λi=>(e i).trans (a i)⟩
def LN (b:lR c j u) (a:Rat) (d:lR c j v):lR c j λi=>u i+a*v i:=by
 obtain⟨x,f⟩:=b;obtain⟨y,b⟩:=d;refine⟨λk=>x k+a*y k,λi=>?_⟩;show u i+a*v i=A7 j λk=>(x k+a*y k)*c k i
 rw[f,b, <-Bd, <-S9];exact A3 λk _=>by grind
def A5i (h:lR c j u):lR c (j+1) u:=by
 obtain⟨x,a⟩:=h;refine⟨λk=>if k<j then x k else 0,λi=>?_⟩;show u i=A7 j (λk=>(if k<j then x k else 0)*c k i)+(if j<j then x j else 0)*c j i;rw[qG (sW j),rS,rJ,a];exact A3 λk a=>by rw[qJ a]
def C0v:lR c (j+1) (c j):=by
 refine⟨λk=>if k=j then 1 else 0,λi=>?_⟩;show _=A7 j (λk=>(if k=j then 1 else 0)*c k i)+(if j=j then 1 else 0)*c j i;rw[qJ rfl,uD,P8 λk a=>by rw[qG ω,rS],sM]
def A1g (h:lR c (j+1) u):∃a,lR c j λi=>u i-a*c j i:=by
 obtain⟨x,b⟩:=h;refine⟨x j,x,λi=>?_⟩;have:=b i;show u i-x j*c j i=A7 j λk=>x k*c k i
 rw[this];show A7 j (λk=>x k*c k i)+x j*c j i-x j*c j i= _;grind
end
def C6u (c:Nat->Int->Rat) (j:Nat) (G:Int->Option (List D5)):Prop:=∀u,lR c j u->(∃i,u i≠0)->∃k w,G k=some w/\u k≠0/\∀i,i<k->u i=0
def Ke (v:List D5):Int:=(gx E6 v 0).1
def gvU (G:Int->Option (List D5)) (t:Nat) (i:Int):Rat:=match G (t:Int)with
 |some w=>A6 w i
 |none=>0
def nS (c:Nat->Int->Rat) (j:Nat) (G:Int->Option (List D5)) (n:Nat) (v:List D5):Prop:=∃X:Nat->Rat,∀i,c j i=A7 n (λt=>X t*gvU G t i)+A6 v i
structure IY (c:Nat->Int->Rat) (R:Int) (T j:Nat) (G:Int->Option (List D5)) (P:Wf):Prop where
 key:∀k w,G k=some w->0<=k/\k<R/\U5 w/\w≠ []/\Ke w=k/\(∀e∈w,0<=e.1/\e.1<R)/\IV (T+T) w/\lR c j (A6 w)
 cmb:∀k w,G k=some w->∃q,q<j/\nS c q G k.toNat w
 lead:C6u c j G
 piv:P.Pairwise (· < ·)/\∀b:Int,b∈P↔0<=b/\b<(j:Int)/\¬lR c b.toNat (c b.toNat)
def A6o {c:Nat->Int->Rat} {j n m:Nat} {G G':Int->Option (List D5)} {v:List D5} (h:nS c j G n v) (b:∀k w,G k=some w->G' k=some w) (g:n<=m):nS c j G' m v:=by
 obtain⟨X,d⟩:=h;refine⟨λt=>if t<n/\(G (t:Int)).isSome=true then X t else 0,λi=>?_⟩;show c j i=A7 m (λt=>(if t<n/\(G (t:Int)).isSome=true then X t else 0)*gvU G' t i)+A6 v i;rw[d i,Br g λk o r=>by rw[qG (λa=>ω),rS]];congr 1;refine A3 λt l=>?_
 show X t*gvU G t i=(if t<n/\(G (t:Int)).isSome=true then X t else 0)*gvU G' t i;unfold gvU;cases f:G (t:Int)with
 |none=>rw[qG (λa=>by have:=a.2;cases this),rS];exact sL _
 |some w=>rw[qJ ⟨l,rfl⟩,b _ _ f]
def SQ (C:Nat) (c:Nat->Int->Rat) (k i:Nat):Rat:=if k<C then c k (i:Int)else if i=k-C then 1 else 0
def C3h {C R T n j:Nat} {c:Nat->Int->Rat} {G:Int->Option (List D5)} {v:List D5} (N:Hl (C+R) R (SQ C c) T) (W:1<=T) (s:∀(t:Nat) w,t<R->G (t:Int)=some w->(∀i:Nat,i<t->A6 w (i:Int)=0)/\A6 w (t:Int)≠0/\∃q,q<C/\nS c q G t w) (Y:n<=R) (P:j<C) (V:nS c j G n v) (M:∀i:Nat,i<n->A6 v (i:Int)=0) {i:Nat} (O:i<R):qs (T+T) (A6 v (i:Int)):=by
 by_cases H:n=R
 . rw[M i ω];exact K2 ω
 have H:n<R:=ω
 let f:Nat->Nat->Rat:=λb i=>match G (b:Int)with
  |some w=>A6 w (i:Int)
  |none=>if i=b then 1 else 0
 have I:∀(X:Nat->Rat) (m i:Nat),A7 m (λt=>X t*gvU G t (i:Int))=A7 m λt=>(if(G (t:Int)).isSome=true then X t else 0)*f t i:=λX m i=>A3 λt _=>by
  show X t*gvU G t (i:Int)=(if(G (t:Int)).isSome=true then X t else 0)*(match G (t:Int)with
   |some w=>A6 w (i:Int)
   |none=>if i=t then 1 else 0)
  unfold gvU;cases o:G (t:Int)with
  |none=>rw[qG δ,rS];exact sL _
  |some w=>rw[qJ (show(some w).isSome=true from rfl)]
 have U:∀b,∃y:Nat×(Nat->Rat),b<R->y.1<C+R/\∀i,i<R->SQ C c y.1 i=A7 b (λt=>y.2 t*f t i)+f b i:=λb=>by
  by_cases B:b<R
  . cases o:G (b:Int)with
    |none=>
     refine⟨(C+b,λ_=>0),λ_=>⟨by simp only;omega,λi _=>?_⟩⟩;rw[P8 λQ _=>rS _,sM];show SQ C c (C+b) i=match G (b:Int)with
      |some w=>A6 w (i:Int)
      |none=>if i=b then 1 else 0
     rw[o];unfold SQ;rw[qG ω,(ω:C+b-C=b)]
    |some w=>
     obtain⟨_,_,q,Q,X,k⟩:=s b w B o;refine⟨(q,λt=>if(G (t:Int)).isSome=true then X t else 0),λ_=>⟨by simp only;omega,λi _=>?_⟩⟩;show SQ C c q i= _ +match G (b:Int)with
      |some w=>A6 w (i:Int)
      |none=>if i=b then 1 else 0
     rw[o, <-I];unfold SQ;rw[qJ Q];exact k i
  . exact⟨(0,λ_=>0),λE=>absurd E B⟩
 obtain⟨F,z⟩:=g2c U;obtain⟨X,k⟩:=V;have h:∀b,b<n->(if b=n then(λi:Nat=>A6 v (i:Int))else f b)=f b:=λb d=>qG ω
 have x:∀m,m<n->(if m=n then i else m)=m:=λm g=>qG ω
 have D:∀b,b<=n->(if b=n then i else b)<R:=λb d=>by
  split
  . exact O
  . omega
 have J:∀b,b<R->(∀m,m<b->f b m=0)/\f b b≠0:=λb d=>by
  show(∀m,m<b->(match G (b:Int)with
   |some w=>A6 w (m:Int)
   |none=>if m=b then 1 else 0)=0)/\(match G (b:Int)with
   |some w=>A6 w (b:Int)
   |none=>if b=b then 1 else 0)≠0
  cases o:G (b:Int)with
  |none=>exact⟨λm g=>qG ω,by simp only[wA];decide⟩
  |some w=>exact⟨(s b w d o).1,(s b w d o).2.1⟩
 have:=lT (R:=C+R) (C:=R) (T:=T) (A:=SQ C c) (a:=n) (u:=λb=>if b=n then(λi:Nat=>A6 v (i:Int))else f b) (X:=λb=>if b=n then(λt=>if(G (t:Int)).isSome=true then X t else 0)else(F b).2) (r:=λb=>if b=n then j else(F b).1) (l:=λm=>if m=n then i else m) N (λb d=>by
  show(if b=n then j else(F b).1)<C+R;split
  . omega
  . exact(z b ω).1) D ω H (λb d m g=>by
  have E:=D m g;generalize (if m=n then i else m)=y at E;by_cases e:b=n
  . subst e;simp only[wA];show SQ C c j y= _ +A6 v (y:Int);unfold SQ;rw[qJ P,k y,I];congr 1;exact A3 λo B=>by rw[h o B]
  . simp only[qG e];rw[(z b ω).2 y E];congr 1;exact A3 λo B=>by rw[h o ω]) (λb m g d=>by
  show(if b=n then(λi:Nat=>A6 v (i:Int))else f b) (if m=n then i else m)=0;rw[x m ω];by_cases e:b=n
  . rw[qJ e];exact M m ω
  . rw[qG e];exact(J b ω).1 m g) (λb d=>by
  show(if b=n then(λi:Nat=>A6 v (i:Int))else f b) (if b=n then i else b)≠0;rw[h b d,x b d];exact(J b ω).2)
 simp only[wA]at this;exact this
def Lr {v:List D5} (h:U5 v) (g:v≠ []):gx E6 v 0∈v/\A6 v (Ke v)=rv (gx E6 v 0).2/\rv (gx E6 v 0).2≠0/\(∀i,i<Ke v->A6 v i=0)/\∀e∈v,Ke v<=e.1:=by
 cases v with
 |nil=>exact absurd rfl g
 |cons e t=>
  have f:gx E6 (e::t) 0=e:=rfl;have c:e∈e::t:=rL;have d:∀a∈e::t,e.1<=a.1:=λa b=>by
   rcases qX.1 b with rfl|b
   . exact qH _
   . exact xE ((zV.1 h.1).1 a b)
  unfold Ke;rw[f];exact⟨c,H6 h.1 c,(h.2 e c).1,λi k=>D1 λa b j=>by have:=d a b;omega,d⟩
structure bT (c:Nat->Int->Rat) (R:Int) (T j:Nat) (G:Int->Option (List D5)) (v:List D5):Prop where
 can:U5 v
 rng:∀e∈v,0<=e.1/\e.1<R
 sp:lR c j λi=>c j i-A6 v i
 sz:IV (T+T) v
 st:∃n:Nat,n<=R.toNat/\(∀i:Nat,i<n->A6 v (i:Int)=0)/\nS c j G n v
section
variable {c:Nat->Int->Rat} {R:Int} {C j T:Nat} {G:Int->Option (List D5)} {P:Wf} {v w r:List D5}
def bT.start (b:U5 v) (d:∀e∈v,0<=e.1/\e.1<R) (f:IV (T+T) v) (a:∀i,c j i=A6 v i):bT c R T j G v:=
 ⟨b,d,⟨λ_=>0,λi=>by show c j i-A6 v i=A7 j λk=>0*c k i;rw[a,P8 λk _=>rS _];grind⟩,f,0,rM _,λi b=>absurd b (tY _),λ_=>0,λi=>by rw[a,A7,sM]⟩
def cqs {K:Nat} (d:1<=K) (h:U5 v) (g:IV K v) (i:Int):qs K (A6 v i):=by
 by_cases c:∃e∈v,e.1=i
 . obtain⟨e,a,rfl⟩:=c;rw[H6 h.1 a];have b:=g e a;rw[(h.2 e a).2]at b;exact b
 . rw[D1 λe a f=>c ⟨e,a,f⟩];exact K2 d
def IY.keys (d:IY c R T j G P) (a:j<=C) (t:Nat) (w:List D5) (_:t<R.toNat) (f:G (t:Int)=some w):(∀i:Nat,i<t->A6 w (i:Int)=0)/\A6 w (t:Int)≠0/\∃q,q<C/\nS c q G t w:=by
 obtain⟨a,b,h,l,k,_⟩:=d.key _ _ f;obtain⟨n,a,g,b,o⟩:=Lr h l;obtain⟨q,l,h⟩:=d.cmb _ _ f;rw[k]at a b;exact⟨λi d=>b _ ω,by rw[a];exact g,q,ω,by rwa[qK]at h⟩
def bT.step (h:bT c R T j G v) (Q:Hl (C+R.toNat) R.toNat (SQ C c) T) (U:1<=T) (z:j<C) (y:IY c R T j G P) (a0:v≠ []) (E:G (Ke v)=some w) (Z:OG (λi=>A6 v i+ -(rv (gx E6 v 0).2/rv (gx E6 w 0).2)*A6 w i) r):bT c R T j G r/\(r≠ []->Ke v<Ke r):=by
 obtain⟨ac,ad,a2,a4,a3,a5,af,a6⟩:=y.key _ _ E;obtain⟨d,a⟩:=Z;have a:∀i,A6 r i=A6 v i+ -(rv (gx E6 v 0).2/rv (gx E6 w 0).2)*A6 w i:=a;obtain⟨I,o,J,M,a7⟩:=Lr h.can a0;obtain⟨a8,s,N,u,O⟩:=Lr a2 a4;rw[a3]at s u O;have F:∀i,i<=Ke v->A6 r i=0:=λi f=>by
  rcases g4i f with f|rfl
  . rw[a,M i f,u i f];grind
  . rw[a,o,s,g5h,Rat.div_mul_cancel N];grind
 have B:∀e∈r,0<=e.1/\e.1<R:=λe b=>by
  have k:A6 r e.1≠0:=by rw[H6 d.1 b];exact(d.2 e b).1
  refine qN λA=>k ?_
  rw[a,D1 (v:=v) (i:=e.1) λx l g=>A (g▸h.rng x l),D1 (v:=w) (i:=e.1) λx l g=>A (g▸a5 x l)];grind
 have W:r≠ []->Ke v<Ke r:=λk=>by
  obtain⟨c1,g,l,x,A⟩:=Lr d k;refine qN λa9=>l ?_
  rw[<-g];exact F _ ω
 have aa:0<=Ke v/\Ke v<R:=h.rng _ I;obtain⟨n,ae,a1,X,V⟩:=h.st;have Y:n<=(Ke v).toNat:=g2h λhh=>J (by
  have:=a1 (Ke v).toNat hh;rw[(ω:(((Ke v).toNat:Nat):Int)=Ke v)]at this;rw[<-o];exact this)
 have D:nS c j G ((Ke v).toNat+1) r:=⟨λt=>if t=(Ke v).toNat then rv (gx E6 v 0).2/rv (gx E6 w 0).2 else if t<n then X t else 0,λi=>by
  show c j i=A7 ((Ke v).toNat+1) (λt=>(if t=(Ke v).toNat then rv (gx E6 v 0).2/rv (gx E6 w 0).2 else if t<n then X t else 0)*gvU G t i)+A6 r i;rw[V i,A7,qJ rfl,show gvU G (Ke v).toNat i=A6 w i from by unfold gvU;rw[(ω:(((Ke v).toNat:Nat):Int)=Ke v),E],Br Y λx g l=>by rw[qG ω,qG ω,rS],a];have e:A7 n (λt=>X t*gvU G t i)=A7 n λt=>(if t=(Ke v).toNat then rv (gx E6 v 0).2/rv (gx E6 w 0).2 else if t<n then X t else 0)*gvU G t i:=A3 λt ht=>by rw[qG ω,qJ ht]
  rw[<-e];grind⟩
 have H:∀i:Nat,i<(Ke v).toNat+1->A6 r (i:Int)=0:=λi f=>F _ ω
 refine⟨⟨d,B,Iv (LN h.sp (rv (gx E6 v 0).2/rv (gx E6 w 0).2) a6) λi=>by rw[a];grind,λe b=>?_,_,ω,H,D⟩,W⟩;have ab:=B e b;have:=C3h Q U (y.keys (vW z)) ω z D H (i:=e.1.toNat) ω;rw[(ω:((e.1.toNat:Nat):Int)=e.1),H6 d.1 b]at this;rw[(d.2 e b).2];exact Kh this
def IY.skip (a:IY c R T j G P) (h:bT c R T j G []):IY c R T (j+1) G P:=by
 have k:lR c j (c j):=Iv h.sp λi=>by show _= _-(0:Rat);grind
 refine⟨λd w g=>?_,λd w g=>?_,λu o n=>?_,a.piv.1,λb=>?_⟩
 . obtain⟨d,f,l,s,r,t,x,v⟩:=a.key _ _ g;exact⟨d,f,l,s,r,t,x,A5i v⟩
 . obtain⟨q,d,f⟩:=a.cmb _ _ g;exact⟨q,ω,f⟩
 . obtain⟨g,l⟩:=A1g o;exact a.lead u (Iv (LN l g k) λi=>by grind) n
 . rw[a.piv.2];refine⟨fun⟨d,f,h3⟩=>⟨d,ω,h3⟩,fun⟨d,f,h3⟩=>⟨d,?_,h3⟩⟩;refine qN λa=>h3 ?_
   rw[(ω:b.toNat=j)];exact k
def IY.add (g:IY c R T j G P) (h:bT c R T j G v) (V:v≠ []) (E:G (Ke v)=none) {G':Int->Option (List D5)} (o:∀i,G' i=if i=Ke v then some v else G i):IY c R T (j+1) G' (P++ [(j:Int)]):=by
 obtain⟨W,s,t,u,aa⟩:=Lr h.can V;have F:=h.rng _ W;have F:0<=Ke v/\Ke v<R:=F;have Y:¬lR c j (c j):=λhd=>by
  have a0:lR c j (A6 v):=Iv (LN hd (-1) h.sp) λi=>by grind
  obtain⟨k,w,d,D,r⟩:=g.lead _ a0 ⟨Ke v,by rw[s];exact t⟩;have x:¬k<Ke v:=λa=>D (u k a)
  have l:¬Ke v<k:=λa=>t (by rw[<-s];exact r _ a)
  rw[(ω:k=Ke v),E]at d;cases d
 have Q:∀k w,G k=some w->G' k=some w:=λk w a=>by
  rw[o,qG (λe=>by rw[e,E]at a;cases a)];exact a
 refine⟨λk w a=>?_,λk w a=>?_,λH a1 Z=>?_,?_,λb=>?_⟩
 . rw[o]at a;split at a
   . rename_i O;cases a;subst O;exact⟨F.1,F.2,h.can,V,rfl,h.rng,h.sz,Iv (LN (C0v (c:=c) (j:=j)) (-1) (A5i h.sp)) λi=>by grind⟩
   . obtain⟨a2,d,a4,a6,a5,a7,a9,a8⟩:=g.key _ _ a;exact⟨a2,d,a4,a6,a5,a7,a9,A5i a8⟩
 . rw[o]at a;split at a
   . rename_i O;cases a;subst O;obtain⟨n,ab,a3,X⟩:=h.st;refine⟨j,rN _,A6o X Q (g2h λN=>t ?_)⟩;have:=a3 (Ke v).toNat N;rw[(ω:(((Ke v).toNat:Nat):Int)=Ke v)]at this;rw[<-s];exact this
   . obtain⟨q,x,l⟩:=g.cmb _ _ a;exact⟨q,ω,A6o l Q (qP _)⟩
 . obtain⟨f,M⟩:=A1g a1;have l:lR c j λi=>H i-f*A6 v i:=Iv (LN M f h.sp) λi=>by grind
   by_cases I:f=0
   . subst I;obtain⟨k,w,d,D,r⟩:=g.lead H (Iv l λi=>by grind) Z;refine⟨k,w,?_,D,r⟩;rw[o,qG (λe=>by rw[e,E]at d;cases d)];exact d
   . by_cases B:∃i,H i-f*A6 v i≠0
     . obtain⟨k,w,d,D,r⟩:=g.lead _ l B;have U:k≠Ke v:=λe=>by rw[e,E]at d;cases d
       rcases g4j U with a|a
       . refine⟨k,w,by rw[o,qG U];exact d,λe=>D ?_,λi A=>?_⟩
         . rw[e,u k a];grind
         . have:=r i A;rw[u i ω]at this;grind
       . refine⟨Ke v,v,by rw[o,qJ rfl],λe=>?_,λi A=>?_⟩
         . have y:=r _ a;rw[e,s]at y;have:f*rv (gx E6 v 0).2=0:=by grind
           rcases xD.1 this with J|J
           . exact I J
           . exact t J
         . have:=r i ω;rw[u i A]at this;grind
     . have B:∀i,H i=f*A6 v i:=λi=>by
        have:=qN λN=>B ⟨i,N⟩
        grind
       refine⟨Ke v,v,by rw[o,qJ rfl],?_,λi A=>by rw[B,u i A,sL]⟩;rw[B,s];exact λe=>(xD.1 e).elim I t
 . refine tS.2 ⟨g.piv.1,wZ _ _,λf M b z=>?_⟩;rw[qY]at z;have:=((g.piv.2 f).1 M).2.1;show f<b;omega
 . rw[rA,qY,g.piv.2];refine⟨λz=>?_,fun⟨x,l,y⟩=>?_⟩
   . rcases z with⟨x,l,y⟩ |rfl
     . exact⟨x,ω,y⟩
     . exact⟨qD _,ω,by rw[qK];exact Y⟩
   . by_cases z:b=(j:Int)
     . exact .inr z
     . exact .inl ⟨x,ω,y⟩
def IY.start:IY c R T 0 (λ_=>none) []:=
 ⟨λk w h=>(by cases h),λk w h=>(by cases h),λu ⟨x,hx⟩ ⟨i,hi⟩=>absurd (hx i) hi,List.Pairwise.nil,λb=>⟨λh=>(by cases h),fun⟨h1,h2,_⟩=>ω⟩⟩
end
def ZC {f:Nat->Rat} {m:Nat} :∀ {n:Nat},m<=n->(∀k,m<=k->k<n->f k=0)->A7 n f=A7 m f
 |0,h,_=>by rw[g3q.1 h]
 |n+1,h,c=>by
  rcases sF m (n+1)with a|a
  . show A7 n f+f n= _;rw[ZC ω λk d b=>c k d ω,c n ω ω,rJ]
  . rw[Nat.le_antisymm h a]
def B8q {m:O1} {cs:List (List D5)} (A:spF m cs) {b:Nat} (v:b<m.2.1.toNat) (H:0<=m.1):WG m.1.toNat m.2.1.toNat (el m) b↔lR (λk=>A6 (cs.getD k [])) b (A6 (cs.getD b [])):=by
 obtain⟨p,J,I,h⟩:=A;have z:G3 p ((m.1.toNat:Nat):Int):=by rwa[(ω:((m.1.toNat:Nat):Int)=m.1)]
 obtain⟨M,s,G⟩:=O5 z;have r:∀k,k<m.2.1.toNat->∀i:Int,¬(0<=i/\i<m.1)->A6 (cs.getD k []) i=0:=λk o i f=>D1 λe he hei=>f (hei▸(h k ω).2.1 e he)
 have B:∀i:Int,0<=i->i<m.1->∃a,a<m.1.toNat/\p.getD a 0=i:=λi i0 i1=>by
  obtain⟨a,c,u⟩:=H7 (n:=m.1.toNat) (q:=ix p) (λa c=>(s a c).2) G (j:=i.toNat) ω;exact⟨a,c,by rw[(s a c).1,u];omega⟩
 constructor
 . rintro⟨x,o,E,D⟩;refine⟨λk=> -(x k/x b),λi=>?_⟩;by_cases f:0<=i/\i<m.1
   . obtain⟨a,c,rfl⟩:=B i f.1 f.2;have d:=o a c;rw[ZC (m:=b+1) ω λk l w=>by rw[D k ω,sL]]at d;have d:A7 b (λk=>el m a k*x k)+el m a b*x b=0:=d;show A6 (cs.getD b []) (p.getD a 0)=A7 b λk=> -(x k/x b)*A6 (cs.getD k []) (p.getD a 0)
     rw[(h b ω).2.2 a c,A3 (g:=λk=> -(1/x b)*(el m a k*x k)) λk l=>by rw[(h k ω).2.2 a c,tT,tT];grind,Bd];have t:A7 b (λk=>el m a k*x k)= -(el m a b*x b):=by grind
     rw[t,tT,uD,g5h,Rat.mul_neg,Rat.neg_neg,vY,tF,vM _ E,uA]
   . show A6 (cs.getD b []) i=A7 b λk=> -(x k/x b)*A6 (cs.getD k []) i
     rw[r b v i f,P8 λk l=>by rw[r k ω i f,sL]]
 . rintro⟨y,F⟩;refine⟨λk=>if k<b then y k else if k=b then -1 else 0,λa c=>?_,by show(if b<b then y b else if b=b then(-1:Rat)else 0)≠0;rw[qG (sW b),qJ rfl];decide,λk o=>by show(if k<b then y k else if k=b then(-1:Rat)else 0)=0;rw[qG ω,qG ω]⟩;rw[ZC (m:=b+1) ω λk l w=>by show el m a k*(if k<b then y k else if k=b then(-1:Rat)else 0)=0;rw[qG ω,qG ω,sL]];show A7 b (λk=>el m a k*(if k<b then y k else if k=b then -1 else 0))+el m a b*(if b<b then y b else if b=b then -1 else 0)=0;have d:=F (p.getD a 0);rw[(h b ω).2.2 a c]at d;rw[qG (sW b),qJ rfl,d,A3 (g:=λk=>y k*A6 (cs.getD k []) (p.getD a 0)) λk l=>by rw[qJ l,(h k ω).2.2 a c,vY]];grind
def C0d {P:Wf} {j:Nat} (d:P.Pairwise (· < ·)) (c:∀b∈P,0<=b/\b<(j:Int)):P.length<=j:=by
 have:=kH (a:=P) (b:=(List.range j).map Int.ofNat) (d.imp λh=>Int.ne_of_lt h) λb hb=>tU.2 ⟨b.toNat,wK.2 (by have:=c b hb;omega),by have:=c b hb;show((b.toNat:Nat):Int)=b;omega⟩
 simpa using this
def C7a (R:Int) (v:List D5):Nat:=if v= []then 0 else(R-Ke v).toNat
def Qm:sn R1 Hs:=λx au O=>by
 obtain⟨⟨(R:Int),(C:Int),D⟩,_⟩:=x;change List (List D5)at D;have a2:Lu (R,C,D):=V6 au.1.2.2.2;obtain⟨s,J,y,aq,av⟩:∃s:Nat,1<=s/\J3 s (R,C,D)/\s<=K1/\(A8 (R,C,D)->8*tB s (C.toNat+R.toNat) R.toNat+8<=K1):=O;simp only[Hs,iB,M0,Nr,rT6];refine⟨trivial,?_⟩;rintro⟨V,_⟩ _ t;simp only at t|-;by_cases o:A8 (R,C,D)
 case neg=>
  rw[rB o]at t;subst t;exact⟨λ_=>⟨λ_=>⟨by trivial,by trivial⟩,λh=>absurd h o⟩,λh=>(by cases h)⟩
 rw[rD o]at t;subst t;refine⟨λh=>(by cases h),λ_=>⟨⟨o,λv o e a=>F1 (y v o e a) aq⟩,?_⟩⟩;have bi:=av o;obtain⟨a5,b1,b2,b3,_,_⟩:=id o;simp only at a5 b1 b2 b3;rintro⟨f,_⟩ _ H;change List (List D5)at f;have H:spF (R,C,D) f:=H;simp only;obtain⟨p,O,af,G⟩:=id H;simp only at O af G;have ao:G3 p ((R.toNat:Nat):Int):=by rwa[(ω:((R.toNat:Nat):Int)=R)]
 obtain⟨bl,I,a3⟩:=O5 ao;have ag:∀j,j<C.toNat->IV s (f.getD j []):=λj l e a=>by
  obtain⟨F,A,W⟩:=G j ω;obtain⟨B,E,Q⟩:=H7 (n:=R.toNat) (q:=ix p) (λB E=>(I B E).2) a3 (j:=e.1.toNat) (by have:=A e a;omega);have N:=W B E;rw[(I B E).1,Q,show((e.1.toNat:Nat):Int)=e.1 from by have:=A e a;omega,H6 F.1 a]at N;rw[(F.2 e a).2,N];exact Kh (Oe o a2 y J _ _)
 have ap:∀j,j<C.toNat->∀i:Nat,i<R.toNat->qs s (A6 (f.getD j []) (i:Int)):=λj l i hi=>by
  obtain⟨B,E,Q⟩:=H7 (n:=R.toNat) (q:=ix p) (λB E=>(I B E).2) a3 (j:=i) hi;have N:=(G j ω).2.2 B E;rw[(I B E).1,Q]at N;rw[N];exact Oe o a2 y J _ _
 have an:Hl (C.toNat+R.toNat) R.toNat (SQ C.toNat λk=>A6 (f.getD k [])) (tB s (C.toNat+R.toNat) R.toNat):=A4d ω λi j hi l=>by
  unfold SQ;split
  . rename_i h;exact ap i h j l
  . split
    . exact kZ J
    . exact K2 J
 have ad:1<=tB s (C.toNat+R.toNat) R.toNat:=g2t 1 _;have ae:s<=tB s (C.toNat+R.toNat) R.toNat+tB s (C.toNat+R.toNat) R.toNat\/R.toNat=0:=by
  rcases vL R.toNat with h|h
  . exact .inr h
  . refine .inl (qU ?_ (g2t _ _));unfold tB;have B:=rV s (ω:1<=(C.toNat+R.toNat)*R.toNat+1);have E:=vD (ω:1<=C.toNat+R.toNat) (qP (s*((C.toNat+R.toNat)*R.toNat+1)+1));omega
 generalize tB s (C.toNat+R.toNat) R.toNat=T at*;refine⟨λp=>0<=p.2.1/\p.2.1<=(f.length:Int)/\IY (λk=>A6 (f.getD k [])) R T p.2.1.toNat (λk=>K5 (.int .i64) k p.2.2.1) p.1,λp=>((f.length:Int)-p.2.1).toNat,⟨qH _,qD _,IY.start⟩,?_⟩;rintro⟨(P:Wf),(j:Int),g,_⟩ _ ⟨U,aw,r⟩;change List (Int×List D5)at g;simp only at U aw r|-;refine⟨λl=>?_,λl=>?_⟩
 . have l:=qA l;have a1:j.toNat<C.toNat:=ω
   refine⟨λq=>IY (λk=>A6 (f.getD k [])) R T (j.toNat+1) (λk=>K5 (.int .i64) k q.2.1) q.1,⟨⟨U,l⟩,λv=>bT (λk=>A6 (f.getD k [])) R T j.toNat (λk=>K5 (.int .i64) k g) v.1/\(v.1= []\/K5 (.int .i64) (Ke v.1) g=none),⟨λv=>bT (λk=>A6 (f.getD k [])) R T j.toNat (λk=>K5 (.int .i64) k g) v.1,λv=>C7a R v.1,?_,?_⟩,?_⟩,?_⟩
   . rw[Hz U l];obtain⟨F,A,_⟩:=G j.toNat ω;exact bT.start F A (λe a=>F1 (ag _ a1 e a) (ae.resolve_right λbc=>by have:=A e a;omega)) λi=>rfl
   . rintro⟨(v:List D5),_⟩ _ c;simp only at c|-;refine⟨λd=>?_,λd=>⟨c, .inl ?_⟩⟩
     . have d:=qA d;have z:v≠ []:=λe=>by rw[e]at d;simp at d
       obtain⟨X,a8,b4,b5,b6⟩:=Lr c.can z;have bh:0<=Ke v/\Ke v<R:=c.rng _ X;show(0<=0/\ _)/\((!(K5 (.int .i64) (Ke v) g).isSome)=true-> _)/\((!(K5 (.int .i64) (Ke v) g).isSome)=false-> _);refine⟨⟨qH _,d⟩,λh=>⟨c, .inr ?_⟩,λh=>?_⟩
       . cases u:K5 (.int .i64) (Ke v) g with
         |none=>rfl
         |some w=>rw[u]at h;cases h
       . cases u:K5 (.int .i64) (Ke v) g with
         |none=>rw[u]at h;cases h
         |some w=>
          have am:K5 (.int .i64) (gx E6 v 0).1 g=some w:=u;rw[am];simp only[vX];obtain⟨bj,bk,B,a6,bm,a7,W,bn⟩:=r.key _ _ u;obtain⟨a9,aa,ab,b7,b8⟩:=Lr B a6;have be:K1=549755813888:=rfl;have Z:1<=T+T:=ω
          have az:=c.sz _ X;have b0:=W _ a9;have ax:qs (T+T) (rv (gx E6 v 0).2):=by rw[<-a8];exact cqs Z c.can c.sz _
          have ay:qs (T+T) (rv (gx E6 w 0).2):=by rw[<-aa];exact cqs Z B W _
          have a4:=Zy ax ay;have aj:v.length<=100000:=by
           have:=V5 (v:=v) (n:=R) ⟨c.can.1,λe a=>⟨(c.rng e a).1,(c.rng e a).2,(c.can.2 e a).1⟩⟩;omega
          have ak:w.length<=100000:=by
           have:=V5 (v:=w) (n:=R) ⟨B.1,λe a=>⟨(a7 e a).1,(a7 e a).2,(B.2 e a).1⟩⟩;omega
          refine(λy=>⟨⟨qH _,d⟩,⟨qH _,by have:=uJ.2 a6;omega⟩,y,y⟩) ?_;refine⟨⟨K9 az ω,K9 b0 ω⟩,?_⟩;rintro⟨ba,b,_⟩ _ ⟨_,E⟩;simp only at E|-;obtain⟨E,_⟩:=E ab;rw[E];refine⟨I0 a4 ω,?_⟩;rintro⟨bb,_⟩ _ N;simp only at N|-;rw[F6]at N;rw[N,F6];refine⟨⟨⟨c.can.1,λe a=>F1 (c.sz e a) ω,aj⟩,Kh (D7 (A4v a4) ω),⟨B.1,λe a=>F1 (W e a) ω,ak⟩⟩,?_⟩;rintro⟨(V:List D5),_⟩ _ t;simp only at t|-;obtain⟨ac,ah⟩:=c.step an ad a1 r z u t;refine⟨ac,?_⟩;unfold C7a;rw[qG z];by_cases Q:V= []
          . rw[qJ Q];omega
          . rw[qG Q];have:=ah Q;omega
     . have d:=qB d;exact qT ω
   . rintro⟨(v:List D5),_⟩ _ ⟨c,a0⟩;simp only at c a0|-;refine⟨λd=>?_,λd=>?_⟩
     . have d:=qA d;have z:v≠ []:=λe=>by rw[e]at d;simp at d
       have bf:=C0d r.piv.1 λb M=>⟨((r.piv.2 b).1 M).1,((r.piv.2 b).1 M).2.1⟩
       refine⟨⟨qH _,d⟩,⟨by rw[qV];omega,by rw[qV];omega⟩,?_⟩;have:=r.add c z (a0.resolve_left z) (G':=λk=>K5 (.int .i64) k (Ga (.int .i64) (Ke v) v g)) λi=>OK (Ke v) i v g
       rw[(ω:((j.toNat:Nat):Int)=j)]at this;exact this
     . have d:=qB d;have ar:v= []:=qT ω;subst ar;exact r.skip c
   . rintro⟨P2,b9,_⟩ _ Y;simp only at Y|-;rw[wv ω];refine⟨⟨ω,ω,?_⟩,ω⟩;rw[(ω:(j+1).toNat=j.toNat+1)];exact Y
 . have l:=qB l;refine⟨λh=>absurd o h,λ_=>⟨⟨r.piv.1,λb=>?_⟩,by trivial⟩⟩;rw[r.piv.2];have ai:(j.toNat:Int)=C:=ω
   rw[ai];exact g3b λbg=>g3b λM=>g5j (B8q H (by show b.toNat<C.toNat;omega) a5).symm
def VU:An:= {join:= [(18,⟨[1,7,9,11,12],[1],[(10,false,vI)],[],[(0, .rows tQ 28 46)]⟩),(10,⟨[1,7,12],[],[(9,false,[.own qb 3]),(10,false,vI),(11,false,vI)],[],[(0, .rows tQ 28 46)]⟩)],loop:= [(3,⟨[0,1],[],[(7,false,[.ownR tQ 28 46]),(8,false,vI)],[],[]⟩),(12,⟨[1,7,9,10,11,12],[1],[(13,false,vI)],[],[(0, .rows tQ 28 46)]⟩),(23,⟨[1,7,9,10,11,12,14,15],[1,5],[(16,false,vI)],[],[(0, .rows tQ 28 46)]⟩),(19,⟨[1,7,9,10,11,12],[1],[(14,false,vI)],[],[(0, .rows tQ 28 46)]⟩),(9,⟨[1,7],[],[(9,false,[.own qb 3]),(10,false,vI),(11,false,vI),(12,false,vI)],[],[(0, .rows tQ 28 46)]⟩)],plan:= [(16,[7,11],[13,15],false, .done),(21,[3,6,10,13],[16],true, .done),(25,[3,8,11,12,16,19],[23],true, .done)]}
abbrev C8i:=Wf×Int×Int×Int×List (List QQ)×Unit
abbrev C8j:=Wf×Int×Int×List (List QQ)×Unit
def BS(x:B1o):Prop:=let K:=(140737488355328:Nat);let A:=(1:Int);let s:=(0:Int);∃(I:B1o->Prop),∃(a: _->Nat),I ([],s,())/\∀(p:B1o),let O:=(gx [] x.1 p.2.1);let g:Prop:=(p.2.1<(x.1.length:Int));tQ.sl.sl.wf p.1/\(Ty.int i64).wf p.2.1/\True->I p->(iB (decide g) ((s<=p.2.1/\g)/\(((0:Nat)+O.length)*(56:Nat)<=K/\(0:Nat)+O.length<=9223372036854775807)/\((p.1.length+ [gx [] x.1 p.2.1].length)*(24:Nat)<=K/\p.1.length+ [gx [] x.1 p.2.1].length<=9223372036854775807)/\I (p.1++ [gx [] x.1 p.2.1],i64.wrap (p.2.1+A),())/\a (p.1++ [gx [] x.1 p.2.1],i64.wrap (p.2.1+A),())<a p) (∃(I:C8i->Prop),∃(a: _->Nat),I ([],A,s,s,p.1,())/\∀(R:C8i),let o:=R.2.2.2.1.toNat;let n:=R.2.2.1.toNat;let m:Prop:=(R.2.2.2.1<x.2.1);let k:Prop:=(R.2.2.1<(R.2.2.2.2.1.length:Int));(Ty.int i64).sl.wf R.1/\(Ty.int i64).wf R.2.1/\(Ty.int i64).wf R.2.2.1/\(Ty.int i64).wf R.2.2.2.1/\Qy R.2.2.2.2.1/\True->I R->(iB (G6 (decide m) (decide k) false) (∃(J:C8j->Prop),(∃(I:Dv->Prop),∃(a: _->Nat),I (R.2.2.1,R.2.2.2.2.1,())/\∀(S:Dv),let Q:Prop:=(S.1≠R.2.2.1);let G:=(i64.wrap (S.1+A),S.2.1,());let C:=(List.set S.2.1 S.1.toNat (List.getD S.2.1 n []));let y:=(S.2.1.length:Int);let u:=(List.getD S.2.1 S.1.toNat []);let l:Prop:=(S.1=y);let b:Prop:=(S.1<y);(Ty.int i64).wf S.1/\Qy S.2.1/\True->I S->(decide b=true->s<=S.1/\S.1<y)/\(decide b=true->s<=R.2.2.2.1/\R.2.2.2.1<(↑u.length:Int))/\(decide b=true->G4 (u.getD o dQ))/\∀(r:E3),(decide b=true->(O0 r.1/\True)/\r.1=(rv (u.getD o dQ)).num.sign)->(iB (G6 (decide b) (decide (r.1=s)) false) (I G/\a G<a S) ((iB (decide l) (J (R.1,R.2.1,R.2.2.1,S.2.1,())) (∃(J_1:Dv->Prop),((iB (decide Q) ((s<=R.2.2.1/\R.2.2.1<y)/\(s<=S.1/\b)/\(s<=S.1/\b)/\(Int.toNat S.1=Int.toNat S.1/\Int.toNat S.1≠Int.toNat R.2.2.1)/\(s<=R.2.2.1/\R.2.2.1<(↑C.length:Int))/\Int.toNat R.2.2.1=Int.toNat R.2.2.1/\J_1 (i64.wrap (-R.2.1),C.set n u,())) (J_1 (R.2.1,S.2.1,()))))/\∀(V:Dv),(Ty.int i64).wf V.1/\Qy V.2.1/\True->J_1 V->∃(I:Dv->Prop),∃(a: _->Nat),I (i64.wrap (R.2.2.1+A),V.2.1,())/\∀(U:Dv),let M:=(U.2.1.length:Int);let L:=U.1.toNat;let B:=(List.getD U.2.1 n []);let z:=(List.getD U.2.1 L []);let g:Prop:=(U.1<M);let f:Prop:=(G4 (z.getD o dQ)/\G4 (B.getD o dQ));let d:(D4)->Prop:=(λr=>IU r.1/\True->(rv (B.getD o dQ)≠(0:Rat)->r.1=rc (rv (z.getD o dQ)/rv (B.getD o dQ)))->∃(I_1:Dv->Prop),∃(μ_1: _->Nat),I_1 (s,U.2.1,())/\∀(p:Dv),let N:=(p.2.1.length:Int);let H:=(i64.wrap (U.1+A),p.2.1,());let F:=(List.getD p.2.1 n []);let D:=p.1.toNat;let q:=(List.getD p.2.1 L []);let h:Prop:=(s<=U.1/\U.1<N);let e:Prop:=(s<=p.1/\p.1<(↑q.length:Int));(Ty.int i64).wf p.1/\Qy p.2.1/\True->I_1 p->(iB (decide (p.1<x.2.1)) (h/\h/\e/\(s<=R.2.2.1/\R.2.2.1<N)/\(s<=p.1/\p.1<(↑F.length:Int))/\(G4 r.1/\G4 (F.getD D dQ))/\M0 λW=>W.1=rc (rv r.1*rv (F.getD D dQ))->(G4 (q.getD D dQ)/\G4 W.1)/\M0 λr=>let v:=(i64.wrap (p.1+A),List.set p.2.1 L (q.set D r.1),());r.1=rc (rv (q.getD D dQ)-rv W.1)->e/\I_1 v/\μ_1 v<μ_1 p) (I H/\a H<a U)));(Ty.int i64).wf U.1/\Qy U.2.1/\True->I U->(iB (decide g) ((s<=U.1/\g)/\(s<=R.2.2.2.1/\R.2.2.2.1<(↑z.length:Int))/\(s<=R.2.2.1/\R.2.2.1<M)/\(s<=R.2.2.2.1/\R.2.2.2.1<(↑B.length:Int))/\(f/\∀(r:D4),d r)/\f/\∀(r:D4),d r) (((R.1.length+ [R.2.2.2.1].length)*(8:Nat)<=K/\R.1.length+ [R.2.2.2.1].length<=9223372036854775807)/\J (R.1++ [R.2.2.2.1],V.1,i64.wrap (R.2.2.1+A),U.2.1,()))))))))/\∀(p:C8j),let w:=(p.1,p.2.1,p.2.2.1,i64.wrap (R.2.2.2.1+A),p.2.2.2.1,());(Ty.int i64).sl.wf p.1/\(Ty.int i64).wf p.2.1/\(Ty.int i64).wf p.2.2.1/\Qy p.2.2.2.1/\True->J p->I w/\a w<a R) (∃(E:Nat->Nat->Rat),∃(t:Nat),∃(c:Nat),∃(P:List Nat),Tf x.1.length x.2.1.toNat E R.2.2.2.2.1/\We x.1.length x.2.1.toNat (aF x.1) E t c P/\(c=x.2.1.toNat\/t=x.1.length)/\R.1=List.map Int.ofNat P/\(R.2.1=A\/R.2.1=(-1:Int))/\(x.2.1.toNat=x.1.length->det x.2.1.toNat (aF x.1)=(↑R.2.1:Rat)*det x.2.1.toNat E)/\∀(T:Nat),(1:Nat)<=T->Hl x.1.length x.2.1.toNat (aF x.1) T->∀(i j:Nat),i<x.1.length->j<x.2.1.toNat->qs (T+T) (E i j)))))
def Mi (q:Rat):(rv (rc q)).num.sign=0↔q=0:=by
 rw[F6,xN];exact⟨λh=>yJ.1 h,λh=>by rw[h];rfl⟩
set_option maxHeartbeats 2000000 in
def MX:sn Bv BS:=λx _ bl=>by
 obtain⟨B,M,_⟩:=x;change List (List C0)at B;change Int at M;obtain⟨c6,c1,cc,az,T,av,bh,ar⟩:eT M B:=bl;simp only[BS,iB,M0];have bg:K1=549755813888:=rfl;rw[bg]at bh;generalize c7:aF B=A at*;generalize c8:M.toNat=C at*;generalize c9:B.length=R at*;have bk:∀i,i<R->(B.getD i []).length=C:=λi g=>(az.2 i g).1
 refine⟨λp=>0<=p.2.1/\p.2.1<=(R:Int)/\p.1=B.take p.2.1.toNat,λp=>((R:Int)-p.2.1).toNat,⟨qH _,qD _,rfl⟩,?_⟩;rintro⟨e,i,_⟩ _ ⟨b5,bp,X⟩;change List (List C0)at e;change Int at i;simp only at b5 bp X|-;refine⟨λh=>?_,λh=>?_⟩
 . have h:=qA h;have g:i.toNat<R:=ω
   have V:gx ([]:List C0) B i=B.getD i.toNat []:=rfl;have ax:=bk i.toNat g;have ae:e.length<=R:=by rw[X,qZ];omega
   rw[wv ω];refine⟨⟨b5,ω⟩,⟨by rw[V,ax];omega,by rw[V,ax];omega⟩,⟨by simp only[qV];omega,by simp only[qV];omega⟩,⟨ω,ω,?_⟩,ω⟩;rw[X,V,(ω:(i+1).toNat=i.toNat+1),rU,qF,qQ ω];rfl
 have h:=qB h;have ae:e=B:=by rw[X,qS ω]
 subst ae;clear X h;refine⟨λp=>∃E P,0<=p.2.2.1/\p.2.2.1<=(R:Int)/\0<=p.2.2.2.1/\p.2.2.2.1<=(C:Int)/\Tf R C E p.2.2.2.2.1/\We R C A E p.2.2.1.toNat p.2.2.2.1.toNat P/\Xn R C A E p.2.2.1.toNat (p.2.2.1.toNat+1)/\p.1=P.map Int.ofNat/\(p.2.1=1\/p.2.1= -1)/\JV R C A E p.2.1,λp=>((C:Int)-p.2.2.2.1).toNat,⟨A,[],qH _,qD _,qH _,qD _,az,We.start A,Xn.start A,rfl, .inl rfl,JV.start⟩,?_⟩;rintro⟨(b6:Wf),(s:Int),(t:Int),(c:Int),e,_⟩ _ ⟨E,P,Q,ak,a0,b7,f,d,l,Y,a6,y⟩;change List (List C0)at e;simp only at Q ak a0 b7 f d l Y a6 y|-;have ae:e.length=R:=f.1;simp only[J0,qC,rQ,wS,rO];refine⟨fun⟨a9,aa⟩=>?_,λh=>?_⟩
 case refine_2=>
  refine⟨E,t.toNat,c.toNat,P,f,d,ω,Y,a6,λe=>y ω,λT' an am i G g J=>l.qs d am an (.inl rfl) g J⟩
 have F:t.toNat<R:=ω
 have w:c.toNat<C:=ω
 have z:∀ {i G:Nat},i<R->G<C->qs (T+T) (E i G):=λg J=>l.qs d ar av (.inl rfl) g J
 refine⟨λp=>∃E P,0<=p.2.2.1/\p.2.2.1<=(R:Int)/\Tf R C E p.2.2.2.1/\We R C A E p.2.2.1.toNat (c.toNat+1) P/\Xn R C A E p.2.2.1.toNat (p.2.2.1.toNat+1)/\p.1=P.map Int.ofNat/\(p.2.1=1\/p.2.1= -1)/\JV R C A E p.2.1,?_,?_⟩
 case refine_2=>
  rintro⟨cd,(c4:Int),(c5:Int),D,_⟩ _ ⟨E',P',H,U,o,am,an,ao,ap,aq⟩;simp only at H U o am an ao ap aq|-;rw[wv ω];exact⟨⟨E',P',H,U,ω,ω,o,by rw[(ω:(c+1).toNat=c.toNat+1)];exact am,an,ao,ap,aq⟩,ω⟩
 refine⟨λp=>t<=p.1/\p.1<=(R:Int)/\p.2.1=e/\∀r:Nat,t.toNat<=r->(r:Int)<p.1->E r c.toNat=0,λp=>((R:Int)-p.1).toNat,⟨qH _,ak,rfl,λr N W=>ω⟩,?_⟩;rintro⟨(k:Int),a8,_⟩ _ ⟨bs,bt,aw,a7⟩;change List (List C0)at a8;simp only at bs bt aw a7|-;subst aw;have a3:k<(R:Int)->(a8.getD k.toNat []).length=C/\(a8.getD k.toNat []).getD c.toNat dQ=rc (E k.toNat c.toNat):=λO=>⟨(f.2 k.toNat ω).1,(f.2 k.toNat ω).2 c.toNat w⟩
 refine⟨λh=>⟨ω,h⟩,λh=>⟨a0,by rw[(a3 ω).1];omega⟩,λh=>by rw[(a3 ω).2];exact I0 (z ω w) ω,?_⟩;rintro⟨(r:Int),_⟩ u;simp only at u|-;have ag:k<(R:Int)->(r=0↔E k.toNat c.toNat=0):=λO=>by
  rw[(u ω).2,(a3 O).2];exact Mi _
 refine⟨fun⟨N,W⟩=>?_,λa2=>⟨λN=>?_,λN=>?_⟩⟩
 . rw[wv ω];have O:k<(R:Int):=ω
   refine⟨⟨ω,ω,trivial,λZ ai bv=>?_⟩,ω⟩;by_cases e:(Z:Int)<k
   . exact a7 Z ai e
   . have:Z=k.toNat:=ω
     rw[this];exact(ag O).1 W
 . exact⟨E,P,Q,ak,f,d.skip w λZ ai bv=>a7 Z ai ω,l,Y,a6,y⟩
 have O:k<(R:Int):=ω
 have a4:k.toNat<R:=ω
 have bm:E k.toNat c.toNat≠0:=λn=>by
  rcases a2 with a2|a2
  . omega
  . exact a2 ((ag O).2 n)
 refine⟨λp=>(p.1=1\/p.1= -1)/\JV R C A (PN E t.toNat k.toNat) p.1/\Tf R C (PN E t.toNat k.toNat) p.2.1,⟨λq=>?_,λq=>?_⟩,?_⟩
 . have a5:t.toNat≠k.toNat:=λn=>q ω
   refine⟨⟨Q,ω⟩,⟨ω,ω⟩,⟨ω,ω⟩,⟨trivial,Ne.symm a5⟩,⟨Q,by rw[qO];omega⟩,trivial,?_,?_,B1i f F a4⟩
   . rw[wv ω];omega
   . rw[wv ω];exact y.swap F a4 a5
 . have:k=t:=by
    refine qN λn=>?_
    exact q n
   rw[this,B7h];exact⟨a6,y,f⟩
 have ad:=d.swap (k:=k.toNat) ω a4;have ab:=l.swap (k:=k.toNat) ω a4;have af:PN E t.toNat k.toNat t.toNat c.toNat≠0:=by unfold PN;rw[qJ rfl];exact bm
 generalize PN E t.toNat k.toNat=E2 at ad ab af|-;clear ag a3 z a7 l d y f;rintro⟨(aj:Int),b9,_⟩ _ ⟨b3,ac,ah⟩;change List (List C0)at b9;simp only at b3 ac ah|-;rw[wv (a:=t+1) ω];refine⟨λp=>t<p.1/\p.1<=(R:Int)/\∃E,Tf R C E p.2.1/\mL R C A E t.toNat c.toNat P p.1.toNat/\Xn R C A E t.toNat p.1.toNat/\JV R C A E aj,λp=>((R:Int)-p.1).toNat,⟨ω,ω,E2,ah,by rw[(ω:(t+1).toNat=t.toNat+1)];exact ad.begin F w af,by rw[(ω:(t+1).toNat=t.toNat+1)];exact ab,ac⟩,?_⟩;clear ad ab af ac ah;rintro⟨(b:Int),a1,_⟩ _ ⟨bw,bx,E,f,d,l,y⟩;change List (List C0)at a1;simp only at bw bx f d l y|-;have ca:=f.1;refine⟨λq=>?_,λq=>?_⟩
 case refine_2=>
  have v:b.toNat=R:=ω
  have am:b6.length=t.toNat:=by rw[Y,sU,d.len]
  rw[v]at d l;refine⟨⟨by simp only[qV];omega,by simp only[qV];omega⟩,E,P++ [c.toNat],ω,ω,f,?_,?_,?_,b3,y⟩
  . rw[(ω:(t+1).toNat=t.toNat+1)];exact d.finish
  . rw[(ω:(t+1).toNat=t.toNat+1)];exact l.finish
  . rw[vG,Y];congr 1;show [c]= [Int.ofNat c.toNat];rw[show Int.ofNat c.toNat=c from by show((c.toNat:Nat):Int)=c;omega]
 have v:b.toNat<R:=ω
 have z:∀ {i G:Nat},i<R->G<C->qs (T+T) (E i G):=λg J=>l.qs d.1 ar av (.inr ⟨d.tlt,d.clt,d.pv,d.done⟩) g J
 obtain⟨bz,c0⟩:=f.2 b.toNat v;obtain⟨c2,c3⟩:=f.2 t.toNat F;have V:(a1.getD b.toNat []).getD c.toNat dQ=rc (E b.toNat c.toNat):=c0 c.toNat w;have b8:(a1.getD t.toNat []).getD c.toNat dQ=rc (E t.toNat c.toNat):=c3 c.toNat w;have bu:∀r:C0×Unit,(rv (rc (E t.toNat c.toNat))≠(0:Rat)->r.1=rc (rv (rc (E b.toNat c.toNat))/rv (rc (E t.toNat c.toNat))))->r.1=rc (E b.toNat c.toNat/E t.toNat c.toNat):=λr u=>by
  rw[F6,F6]at u;exact u d.pv
 have b1:qs (4*T) (E b.toNat c.toNat/E t.toNat c.toNat):=D7 (Zy (z v w) (z F w)) ω;generalize bj:E b.toNat c.toNat/E t.toNat c.toNat=j at*;have b4:G4 (rc (E b.toNat c.toNat))/\G4 (rc (E t.toNat c.toNat)):=⟨I0 (z v w) ω,I0 (z F w) ω⟩;have a5:t.toNat≠b.toNat:=ω
 have bo:∀D,Tf R C (sbP E t.toNat b.toNat j C) D->Tf R C (gM E t.toNat b.toNat j) D:=λD h=>ZP h λi G _ J=>by
  unfold sbP gM;by_cases g:i=b.toNat
  . rw[qJ ⟨g,J⟩,qJ g]
  . rw[qG (λn=>g n.1),qG g]
 have bi:∀D,Tf R C (gM E t.toNat b.toNat j) D->t<b+1/\b+1<=(R:Int)/\∃E,Tf R C E D/\mL R C A E t.toNat c.toNat P (b+1).toNat/\Xn R C A E t.toNat (b+1).toNat/\JV R C A E aj:=λD h=>by
  rw[(ω:(b+1).toNat=b.toNat+1)];refine⟨ω,ω,_,h,?_,l.step j ω v,y.step j ω v⟩;rw[<-bj];exact d.step ω v
 rw[V,b8,wv (a:=b+1) ω];have bq:∀r:C0×Unit,r.1=rc j->∀p:Int×List (List C0)×Unit,(0<=p.1/\p.1<=(C:Int)/\Tf R C (sbP E t.toNat b.toNat j p.1.toNat) p.2.1)->p.1<M->(0<=b/\b<(p.2.1.length:Int))/\(0<=p.1/\p.1<((p.2.1.getD b.toNat []).length:Int))/\(0<=t/\t<(p.2.1.length:Int))/\(0<=p.1/\p.1<((p.2.1.getD t.toNat []).length:Int))/\(p.2.1.getD b.toNat []).getD p.1.toNat dQ=rc (E b.toNat p.1.toNat)/\(p.2.1.getD t.toNat []).getD p.1.toNat dQ=rc (E t.toNat p.1.toNat):=λr u p ⟨H,U,o⟩ b0=>by
  have hdC:p.1.toNat<C:=ω
  have aq:=o.1;obtain⟨am,an⟩:=o.2 b.toNat v;obtain⟨ao,ap⟩:=o.2 t.toNat F;refine⟨⟨ω,ω⟩,⟨H,by rw[am];omega⟩,⟨Q,ω⟩,⟨H,by rw[ao];omega⟩,?_,?_⟩
  . have:=an _ hdC;rw[show sbP E t.toNat b.toNat j p.1.toNat b.toNat p.1.toNat=E b.toNat p.1.toNat from by unfold sbP;rw[qG (λn=>sW _ n.2)]]at this;exact this
  . have:=ap _ hdC;rw[show sbP E t.toNat b.toNat j p.1.toNat t.toNat p.1.toNat=E t.toNat p.1.toNat from by unfold sbP;rw[qG (λn=>a5 n.1)]]at this;exact this
 have start:Tf R C (sbP E t.toNat b.toNat j 0) a1:=ZP f λi G _ _=>by unfold sbP;rw[qG (λn=>tY _ n.2)]
 have one:∀r:C0×Unit,(rv (rc (E t.toNat c.toNat))≠(0:Rat)->r.1=rc (rv (rc (E b.toNat c.toNat))/rv (rc (E t.toNat c.toNat))))->r.1=rc j:=bu;refine⟨⟨ω,ω⟩,⟨a0,by rw[bz];omega⟩,⟨Q,ω⟩,⟨a0,by rw[c2];omega⟩,⟨b4,?_⟩,b4,?_⟩;all_goals
  intro r _ u;have u:=one r u;refine⟨λp=>0<=p.1/\p.1<=(C:Int)/\Tf R C (sbP E t.toNat b.toNat j p.1.toNat) p.2.1,λp=>((C:Int)-p.1).toNat,⟨qH _,qD _,start⟩,?_⟩;rintro⟨(I:Int),ba,_⟩ _ au;change List (List C0)at ba;have ay:=bq r u _ au;obtain⟨H,U,o⟩:=au;simp only at H U o ay|-;refine⟨λq=>?_,λq=>?_⟩
  . have b0:I<M:=by first|exact qA q|exact q
    obtain⟨N,W,bb,bc,be,bf⟩:=ay b0;have hdC:I.toNat<C:=ω
    have bn:=z v hdC;have b2:=z F hdC;rw[bf,u];refine⟨N,N,W,bb,bc,⟨I0 b1 ω,I0 b2 ω⟩,?_⟩;intro ce _ a9;rw[F6,F6]at a9;rw[be,a9];refine⟨⟨I0 bn ω,I0 (Ii b1 b2) ω⟩,?_⟩;intro cf _ aa;rw[F6,F6]at aa;rw[aa,wv ω];refine⟨W,⟨ω,ω,?_⟩,ω⟩;rw[(ω:(I+1).toNat=I.toNat+1)];exact B7j o v hdC
  . have cb:¬I<M:=by first|exact qB q|exact q
    have:I.toNat=C:=ω
    rw[this]at o;exact⟨bi _ (bo _ o),ω⟩
def bX:An:= {loop:= [(7,⟨[0,2,3,9,10,11,15,16],[0,1],[(6,false,[.own tQ 46]),(17,false,vI)],[],[]⟩),(3,⟨[0,2,9,10],[0],[(3,false,[.own qh 28]),(11,false,vI)],[],[]⟩)]}
def VG:An:= {plan:= [(4,[0],[],true, .done),(5,[3],[],true, .done)]}
def JB:An:= {loop:= [(4,⟨[0,1],[],[(5,false,vI)],[],[]⟩)],plan:= [(6,[3,7],[],true, .done)]}
def GB(x:List Wf×Unit):Prop:=let n:=(140737488355328:Nat);let h:=(↑(x.1.getD (0:Nat) []).length:Int);let c:=(x.1.length:Int);let b:=(0:Int);let a:=(↑(gx [] x.1 b).length:Int);∃(I:B1o->Prop),∃(j: _->Nat),I ([],b,())/\∀(p:B1o),let m:=(gx [] x.1 p.2.1);let d:=(↑m.length:Int);tQ.sl.sl.wf p.1/\(Ty.int i64).wf p.2.1/\True->I p->(iB (decide (p.2.1<c)) ((b<=p.2.1/\p.2.1<c)/\∃(I_1:AK->Prop),∃(k: _->Nat),I_1 ([],b,())/\∀(o:AK),let g:=(p.1++ [o.1],i64.wrap (p.2.1+1),());tQ.sl.wf o.1/\(Ty.int i64).wf o.2.1/\True->I_1 o->(iB (decide (o.2.1<d)) ((b<=o.2.1/\o.2.1<d)/\True/\M0 λr=>let f:=(o.1++ [r.1],i64.wrap (o.2.1+1),());r.1=ri (gx b m o.2.1)->((o.1.length+ [r.1].length)*(56:Nat)<=n/\o.1.length+ [r.1].length<=9223372036854775807)/\I_1 f/\k f<k o) (((p.1.length+ [o.1].length)*(24:Nat)<=n/\p.1.length+ [o.1].length<=9223372036854775807)/\I g/\j g<j p))) ((b<=b/\b<c)/\((∀(l:List QQ),l∈p.1->Gc K1 l/\(↑l.length:Int)=a)/\b<=a/\a<=(16384:Int)/\p.1.length<=(16384:Nat))/\gE λr=>Zh p.1.length a.toNat (fun(i j:Nat)=>rv ((p.1.getD i []).getD j zr)) r.1->r.1.1=(↑x.1.length:Int)/\r.1.2.1=h/\List.length r.1.2.2=x.1.length/\∀(i:Nat),let k:=(List.getD r.1.2.2 i []);i<x.1.length->U5 k/\(∀(e:D5),e∈List.getD r.1.2.2 i []->b<=e.1/\e.1<h)/\∀(j:Nat),j<(x.1.getD (0:Nat) []).length->A6 k (↑j:Int)=(↑((x.1.getD i []).getD j b):Rat)))
def AV(x:Unit):Prop:=let E:Prop:=(True/\True);let C:=(10:Nat);let B:=(8:Nat);let A:=(0:Nat);let w:=(1:Nat);let t:=(4:Int);let m:=(1:Int);let k:=(3:Int);let h:=(2:Int);let g:=(0:Int);let a:Prop:=([[g,h],[k,g]]≠ []/\ [[g,h],[k,g]].length<=C/\∀(l:Wf),l∈ [[g,h],[k,g]]->l.length=([[g,h],[k,g]].getD A []).length/\l.length<=C/\∀(v:Int),v∈l->v.natAbs<(4294967296:Nat));a/\gE λr=>let z:=r.1.1.toNat;Zh [[g,h],[k,g]].length ([[g,h],[k,g]].getD A []).length (fun(i j:Nat)=>(↑(([[g,h],[k,g]].getD i []).getD j g):Rat)) r.1->(J3 K1 r.1/\(A8 r.1->r.1.1=r.1.2.1->∃(T:Nat),w<=T/\Hl z z (el r.1) T/\(T+T)*(Int.toNat r.1.1+4)+B<=K1))/\∀(I:QQ×Int×Unit),let y:Prop:=(I.2.1=g);let c:Prop:=(decide y=true->True);IU I.1/\O0 I.2.1/\True->(¬A8 r.1->I.1=dQ/\I.2.1=m)/\(A8 r.1->(r.1.1≠r.1.2.1->I.1=dQ/\I.2.1=t)/\(r.1.1=r.1.2.1->I.1=rc (det z (el r.1))/\I.2.1=g))->([[g,m,h,k],[g,h,t,m]]≠ []/\ [[g,m,h,k],[g,h,t,m]].length<=C/\∀(l:Wf),l∈ [[g,m,h,k],[g,h,t,m]]->l.length=([[g,m,h,k],[g,h,t,m]].getD A []).length/\l.length<=C/\∀(v:Int),v∈l->v.natAbs<(4294967296:Nat))/\gE λJ=>Zh [[g,m,h,k],[g,h,t,m]].length ([[g,m,h,k],[g,h,t,m]].getD A []).length (fun(i j:Nat)=>(↑(([[g,m,h,k],[g,h,t,m]].getD i []).getD j g):Rat)) J.1->(∃(s:Nat),w<=s/\J3 s J.1/\s<=K1/\(A8 J.1->B*tB s (Int.toNat J.1.2.1+Int.toNat J.1.1) J.1.1.toNat+B<=K1))/\∀(K:ZU),let u:=(decide (K.2.1=g));bO K.1/\O0 K.2.1/\True->(¬A8 J.1->K.1= []/\K.2.1=m)/\(A8 J.1->B9g J.1 K.1/\K.2.1=g)->a/\gE λG=>let n:=G.1.1.toNat;Zh [[g,h],[k,g]].length ([[g,h],[k,g]].getD A []).length (fun(i j:Nat)=>(↑(([[g,h],[k,g]].getD i []).getD j g):Rat)) G.1->(J3 K1 G.1/\(A8 G.1->G.1.1=G.1.2.1->∃(T:Nat),w<=T/\B*T+B<=K1/\Hl n n (el G.1) T))/\∀(F:B7p),let p:=F.1.1.length;let D:=(↑p:Int);(bO F.1.1/\bO F.1.2.1/\WfM F.1.2.2.1/\O0 F.1.2.2.2.1/\O0 F.1.2.2.2.2.1/\DY F.1.2.2.2.2.2)/\O0 F.2.1/\True->(¬A8 G.1->F.1=UX/\F.2.1=m)/\(A8 G.1->(G.1.1≠G.1.2.1->F.1=UX/\F.2.1=t)/\(G.1.1=G.1.2.1->(¬nonsing n (el G.1)->F.1=UX/\F.2.1=6)/\(nonsing n (el G.1)->H5 F.1 G.1.1/\F.2.1=g/\(∀(v:List EE),v∈F.1.2.2.1.2.2->U5 v)/\(∀(v:List EE),v∈F.1.2.2.2.2.2->U5 v)/\(∀(T:Nat),w<=T->Hl n n (el G.1) T->∀(i j:Nat),i<Int.toNat G.1.1->qs (T+T) (el F.1.2.2.1 i j)/\qs (T+T) (el F.1.2.2.2 i j))/\∀(i j:Nat),i<Int.toNat G.1.1->j<Int.toNat G.1.1->Qw F.1 n i j=el G.1 (ix F.1.1 i) (ix F.1.2.1 j))))->True/\M0 λL=>L.1=ri t->True/\M0 λM=>M.1=ri (9:Int)->(List.length F.1.1<=16384/\J3 K1 F.1.2.2.1/\J3 K1 F.1.2.2.2/\(H5 F.1 D-> [L.1,M.1].length=List.length F.1.1->∃(s:Nat),∃(T:Nat),∃(Y:Nat),w<=s/\w<=T/\T<=Y/\J3 s F.1.2.2.1/\J3 s F.1.2.2.2/\Gc T [L.1,M.1]/\cV Y F.1 [L.1,M.1]/\Y+List.length F.1.1*(s+Y+w)+s<=K1))/\∀(H:AK),let o:=(decide (H.2.1=g));let d:Prop:=(∀(e:QQ),e∈H.1->e=rc (rv e));IT H.1/\O0 H.2.1/\True->(¬H5 F.1 D->H.1= []/\H.2.1=m)/\(H5 F.1 D->([L.1,M.1].length≠List.length F.1.1->H.1= []/\H.2.1=t)/\([L.1,M.1].length=List.length F.1.1->H.2.1=g/\H.1.length=List.length F.1.1/\d/\∀(i:Nat),i<List.length F.1.1->(A7 p fun(j:Nat)=>Qw F.1 p i j*rv (H.1.getD (ix F.1.2.1 j) zr))=rv ([L.1,M.1].getD (ix F.1.1 i) zr)))->c/\∀(P:D4),(decide y=true->(IU P.1/\True)/\P.1=ri (-6:Int))->c/\∀(Q:R8),let q:=(G6 (decide y) Q.1 false);(decide y=true->E/\Q.1=decide (I.1=P.1))->(G6 q u false=true->True)/\∀(r:R8),let f:=(G6 (G6 (G6 q u false) r.1 false) (decide (F.2.1=g)) false);let b:Prop:=(G6 f o false=true->True);(G6 q u false=true->E/\r.1=decide (K.1= [m,k]))->b/\∀(N:D4),(G6 f o false=true->(IU N.1/\True)/\N.1=ri k)->b/\∀(O:D4),(G6 f o false=true->(IU O.1/\True)/\O.1=ri h)->(G6 f o false=true->(∀(e:QQ),e∈H.1->G4 e)/\∀(e:QQ),e∈ [N.1,O.1]->G4 e)/\∀(R:R8),(G6 f o false=true->E/\R.1=decide (H.1= [N.1,O.1]/\d))->G6 (G6 f o false) R.1 false=true
def Oz(x:Gd):Prop:=let f:Prop:=(x.1=x.2.1);let e:=(0:Int);let b:=(x.2.1.length:Int);let a:=(x.1.length:Int);(iB (decide (a≠b)) (false=decide f) (∃(I:E3->Prop),∃(g: _->Nat),I (e,())/\∀(p:E3),let d:=(i64.wrap (p.1+1),());let c:Prop:=(gx e x.1 p.1≠gx e x.2.1 p.1);(Ty.int i64).wf p.1/\True->I p->(iB (decide (p.1<a)) ((e<=p.1/\p.1<a)/\(e<=p.1/\p.1<b)/\(iB (decide c) (false=decide f) (I d/\g d<g p))) (true=decide f))))
def AQ:sn Y8 Oz:=λx k _=>by
 obtain⟨a,b,_⟩:=x;have l:a.length<=9223372036854775807:=k.1.1;change Wf at a b;simp only[Oz,iB];refine⟨λh=>?_,λh=>?_⟩
 . have h:=qA h;exact(rB λe=>h (by rw[e])).symm
 . have n:a.length=b.length:=by have:=qB h;omega
   refine⟨λp=>0<=p.1/\p.1<=(a.length:Int)/\a.take p.1.toNat=b.take p.1.toNat,λp=>((a.length:Int)-p.1).toNat,⟨qH _,qD _,by simp⟩,?_⟩;rintro⟨(i:Int),_⟩ _ ⟨f,j,g⟩;simp only at f j g|-;refine⟨λh=>?_,λh=>?_⟩
   . have h:=qA h;refine⟨⟨f,h⟩,⟨f,ω⟩,λc=>?_,λc=>?_⟩
     . have c:=qA c;exact(rB λe=>c (by rw[e])).symm
     . have c:gx 0 a i=gx 0 b i:=by simpa using c
       rw[wv ω];refine⟨⟨ω,ω,?_⟩,ω⟩;rw[(ω:(i+1).toNat=i.toNat+1),rU,rU,J1 (d:=(0:Int)) f h,J1 (d:=(0:Int)) f ω,g,c]
   . have h:=qB h;rw[qS ω,qS ω]at g;exact(rD g).symm
def GT:An:= {loop:= [(7,⟨[0,3],[],[(4,false,vI)],[],[]⟩),(2,⟨[0],[],[(3,false,vI)],[],[]⟩)],plan:= [(9,[3,7],[],true, .done)]}
def Nl(x:Ql):Prop:=let c:=(↑x.1.length:Int);let b:=(0:Int);let a:=(x.1.length:Int);∃(I:E3->Prop),∃(g: _->Nat),I (b,())/\∀(p:E3),let d:=(decide (a<=gx b x.1 p.1));let f:Prop:=(gx b x.1 p.1<b);let e:=(i64.wrap (p.1+1),());(Ty.int i64).wf p.1/\True->I p->(iB (decide (p.1<a)) ((b<=p.1/\p.1<a)/\(decide f=false->b<=p.1/\p.1<a)/\(iB (G6 (decide f) true d) (false=decide (G3 x.1 c)) (∃(I_1:E3->Prop),∃(h: _->Nat),I_1 (b,())/\∀(i:E3),let j:Prop:=(gx b x.1 i.1=gx b x.1 p.1);let d:=(i64.wrap (i.1+1),());(Ty.int i64).wf i.1/\True->I_1 i->(iB (decide (i.1<p.1)) ((b<=i.1/\i.1<a)/\(b<=p.1/\p.1<a)/\(iB (decide j) (false=decide (G3 x.1 c)) (I_1 d/\h d<h i))) (I e/\g e<g p))))) (true=decide (G3 x.1 c)))
def C9l {m:O1} {i j:Nat} (a:i<m.1.toNat) (b:j<m.2.1.toNat):((Qv m).getD i []).getD j zr=rc (el m i j)/\((Qv m).getD i []).length=m.2.1.toNat:=by
 have e:(Qv m).getD i []=dl m.2.1 (A6 (m.2.2.getD i [])):=by
  unfold Qv;rw[qF,vB,wN a];rfl
 rw[e];exact⟨UG zr ω,WI _ _⟩
def B8x {m:O1} {i:Nat} (a:i<m.1.toNat):((Qv m).getD i []).length=m.2.1.toNat:=by
 have e:(Qv m).getD i []=dl m.2.1 (A6 (m.2.2.getD i [])):=by
  unfold Qv;rw[qF,vB,wN a];rfl
 rw[e];exact WI _ _
def A9z {R C:Nat} {A A':Nat->Nat->Rat} (a:∀i j,i<R->j<C->A i j=A' i j) (x:Nat->Rat):ker R C A x↔ker R C A' x:=by
 unfold ker;refine forall_congr' λi=>forall_congr' λb=>?_
 rw[A3 λj c=>by rw[a i j b c]]
def Yj:sn X3 Nl:=λx _ n=>by
 obtain⟨(l:Wf),_⟩:=x;have H:l.length<=100000:=n;have D:∀ {i:Int},0<=i->i<(l.length:Int)->gx 0 l i∈l:=λh0 c=>G7 h0 c
 simp only[Nl,iB];refine⟨λp=>0<=p.1/\p.1<=(l.length:Int)/\(∀k:Nat,(k:Int)<p.1->0<=l.getD k 0/\l.getD k 0<(l.length:Int))/\∀a b:Nat,a<b->(b:Int)<p.1->l.getD a 0≠l.getD b 0,λp=>((l.length:Int)-p.1).toNat,⟨qH _,qD _,λk h=>ω,λa b _ u=>ω⟩,?_⟩;rintro⟨(i:Int),_⟩ _ ⟨g,F,w,v⟩;simp only at g F w v|-;refine⟨λd=>?_,λd=>?_⟩
 . have d:=qA d;refine⟨⟨g,d⟩,λ_=>⟨g,d⟩,λs=>?_,λs=>?_⟩
   . rw[K8,uP,rQ,rQ]at s;refine(rB λn=>?_).symm;have:=n.2.1 _ (D g d);omega
   rw[K8,rE,rO,rO]at s;refine⟨λp=>0<=p.1/\p.1<=i/\∀a:Nat,(a:Int)<p.1->l.getD a 0≠gx 0 l i,λp=>(i-p.1).toNat,⟨qH _,g,λa o=>ω⟩,?_⟩;rintro⟨(k:Int),_⟩ _ ⟨z,G,h⟩;simp only at z G h|-;refine⟨λj=>?_,λj=>?_⟩
   . have j:=qA j;refine⟨⟨z,ω⟩,⟨g,d⟩,λf=>?_,λf=>?_⟩
     . have f:=qA f;refine(rB λn=>?_).symm;have c:k.toNat<l.length:=ω
       have y:i.toNat<l.length:=ω
       have B:=tP.1 n.2.2 k.toNat i.toNat c y ω;refine B ?_;have A:gx 0 l k=l[k.toNat]:=J7 l 0 c;have r:gx 0 l i=l[i.toNat]:=J7 l 0 y;rw[<-A, <-r];exact f
     . have f:=qB f;rw[wv ω];refine⟨⟨ω,ω,λa o=>?_⟩,ω⟩;by_cases c:(a:Int)<k
       . exact h a c
       . have:a=k.toNat:=ω
         rw[this];exact f
   . have j:=qB j;rw[wv ω];refine⟨⟨ω,ω,λa o=>?_,λa b t u=>?_⟩,ω⟩
     . by_cases c:(a:Int)<i
       . exact w a c
       . have e:a=i.toNat:=ω
         have r:gx 0 l i=l.getD a 0:=by rw[e];rfl
         rw[<-r];omega
     . by_cases c:(b:Int)<i
       . exact v a b t c
       . have e:b=i.toNat:=ω
         rw[e];exact h a ω
 . have d:=qB d;refine(rD ⟨rfl,λI E=>?_,tP.2 λa b o u t=>?_⟩).symm
   . obtain⟨k,h,rfl⟩:=N4 0 E;exact w k ω
   . have:=v a b t ω;rwa[J7 l 0 o,J7 l 0 u]at this
noncomputable def TL:H0:= [(54,Da)]
def SG:An:= {loop:= [(3,⟨[1,3],[0,1],[(4,false,vI)],[],[(2, .rows tQ 28 46)]⟩)],plan:= [(5,[3,6,8],[14],true, .done)]}
def iT:An:= {loop:= [(4,⟨[1,6,7],[],[(8,false,vI)],[],[(2, .rows tQ 28 46)]⟩),(16,⟨[6,9,12,13,14],[3],[(15,false,vI)],[(4,46,[.val .bool, .val qa, .val qa])],[]⟩),(12,⟨[6,9,12],[],[(13,false,vI)],[],[(3, .row tQ 46)]⟩)],plan:= [(6,[5,9],[12,14],false, .done),(18,[0,4,7,11],[14],true, .done),(19,[2,6,9],[12],true, .done)]}
noncomputable def lO:H0:= [(48,Io),(66,Bv),(67,Le),(68,Ld),(69,Ip),(21,Dm (Wh ⟨prog,lY⟩ [(19,TL,SG)] f21.results.toList (f21.body.getD .skip) f21.ntmps))]
def MW(x:C1r):Prop:=let F:=(281474976710656:Int);let l:=(1:Int);let B:=(i64.wrap (x.1.1+l));let h:=(0:Int);let f:Prop:=(x.1.1<=9223372036854775807);let d:(Dv)->Prop:=(λp=>h<=p.1/\p.1<(p.2.1.length:Int));(h<=x.1.1/\x.1.1<=x.1.1/\(↑(24:Nat):Int)*x.1.1<=F/\f)/\∃(I:Dv->Prop),∃(a: _->Nat),I (h,List.replicate x.1.1.toNat [],())/\∀(p:Dv),let t:=(gx [] x.1.2.2 p.1);(Ty.int i64).wf p.1/\Qy p.2.1/\True->I p->(iB (decide (p.1<x.1.1)) ((h<=p.1/\p.1<(x.1.2.2.length:Int))/\(NE K1 t/\F7 t x.1.2.1/\h<=x.1.2.1/\x.1.2.1<=16384)/\∀(r:B1p),let o:=(i64.wrap (p.1+l),List.set p.2.1 p.1.toNat r.1,());IT r.1/\True/\True->r.1=dl x.1.2.1 (A6 t)/\r.2.1=true->(d p)/\I o/\a o<a p) (∃(I:Dv->Prop),∃(a: _->Nat),I (h,p.2.1,())/\∀(p:Dv),let G:=(gx dQ x.2.1 p.1);let m:=p.1.toNat;let E:=(List.getD p.2.1 m []);(Ty.int i64).wf p.1/\Qy p.2.1/\True->I p->(iB (decide (p.1<x.1.1)) ((d p)/\(h<=p.1/\p.1<(x.2.1.length:Int))/\G4 G/\M0 λr=>let w:=(List.getD p.2.1 m []++ [r.1]);let y:=(i64.wrap (p.1+l),List.set p.2.1 m w,());r.1=rc (rv G)->((E.length+ [r.1].length)*(56:Nat)<=(140737488355328:Nat)/\E.length+ [r.1].length<=9223372036854775807)/\(d p)/\Int.toNat p.1=Int.toNat p.1/\I y/\a y<a p) (eT B p.2.1/\∀(r:List (List QQ)×Wf×Int×Unit),let C:=(r.2.1.length:Int);let c:Prop:=(C<x.1.1);let b:Prop:=(gx h r.2.1 (i64.wrap (x.1.1-l))≠i64.wrap (x.1.1-l));let u:=(G6 (decide (h<x.1.1)) (decide b) false);Qy r.1/\bO r.2.1/\O0 r.2.2.1/\True->C6b B.toNat p.2.1 r.1 r.2.1 r.2.2.1->(decide (h<x.1.1)=true/\decide c=false->h<=i64.wrap (x.1.1-l)/\i64.wrap (x.1.1-l)<C)/\(iB (G6 (decide c) true u) ((nonsing x.1.1.toNat (el x.1)->(false=true/\(↑(0:Nat):Int)=x.1.1/\(∀(e:QQ),e∈ []->e=rc (rv e))/\∀(i:Nat),i<x.1.1.toNat->(A7 x.1.1.toNat fun(j:Nat)=>el x.1 i j*Ij [] j)=Ij x.2.1 i)/\∀(T:Nat),Hl x.1.1.toNat (x.1.1.toNat+(1:Nat)) (U4 x.1.1.toNat (el x.1) (Ij x.2.1)) T->Gc (T+T) [])/\(¬nonsing x.1.1.toNat (el x.1)->false=false)) ((h<=x.1.1/\x.1.1<=x.1.1/\(↑(56:Nat):Int)*x.1.1<=F/\f)/\∃(I:Tk->Prop),∃(a: _->Nat),I (i64.wrap (x.1.1-l),List.replicate x.1.1.toNat dQ,())/\∀(p:Tk),let s:=(p.2.1.length:Int);let g:=(gx [] r.1 p.1);let D:=(gx dQ g p.1);let A:=(gx dQ g x.1.1);let z:=(↑g.length:Int);let d:Prop:=(h<=p.1/\p.1<(r.1.length:Int));(Ty.int i64).wf p.1/\IT p.2.1/\True->I p->(iB (decide (h<=p.1)) (d/\(h<=x.1.1/\x.1.1<z)/\∃(I_1:TO->Prop),∃(f: _->Nat),I_1 (i64.wrap (p.1+l),A.1.1,A.1.2,A.2,())/\∀(H:TO),let v:=(List.getD p.2.1 H.1.toNat dQ);let k:=((H.2.1,H.2.2.1),H.2.2.2.1);(Ty.int i64).wf H.1/\Ty.bool.wf H.2.1/\(Ty.int u32).sl.wf H.2.2.1/\(Ty.int u32).sl.wf H.2.2.2.1/\True->I_1 H->(iB (decide (H.1<x.1.1)) (d/\(h<=H.1/\H.1<z)/\(h<=H.1/\H.1<s)/\(G4 (gx dQ g H.1)/\G4 v)/\M0 λJ=>J.1=rc (rv (gx dQ g H.1)*rv v)->(G4 k/\G4 J.1)/\M0 λr=>let q:=(i64.wrap (H.1+l),r.1.1.1,r.1.1.2,r.1.2,());r.1=rc (rv k-rv J.1)->I_1 q/\f q<f H) (d/\(h<=p.1/\p.1<z)/\(G4 k/\G4 D)/\M0 λJ=>let n:=(i64.wrap (p.1-l),List.set p.2.1 p.1.toNat J.1,());(rv D≠(0:Rat)->J.1=rc (rv k/rv D))->(h<=p.1/\p.1<s)/\I n/\a n<a p))) ((nonsing x.1.1.toNat (el x.1)->(true=true/\s=x.1.1/\(∀(e:QQ),e∈p.2.1->e=rc (rv e))/\∀(i:Nat),i<x.1.1.toNat->(A7 x.1.1.toNat fun(j:Nat)=>el x.1 i j*Ij p.2.1 j)=Ij x.2.1 i)/\∀(T:Nat),Hl x.1.1.toNat (x.1.1.toNat+(1:Nat)) (U4 x.1.1.toNat (el x.1) (Ij x.2.1)) T->Gc (T+T) p.2.1)/\(¬nonsing x.1.1.toNat (el x.1)->true=false)))))))))
def We.congr {R C t c:Nat} {A A' E:Nat->Nat->Rat} {P:List Nat} (h:We R C A E t c P) (a:∀i j,i<R->j<C->A i j=A' i j):We R C A' E t c P:=
 ⟨h.len,h.tle,h.cle,h.asc,h.lt,h.piv,h.left,h.below,λx=>(h.sol x).trans (A9z a x)⟩
def PG {n i:Nat} {E x:Nat->Rat} (b:i<n) (a:∀m,m<i->E m=0):A7 n (λm=>E m*x m)=A7 n (λm=>if i<m then E m*x m else 0)+E i*x i:=by
 rw[A3 (g:=λm=>(if i<m then E m*x m else 0)+if m=i then E i*x i else 0) λm _=>by
  rcases g0i i m with h1|h1|h1
  . rw[qJ h1,qG ω,rJ]
  . subst h1;rw[qG (sW _),qJ rfl,sM]
  . rw[qG ω,qG ω,a m h1,rS,sM],S9,F8 b λm _ c=>qG c,qJ rfl]
def bkV (E x:Nat->Rat) (i:Nat) (c:Rat) (k:Nat):Rat:=c-A7 k λm=>if i<m then E m*x m else 0
def B2s {E x:Nat->Rat} {i:Nat} {c:Rat} {k:Nat} (h:i<k):bkV E x i c (k+1)=bkV E x i c k-E k*x k:=by
 unfold bkV;rw[A7,qJ h];grind
def A9b {E x:Nat->Rat} {i:Nat} {c:Rat} :bkV E x i c (i+1)=c:=by
 unfold bkV;rw[P8 λm a=>qG ω];grind
def C3c {E x:Nat->Rat} {i n:Nat} {c:Rat} {s:Nat} (f:1<=s) (b:qs s c) (a:∀m,m<n->qs s (E m)) (d:∀m,i<m->m<n->qs s (x m)):∀k,k<=n->qs (s+(k*(s+s+1)+1)+1) (bkV E x i c k):=λk f=>by
 unfold bkV;exact D7 (lA b (lJ (k:=s+s) λm b=>by
  split
  . exact Ii (a m ω) (d m ‹_› ω)
  . exact K2 ω)) ω
def C7b (m:O1) (b:List C0) (p:Int×List (List C0)×Unit):Prop:=0<=p.1/\p.1<=m.1/\p.2.1.length=m.1.toNat/\∀i,i<m.1.toNat->p.2.1.getD i []=(Qv m).getD i []++(if(i:Int)<p.1 then [rc (Ij b i)]else [])
def C9h (n T:Nat) (E:Nat->Nat->Rat) (p:Int×List C0×Unit):Prop:= -1<=p.1/\p.1<(n:Int)/\p.2.1.length=n/\∀j:Nat,p.1<(j:Int)->j<n->p.2.1.getD j zr=rc (Ij p.2.1 j)/\qs (T+T) (Ij p.2.1 j)/\A7 n (λm=>E j m*Ij p.2.1 m)=E j n
def inI (n i:Nat) (E x:Nat->Rat) (c:Rat) (p:Int×Bool×Wf×Wf×Unit):Prop:=(i:Int)+1<=p.1/\p.1<=(n:Int)/\((p.2.1,p.2.2.1),p.2.2.2.1)=rc (bkV E x i c p.1.toNat)
def TZ:sn Jq MW:=λx _ bn=>by
 obtain⟨⟨(R:Int),(C:Int),D⟩,b,_⟩:=x;change List (List D5)at D;change List C0 at b;obtain⟨a8,ad,aw,bj,bq,bs,T,au,ar,X⟩:=bn;have ad:R=C:=ad;subst ad;obtain⟨a2,bz,bb,bc,_,_⟩:=id a8;have cf:(D.length:Int)=R:=a8.2.2.2.2.1;have c0:∀w∈D,F7 w R:=a8.2.2.2.2.2;simp only at a2 bz bb bc aw bj ar X;obtain⟨n,rfl⟩:∃n:Nat,R=(n:Int):=⟨R.toNat,ω⟩;simp only[qK]at ar X;have cb:n<=10000:=ω
 have aw:b.length=n:=ω
 have c6:16*T+24<=K1:=by
  have:=rC (4*T+4) (ω:4<=n+4);omega
 have c7:n*(4*T+1)+4*T+8<=K1:=by
  have a3:(n+4)*(4*T+4)=n*(4*T+1)+n*3+4*(4*T+4):=by
   rw[vC, <-sS]
  omega
 simp only[MW,iB,M0,qK];refine⟨⟨a2,qH _,ω,ω⟩,λp=>0<=p.1/\p.1<=(n:Int)/\fill n p.1.toNat (λi=>dl (n:Int) (A6 (D.getD i []))) p.2.1,λp=>((n:Int)-p.1).toNat,⟨qH _,a2,A6u rG⟩,?_⟩;rintro⟨(k:Int),rows,_⟩ _ ⟨V,bw,Y⟩;change List (List C0)at rows;simp only at V bw Y|-;have bm:=Y.1;refine⟨λl=>?_,λl=>?_⟩
 . have l:=qA l;have ae:k<(D.length:Int):=ω
   have b5:=G7 (d:=([]:List D5)) V ae;refine⟨⟨V,ae⟩,⟨ZB a8 bq b5,c0 _ b5,bb,bc⟩,?_⟩;rintro⟨cd,c4,_⟩ _ ⟨G,_⟩;simp only at G|-;rw[wv ω];refine⟨⟨V,ω⟩,⟨ω,ω,KD Y V ω ?_⟩,ω⟩;rw[G,Hz V ae]
 have l:=qB l;have a1:rows=Qv ((n:Int),(n:Int),D):=KC Y ω;refine⟨C7b ((n:Int),(n:Int),D) b,λp=>((n:Int)-p.1).toNat,⟨qH _,a2,bm,λi f=>?_⟩,?_⟩
 . simp only;rw[a1,qG ω,vS]
 rintro⟨(i:Int),W,_⟩ _ ⟨O,am,tl,J⟩;change List (List C0)at W;simp only[qK]at O am tl J;simp only;refine⟨λf=>?_,λf=>?_⟩
 . have f:=qA f;have b0:i.toNat<n:=ω
   have a3:gx dQ b i=b.getD i.toNat zr:=J4 O (ω:i<(b.length:Int));have bk:b.getD i.toNat zr∈b:=C9 ω;rw[a3];refine⟨⟨O,ω⟩,⟨O,ω⟩,K9 (bs _ bk) δ,?_⟩;rintro⟨(F:C0),_⟩ _ t;simp only at t|-;have aj:=J _ b0;rw[qG ω,vS]at aj;have b2:(W.getD i.toNat []).length=n:=by rw[aj];exact B8x (m:=((n:Int),(n:Int),D)) b0
   rw[wv ω];refine⟨⟨by rw[b2,qV];omega,by rw[b2,qV];omega⟩,⟨O,ω⟩,by trivial,⟨by simp only;omega,by simp only;omega,by simp only;rw[qO];exact tl,λj h=>?_⟩,ω⟩;simp only;by_cases b1:j=i.toNat
   . subst b1;rw[B7 ω,aj,qJ ω,t];rfl
   . rw[D3 b1,J j h];by_cases b4:(j:Int)<i
     . rw[qJ b4,qJ ω]
     . rw[qG b4,qG ω]
 have f:=qB f;have J:∀j,j<n->W.getD j []=(Qv ((n:Int),(n:Int),D)).getD j []++ [rc (Ij b j)]:=λj h=>by rw[J j h,qJ ω]
 clear Y a1;generalize bh:el ((n:Int),(n:Int),D)=A at*;have b3:∀i j,i<n->j<n->(W.getD i []).getD j zr=rc (A i j):=λi j f h=>by
  rw[J i f,qF,uX (by rw[B8x (m:=((n:Int),(n:Int),D)) f];exact h), <-qF, <-bh];exact(C9l (m:=((n:Int),(n:Int),D)) f h).1
 have az:∀i,i<n->(W.getD i []).getD n zr=rc (Ij b i):=λi f=>by
  have G:=B8x (m:=((n:Int),(n:Int),D)) f;simp only[qK]at G;rw[J i f,qF,tL (by rw[G];exact qP _),G,xS];rfl
 have a6:∀i j,i<n->j<n+1->aF W i j=U4 n A (Ij b) i j:=λi j f h=>by
  unfold aF U4;by_cases I:j<n
  . rw[qJ I,b3 i j f I,F6]
  . rw[qG I,(ω:j=n),az i f,F6]
 rw[wv ω,(ω:((n:Int)+1).toNat=n+1)];refine⟨⟨ω,ω,ω,⟨rfl,λi f=>⟨?_,λj h=>?_⟩⟩,T,au,ω,?_⟩,?_⟩
 . rw[J i ω,rR,B8x (m:=((n:Int),(n:Int),D)) (by simp only[qK];omega)];simp only[qK,qV];omega
 . rw[a6 i j ω ω];unfold U4;by_cases I:j<n
   . rw[qJ I];exact b3 i j ω I
   . rw[qG I,(ω:j=n)];exact az i ω
 . rw[tl,(ω:((n:Int)+1).toNat=n+1)];exact DC X λi j f h=>(a6 i j f h).symm
 rintro⟨e,p,s,_⟩ _ ⟨E,ce,c,P,a4,r,a9,aa,_,_,aq⟩;change List (List C0)at e;change Wf at p;change Int at s;simp only[tl]at a4 r a9 aa aq|-;have r:=r.congr (A':=U4 n A (Ij b)) a6;have a0:=aq T au (DC X λi j f h=>(a6 i j f h).symm);have cc:p.length=P.length:=by rw[aa,sU]
 have c8:P.length<=n:=by rw[r.len];exact r.tle
 have ak:0<n->i64.wrap ((n:Int)-1)=((n-1:Nat):Int):=λb6=>by rw[wv ω];omega
 have b7:∀j,j<P.length->p.getD j 0=(P.getD j 0:Int):=λj h=>by
  rw[aa,qF,vB,qF,qQ h];rfl
 have ax:G6 (decide ((p.length:Int)<(n:Int))) true (G6 (decide (0<(n:Int))) (decide (gx 0 p (i64.wrap ((n:Int)-1))≠i64.wrap ((n:Int)-1))) false)=true↔¬nonsing n A:=by
  rw[K8,J0,uP,qC,rQ,rQ,rQ];constructor
  . rintro u H;obtain⟨c5,bg⟩:=A6y r a9 H;have G:=r.len;rcases u with u| ⟨c9,bl⟩
    . omega
    . refine bl ?_;rw[ak ω,J4 (qD _) ω,qK,b7 _ ω,bg _ ω]
  . intro H;refine qN λu=>H (A9s r ?_ ?_)
    . have G:=r.len;have:¬(p.length:Int)<(n:Int):=λl=>u (.inl l)
      omega
    . have G:¬(p.length:Int)<(n:Int):=λl=>u (.inl l)
      by_cases b6:n=0
      . exact .inl b6
      . refine .inr ?_;have:gx 0 p (i64.wrap ((n:Int)-1))=i64.wrap ((n:Int)-1):=qN λl=>u (.inr ⟨ω,l⟩)
        rw[ak ω,J4 (qD _) ω,qK,b7 _ ω]at this;exact wV this
 refine⟨fun⟨ao,ap⟩=>?_,λu=>?_,λu=>?_⟩
 . have ao:=qA ao;have ap:=qB ap;rw[ak ω];omega
 . have H:=ax.1 u;exact⟨λl=>absurd l H,λ_=>by trivial⟩
 have H:nonsing n A:=g1u λl=>by rw[ax.2 l]at u;cases u
 obtain⟨ba,ac⟩:=A6y r a9 H;have ay:det n A≠0:=B3k λk hk ⟨y,y1,y2,_⟩=>y2 (H y y1 k hk)
 have ca:e.length=n:=a4.1;have a5:∀i m,m<i->i<n->E i m=0:=λi m o f=>r.left i ω m (by rw[ac i f];exact o)
 have ab:∀i,i<n->E i i≠0:=λi f=>B8t r ba ac f
 have ai:∀x:Nat->Rat,(∀j,j<n->A7 n (λm=>E j m*x m)=E j n)->∀i,i<n->A7 n (λj=>A i j*x j)=Ij b i:=λx hx=>A2x r ba ac λi f=>by
  have:=hx i f;rw[PG f λm o=>a5 i m o f]at this;grind
 refine⟨⟨a2,qH _,ω,ω⟩,C9h n T E,λp=>(p.1+1).toNat,⟨?_,?_,rG,λj h I=>?_⟩,?_⟩
 . simp only;rw[wv ω];omega
 . simp only;rw[wv ω];omega
 . simp only at h;rw[wv ω]at h;omega
 rintro⟨(i:Int),(y:List C0),_⟩ _ ⟨O,am,an,B⟩;simp only at O am an B|-;refine⟨λf=>?_,λf=>?_⟩
 . have f:=qA f;obtain⟨q,rfl⟩:∃q:Nat,i=(q:Int):=⟨i.toNat,ω⟩;have M:q<n:=ω
   obtain⟨cg,c2⟩:=a4.2 q M;have bf:gx [] e (q:Int)=e.getD q []:=by rw[J4 (d:=([]:List C0)) (qD q) (ω:(q:Int)<(e.length:Int)),qK]
   rw[bf];generalize e.getD q []=row at*;have ag:∀j:Nat,j<n+1->gx dQ row (j:Int)=rc (E q j):=λj h=>by
    rw[J4 (d:=dQ) (qD j) ω,qK];exact c2 j h
   have af:(q:Int)<(e.length:Int):=ω
   rw[ag n ω];have bo:=C3c (E:=E q) (x:=Ij y) (i:=q) (n:=n) (c:=E q n) (s:=T+T) ω (a0 q n M ω) (λm o=>a0 q m M ω) λm a4 r=>(B m ω r).2.1
   have b8:∀k,k<=n->qs K1 (bkV (E q) (Ij y) q (E q n) k):=λk hk=>D7 (bo k hk) (by
    have:=rC (T+T+(T+T)+1) hk;rw[(ω:T+T+(T+T)+1=4*T+1)]at this|-;omega)
   rw[wv (a:=(q:Int)+1) ω];refine⟨⟨qD _,af⟩,⟨qD _,ω⟩,inI n q (E q) (Ij y) (E q n),λp=>((n:Int)-p.1).toNat,⟨qH _,by simp only;omega,?_⟩,?_⟩
   . simp only;rw[(ω:((q:Int)+1).toNat=q+1),A9b]
   rintro⟨(j:Int),ch,ci,cj,_⟩ _ ⟨bu,bv,N⟩;simp only at bu bv N|-;obtain⟨k,rfl⟩:∃k:Nat,j=(k:Int):=⟨j.toNat,ω⟩;simp only[qK]at N|-;rw[N];refine⟨λh=>?_,λh=>?_⟩
   . have h:=qA h;have Z:k<n:=ω
     rw[ag k ω];have bt:y.getD k dQ=rc (Ij y k):=(B k ω Z).1;rw[bt];refine⟨⟨qD _,af⟩,⟨qD _,ω⟩,⟨qD _,ω⟩,⟨I0 (D7 (a0 q k M ω) (ω:T+T<=K1)) δ,I0 (D7 (B k ω Z).2.1 (ω:T+T<=K1)) δ⟩,?_⟩;rintro⟨(bx:C0),_⟩ _ a7;simp only at a7|-;rw[F6,F6]at a7;have bp:qs K1 (E q k*Ij y k):=D7 (Ii (a0 q k M ω) (B k ω Z).2.1) ω;refine⟨⟨I0 (b8 k ω) δ,by rw[a7];exact I0 bp δ⟩,?_⟩;rintro⟨(F:C0),_⟩ _ t;simp only at t|-;rw[wv ω];refine⟨⟨by simp only;omega,by simp only;omega,?_⟩,ω⟩;simp only;rw[t,a7,F6,F6,(ω:((k:Int)+1).toNat=k+1),B2s ω]
   . have h:=qB h;have Z:k=n:=ω
     subst Z;rw[ag q ω,F6];refine⟨⟨qD _,af⟩,⟨qD _,ω⟩,⟨I0 (b8 k (qP _)) δ,I0 (D7 (a0 q q M ω) (ω:T+T<=K1)) δ⟩,?_⟩;rintro⟨(F:C0),_⟩ _ t;simp only at t|-;have t:=t (ab q M);rw[F6]at t;rw[wv ω];have ah:∀m,m≠q->Ij (y.set q F) m=Ij y m:=λm o=>by unfold Ij;rw[D3 o]
     have b9:Ij (y.set q F) q=bkV (E q) (Ij y) q (E q k) k/E q q:=by show rv ((y.set q F).getD q zr)= _;rw[B7 ω,t,F6]
     have a1:∀j,q<=j->j<k->A7 k (λm=>E j m*Ij (y.set q F) m)=E j k:=λj h v=>by
      rw[PG v λm o=>a5 j m o v,A3 (g:=λm=>if j<m then E j m*Ij y m else 0) λm _=>by
       by_cases o:j<m
       . rw[qJ o,qJ o,ah m ω]
       . rw[qG o,qG o]]
      by_cases Q:j=q
      . subst Q;rw[b9,tT,vY (E j j),tF,wE _ (ab j v),uA];unfold bkV;grind
      . rw[ah j Q, <-PG v λm o=>a5 j m o v];exact(B j ω v).2.2
     refine⟨⟨qD _,ω⟩,⟨by simp only;omega,by simp only;omega,by simp only;rw[qO];exact an,λj h v=>?_⟩,ω⟩;simp only at h|-;refine⟨?_,?_,a1 j ω v⟩
     . by_cases Q:j=q
       . subst Q;rw[b9,B7 ω,t]
       . rw[ah j Q,D3 Q];exact(B j ω v).1
     . obtain⟨c3,a3,be⟩:=mA (U:=E) (y:=λj=>E j k) (λa m o ha=>a5 a m o ha) ab q (Ij (y.set q F)) ω a1;rw[<-a3 j ω];exact ZL X ay (ai c3 be) v
 . have f:=qB f;have av:∀j,j<n->A7 n (λm=>E j m*Ij y m)=E j n:=λj h=>(B j ω h).2.2
   refine⟨λ_=>⟨⟨by trivial,by rw[an],λz N=>?_,ai _ av⟩,λT' bi z N=>?_⟩,λl=>absurd H l⟩
   . obtain⟨j,h,rfl⟩:=N4 zr N;exact(B j ω ω).1
   . obtain⟨j,h,rfl⟩:=N4 zr N;rw[(B j ω ω).1];exact Kh (ZL bi ay (ai _ av) ω)
def NI:An:= {loop:= [(7,⟨[1,2,7,8,31],[0],[(32,false,vI)],[],[(1, .row tQ 46)]⟩),(17,⟨[2,7,8,10,47,48,73,74],[0],[(75,false,vI)],[],[(1, .row tQ 46)]⟩),(12,⟨[2,7,8,47],[0],[(48,false,vI)],[],[(1, .row tQ 46)]⟩),(29,⟨[2,7,8,14,16,99,100,117,118],[0,2],[(119,false,vI)],[],[(1, .row tQ 46)]⟩),(24,⟨[2,7,8,14,99],[0],[(100,false,vI)],[],[(1, .row tQ 46),(2, .row tQ 46)]⟩)],plan:= [(15,[5,9],[15],true, .done),(19,[2,5,7,9,13],[16],true, .done),(31,[2,5,7,9,13],[16],true, .done),(33,[2,5,9],[11],true, .done)]}
def Tm(x:C1f):Prop:=let E:=(↑x.1.1.length:Int);let w:=(1:Int);let t:=(0:Int);let s:=(x.1.1.length:Int);let k:(Tk)->Prop:=(λp=>p.1<s);let h:(Tk)->Prop:=(λp=>t<=p.1/\p.1<(p.2.1.length:Int));let g:Prop:=(t<=s/\s<=s/\(↑(56:Nat):Int)*s<=(281474976710656:Int)/\s<=(9223372036854775807:Int));(List.length x.1.1<=16384/\J3 K1 x.1.2.2.1/\J3 K1 x.1.2.2.2)/\Dx λr=>(¬H5 x.1 s->r.1=w)/\(H5 x.1 s->(List.length x.2.1≠List.length x.1.1->r.1=4)/\(List.length x.2.1=List.length x.1.1->r.1=t))->(iB (decide (r.1≠t)) ((¬H5 x.1 E->Ef QQ= []/\r.1=w)/\(H5 x.1 E->(x.2.1.length≠x.1.1.length->Ef QQ= []/\r.1=4)/\(x.2.1.length=x.1.1.length->r.1=t/\0=x.1.1.length/\(∀(e:QQ),e∈ []->e=rc (rv e))/\∀(j:Nat),j<x.1.1.length->(A7 x.1.1.length fun(i:Nat)=>rv ([].getD (ix x.1.1 i) zr)*Qw x.1 x.1.1.length i j)=rv (x.2.1.getD (ix x.1.2.1 j) zr)))) (g/\∃(I:Tk->Prop),∃(a: _->Nat),I (t,List.replicate s.toNat dQ,())/\∀(p:Tk),let z:=(i64.wrap (p.1+w),List.set p.2.1 p.1.toNat (gx dQ x.2.1 (gx t x.1.2.1 p.1)),());(Ty.int i64).wf p.1/\IT p.2.1/\True->I p->(iB (decide (k p)) ((t<=p.1/\p.1<(x.1.2.1.length:Int))/\(t<=gx t x.1.2.1 p.1/\gx t x.1.2.1 p.1<(x.2.1.length:Int))/\(h p)/\I z/\a z<a p) (∃(I:Tk->Prop),∃(a: _->Nat),I (t,p.2.1,())/\∀(p:Tk),let H:=p.1.toNat;let R:=(List.getD p.2.1 H dQ);let q:=(gx [] x.1.2.2.2.2.2 p.1);let O:=(gx E6 q t);let B:=(↑q.length:Int);(Ty.int i64).wf p.1/\IT p.2.1/\True->I p->(iB (decide (k p)) ((t<=p.1/\p.1<(x.1.2.2.2.2.2.length:Int))/\(h p)/\(t<=t/\t<B)/\(G4 R/\G4 O.2)/\∀(r:Wm),IU r.1/\True/\True->(rv O.2=(0:Rat)->r.2.1=false)/\(rv O.2≠(0:Rat)->r.1=rc (rv R/rv O.2)/\r.2.1=true)->(h p)/\(t<=w/\w<=B/\B<=B)/\∃(I_1:Tk->Prop),∃(d: _->Nat),I_1 (t,List.set p.2.1 H r.1,())/\∀(T:Tk),let M:=(T.2.1.length:Int);let L:=(i64.wrap (p.1+w),T.2.1,());let y:=(List.getD T.2.1 H dQ);let o:=(gx E6 (List.drop w.toNat (List.take B.toNat q)) T.1);let J:=o.1.toNat;let P:=(List.getD T.2.1 J dQ);let f:Prop:=(T.1<(↑(List.drop w.toNat (List.take B.toNat q)).length:Int));let c:Prop:=(t<=o.1/\o.1<M);(Ty.int i64).wf T.1/\IT T.2.1/\True->I_1 T->(iB (decide f) ((t<=T.1/\f)/\c/\(t<=p.1/\p.1<M)/\(sz K1 P/\sz K1 o.2/\sz K1 y)/\M0 λr=>let C:=(i64.wrap (T.1+w),List.set T.2.1 J r.1,());(rv y=(0:Rat)->r.1=List.getD T.2.1 J dQ)/\(rv y≠(0:Rat)->r.1=rc (rv P-rv o.2*rv y))->c/\I_1 C/\d C<d T) (I L/\a L<a p))) (g/\∃(I:C1o->Prop),∃(a: _->Nat),I (t,p.2.1,List.replicate s.toNat dQ,())/\∀(p:C1o),let n:=(i64.wrap (s-w)-p.1);let F:=(i64.wrap n);let u:=(gx [] x.1.2.2.1.2.2 F);let G:=(↑u.length:Int);let S:=(i64.wrap (G-w));let l:Prop:=(p.1<s);(Ty.int i64).wf p.1/\IT p.2.1/\IT p.2.2.1/\True->I p->(iB (decide l) ((t<=i64.wrap n/\i64.wrap n<(x.1.2.2.1.2.2.length:Int))/\(t<=t/\t<=i64.wrap (G-w)/\i64.wrap (G-w)<=G)/\∃(I_1:Tk->Prop),∃(d: _->Nat),I_1 (t,p.2.1,())/\∀(T:Tk),let N:=(T.2.1.length:Int);let v:=(List.getD T.2.1 F.toNat dQ);let A:=(i64.wrap (p.1+w),T.2.1,List.set p.2.2.1 (gx t x.1.1 F).toNat v,());let m:=(gx E6 (List.drop t.toNat (List.take S.toNat u)) T.1);let K:=m.1.toNat;let Q:=(List.getD T.2.1 K dQ);let g:Prop:=(t<=i64.wrap n/\i64.wrap n<N);let b:Prop:=(T.1<(↑(List.drop t.toNat (List.take S.toNat u)).length:Int));let f:Prop:=(t<=m.1/\m.1<N);(Ty.int i64).wf T.1/\IT T.2.1/\True->I_1 T->(iB (decide b) ((t<=T.1/\b)/\f/\g/\(sz K1 Q/\sz K1 m.2/\sz K1 v)/\M0 λr=>let D:=(i64.wrap (T.1+w),List.set T.2.1 K r.1,());(rv v=(0:Rat)->r.1=List.getD T.2.1 K dQ)/\(rv v≠(0:Rat)->r.1=rc (rv Q-rv m.2*rv v))->f/\I_1 D/\d D<d T) ((t<=i64.wrap n/\i64.wrap n<s)/\g/\(t<=gx t x.1.1 F/\gx t x.1.1 F<(p.2.2.1.length:Int))/\I A/\a A<a p))) ((¬H5 x.1 E->p.2.2.1= []/\t=w)/\(H5 x.1 E->(x.2.1.length≠x.1.1.length->p.2.2.1= []/\t=(4:Int))/\(x.2.1.length=x.1.1.length->t=t/\List.length p.2.2.1=x.1.1.length/\(∀(e:QQ),e∈p.2.2.1->e=rc (rv e))/\∀(j:Nat),j<x.1.1.length->(A7 x.1.1.length fun(i:Nat)=>rv (List.getD p.2.2.1 (ix x.1.1 i) zr)*Qw x.1 x.1.1.length i j)=rv (x.2.1.getD (ix x.1.2.1 j) zr)))))))))))
end Go.Proofs.YtcbjamefalhfgaaGreat
