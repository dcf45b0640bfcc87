/- Part. -/
import Derived.Test.YtdbnghliccifcaaGreatKLF
set_option linter.all false
namespace Go.Proofs.YtdbnghliccifcaaGreat
open Go.Proofs.Tryz
open Go.Vc Go.Gw
open Go.IntKind (i64 u64 u32)
def dA {l:Wf} {v:Int} {a:Nat} (f:l.Pairwise (· < ·)) (g:∀y∈l.take a,y<v) (i:∀y,l[a]? =some y->v<y):(l.take a++ [v]++l.drop a).Pairwise (· < ·):=by
 have h:∀y∈l.drop a,v<y:=λy b=>by
  rw[<-uE a l,sX]at f;cases d:l.drop a with
  |nil=>rw[d]at b;cases b
  |cons z r=>
   have c:v<z:=i z (by rw[<-List.head?_drop,d];rfl);rw[d]at b;rcases qW.1 b with rfl|b
   . exact c
   have:=f.2.1;rw[d,g4a]at this;have:=this.1 y b;omega
 rw[sX,sX];refine⟨⟨f.take,wD _ _,λy b z c=>?_⟩,f.drop,λy b z c=>?_⟩
 . rw[qJ.1 c];exact g y b
 rcases qU.1 b with b|b
 . have:=g y b;have:=h z c;omega
 rw[qJ.1 b];exact h z c
def NZ:su Fo CH:=λx a3 T=>by
 obtain⟨c,_⟩:=x;change List (List (Int×(Bool×Wf)×Wf))at c;obtain⟨a0,W⟩:c.length<=4/\∀v∈c,v.length<=100000:=T;simp only[CH,iB];refine⟨λp=>0<=p.2.1/\p.2.1<=(c.length:Int)/\p.1.length<=100000*p.2.1.toNat/\p.1.Pairwise (· < ·)/\∀i,i∈p.1↔∃v∈c.take p.2.1.toNat,∃e∈v,e.1=i,λp=>((c.length:Int)-p.2.1).toNat,⟨qG _,qF _,by simp,List.Pairwise.nil,λi=>by simp⟩,?_⟩;rintro⟨(out:Wf),(j:Int),_⟩ _ ⟨z,u,r,E,A⟩;simp only at z u r E A|-;refine⟨λh=>?_,λh=>?_⟩
 . have h:=qA h;have a2:=W _ (F4 (d:=([]:List (Int×(Bool×Wf)×Wf))) z h);have V:c.take (j+1).toNat=c.take j.toNat++ [gx [] c j]:=by
    rw[(ω:(j+1).toNat=j.toNat+1),rP,H1 (d:=([]:List (Int×(Bool×Wf)×Wf))) z h];rfl
   generalize gx ([]:List (Int×(Bool×Wf)×Wf)) c j=v at*;refine⟨⟨z,h⟩,λp=>0<=p.2.1/\p.2.1<=(v.length:Int)/\p.1.length<=100000*j.toNat+p.2.1.toNat/\p.1.Pairwise (· < ·)/\∀i,i∈p.1↔(∃v∈c.take j.toNat,∃e∈v,e.1=i)\/∃e∈v.take p.2.1.toNat,e.1=i,λp=>((v.length:Int)-p.2.1).toNat,⟨qG _,qF _,by simpa using r,E,λi=>by rw[A];simp⟩,?_⟩;rintro⟨(o:Wf),(k:Int),_⟩ _ ⟨t,P,Q,w,y⟩;simp only at t P Q w y|-;refine⟨λn=>?_,λn=>?_⟩
   . have n:=qA n;have X:v.take (k+1).toNat=v.take k.toNat++ [gx D8 v k]:=by
      rw[(ω:(k+1).toNat=k.toNat+1),rP,H1 (d:=D8) t n];rfl
     have I:∀i,((∃v∈c.take j.toNat,∃e∈v,e.1=i)\/∃e∈v.take (k+1).toNat,e.1=i)↔(i∈o\/(gx D8 v k).1=i):=λi=>by
      rw[y i,X];constructor
      . rintro(h| ⟨e,s,rfl⟩)
        . exact .inl (.inl h)
        rcases qU.1 s with s|s
        . exact .inl (.inr ⟨e,s,rfl⟩)
        rw[qJ.1 s];exact .inr rfl
      rintro((h| ⟨e,s,rfl⟩) |rfl)
      . exact .inl h
      . exact .inr ⟨e,qU.2 (.inl s),rfl⟩
      exact .inr ⟨_,qU.2 (.inr (by simp)),rfl⟩
     generalize gx D8 v k=e at*;refine⟨λp=>p.1.length<=100000*j.toNat+k.toNat+1/\p.1.Pairwise (· < ·)/\∀i,i∈p.1↔(∃v∈c.take j.toNat,∃e∈v,e.1=i)\/∃e∈v.take (k+1).toNat,e.1=i,?_,?_⟩
     . refine⟨λp=>0<=p.1/\p.1<=(o.length:Int)/\∀H∈o.take p.1.toNat,H<e.1,λp=>((o.length:Int)-p.1).toNat,⟨qG _,qF _,by simp⟩,?_⟩;rintro⟨(a:Int),_⟩ _ ⟨f,B,D⟩;simp only at f B D|-;refine⟨λb=>⟨f,qA b⟩,λ_=>⟨t,n⟩,λb=>?_,λb=>⟨λb=>⟨f,qA b⟩,λ_=>⟨t,n⟩,λg=>?_,λg=>?_⟩⟩
       . rw[J7]at b;simp only[qC,rU]at b;rw[wv ω];refine⟨⟨ω,ω,Jh (d:=(0:Int)) f b.1 D ?_⟩,ω⟩;rw[K6 f b.1];exact b.2
       . rw[J7]at g;simp only[qC,rU]at g;refine⟨by show o.length<= _;omega,w,λi=>?_⟩;rw[I i];constructor
         . exact .inl
         rintro(R|rfl)
         . exact R
         have:=F4 (d:=(0:Int)) f g.1;rw[K6 f g.1,g.2]at this;exact this
       rw[J7]at b g;simp only[wN,rM]at b g;have N:(o.take a.toNat).drop (Int.toNat 0)=o.take a.toNat:=rfl;have O:o.take ((o.length:Int)).toNat=o:=by rw[qQ,vD]
       rw[N,O];have a4:(o.take a.toNat).length<=o.length:=by rw[qZ];omega
       have a5:(o.drop a.toNat).length<=o.length:=by rw[sS];omega
       have a6:(o.take a.toNat++ [e.1]++o.drop a.toNat).length=o.length+1:=by
        simp only[rQ,qZ,sS,qY];omega
       refine⟨⟨qG _,f,B⟩,⟨ω,ω⟩,⟨t,n⟩,⟨by simp only[qY];omega,by simp only[qY];omega⟩,⟨f,B,qG _⟩,⟨?_,?_⟩,⟨by show(o.take a.toNat++ [e.1]++o.drop a.toNat).length<= _;omega,?_,λi=>?_⟩⟩
       . simp only[rQ,qY];omega
       . simp only[rQ,qY];omega
       . refine dA w D λH F=>?_
         have a1:a.toNat<o.length:=by
          rcases sH a.toNat o.length with h|h
          . exact h
          rw[rT h]at F;cases F
         have Y:o.getD a.toNat 0=H:=by rw[qE,F];rfl
         rw[Y]at b g;omega
       rw[I i];simp only[qU,qJ];have U:i∈o↔i∈o.take a.toNat\/i∈o.drop a.toNat:=by
        conv=>lhs;rw[<-uE a.toNat o]
        exact qU
       rw[U];constructor
       . rintro((h|h) |h)
         . exact .inl (.inl h)
         . exact .inr h.symm
         exact .inl (.inr h)
       rintro((h|h) |h)
       . exact .inl (.inl h)
       . exact .inr h
       exact .inl (.inr h.symm)
     rintro⟨a7,_⟩ _ ⟨Z,J,M⟩;simp only at Z J M|-;rw[wv ω];exact⟨⟨ω,ω,ω,J,M⟩,ω⟩
   have n:=qB n;rw[wv ω];rw[E8 (l:=v) (i:=k) ω]at y;refine⟨⟨ω,ω,ω,w,λi=>?_⟩,ω⟩;rw[y i,V];simp only[qU,qJ];constructor
   . rintro(⟨G,u,r⟩ |h)
     . exact⟨G, .inl u,r⟩
     exact⟨v, .inr rfl,h⟩
   rintro⟨G,u|rfl,r⟩
   . exact .inl ⟨G,u,r⟩
   exact .inr r
 have h:=qB h;rw[E8 ω]at A;exact⟨E,A⟩
def GM:su Cb Tv:=λx N M=>by
 obtain⟨a,f,_⟩:=x;have U:a.length<=9223372036854775807:=N.1.1;change List (Int×(Bool×Wf)×Wf)at a f;have O:∀e∈a,J8 e.2:=λe he=>N1 ((show HC K1 a from M) e he) δ
 simp only[Tv,iB];refine⟨λh=>?_,λh=>?_⟩
 . have h:=qA h;exact(rC λe=>h (by rw[e.1])).symm
 have V:a.length=f.length:=by have:=qB h;omega
 refine⟨λp=>0<=p.1/\p.1<=(a.length:Int)/\a.take p.1.toNat=f.take p.1.toNat/\∀e∈a.take p.1.toNat,e.2=rc (rv e.2),λp=>((a.length:Int)-p.1).toNat,⟨qG _,qF _,by simp,by simp⟩,?_⟩;rintro⟨(i:Int),_⟩ _ ⟨c,G,n,o⟩;simp only at c G n o|-;refine⟨λh=>?_,λh=>?_⟩
 . have h:=qA h;have A:=F4 (d:=D8) c h;have y:=H1 (d:=D8) c h;have g:=H1 (d:=D8) (l:=f) c ω;have z:a.take (i+1).toNat=a.take i.toNat++ [gx D8 a i]:=by
    rw[(ω:(i+1).toNat=i.toNat+1),rP,y];rfl
   have B:f.take (i+1).toNat=f.take i.toNat++ [gx D8 f i]:=by
    rw[(ω:(i+1).toNat=i.toNat+1),rP,g];rfl
   generalize gx D8 a i=e at*;generalize gx D8 f i=F at*;obtain⟨v,ev⟩:=e;obtain⟨w,fv⟩:=F;simp only at A y g z B|-;refine⟨⟨c,h⟩,⟨c,ω⟩,λ_=>⟨c,h⟩,λ_=>O _ A,?_⟩;rintro⟨u,_⟩ b;refine⟨λ_=>⟨c,h⟩,λ_=>⟨c,ω⟩,λ_=>trivial,?_⟩;rintro⟨E,_⟩ j;change Bool at u E;simp only at b j|-;rw[H3]at j;rw[H3,H3];have D:(decide (v≠w) || !u|| !E)=false↔v=w/\ev=rc (rv ev)/\ev=fv:=by
    by_cases t:v=w
    . have b:=(b (by simp[t])).2;by_cases s:ev=rc (rv ev)
      . have b:u=true:=by rw[b];exact rA s
        have j:=(j (by simp[t,b])).2;rw[j,b];simp[t, <-s]
      have b:u=false:=by rw[b];exact rC s
      rw[b];simp[s]
    simp[t]
   refine⟨λr=>?_,λr=>?_⟩
   . refine(rC λI=>?_).symm;obtain⟨H,J⟩:=I;subst H;rw[y]at g;have g:=xQ g;rw[g0n]at g;have:=D.2 ⟨g.1,J _ A,g.2⟩;rw[this]at r;cases r
   obtain⟨P,Q,R⟩:=D.1 r;rw[wv ω];refine⟨⟨ω,ω,?_,?_⟩,ω⟩
   . rw[z,B,n,P,R]
   rw[z];intro T k;rcases qU.1 k with k|k
   . exact o T k
   rw[qJ.1 k];exact Q
 have h:=qB h;rw[E8 ω,E8 ω]at n;rw[E8 ω]at o;exact(rA ⟨n,o⟩).symm
def Ul {l:List D5} {e:D5} :asc (l++ [e])↔asc l/\∀x∈l,x.1<e.1:=by
 unfold asc;rw[sX];simp
def UX:su Jv OA:=λx N I=>by
 obtain⟨v,o,_⟩:=x;have Y:v.length<=9223372036854775807:=N.1.1;change List (Int×(Bool×Wf)×Wf)at v;change Int at o;have O:∀e∈v,J8 e.2:=λe j=>N1 ((show HC K1 v from I) e j) δ
 simp only[OA,iB];refine⟨λp=>0<=p.1/\p.1<=(v.length:Int)/\E3 (v.take p.1.toNat) o,λp=>((v.length:Int)-p.1).toNat,⟨qG _,qF _,List.Pairwise.nil,by simp⟩,?_⟩;rintro⟨(i:Int),_⟩ _ ⟨a,E,b,r⟩;simp only at a E b r|-;refine⟨λh=>?_,λh=>?_⟩
 . have h:=qA h;have A:=F4 (d:=D8) a h;have D:=H1 (d:=D8) a h;have u:v.take (i+1).toNat=v.take i.toNat++ [gx D8 v i]:=by
    rw[(ω:(i+1).toNat=i.toNat+1),rP,D];rfl
   have J:0<i->((∀x∈v.take i.toNat,x.1<(gx D8 v i).1)↔¬(gx D8 v i).1<=(gx D8 v (i64.wrap (i-1))).1):=λg=>by
    rw[wv ω];have w:=H1 (d:=D8) (l:=v) (i:=i-1) ω ω;have M:v.take i.toNat=v.take (i-1).toNat++ [gx D8 v (i-1)]:=by
     rw[(ω:i.toNat=(i-1).toNat+1),rP,w];rfl
    rw[M]at b|-;constructor
    . intro f;have:=f (gx D8 v (i-1)) (by simp);omega
    intro f x c;rcases qU.1 c with c|c
    . have:=(Ul.1 b).2 x c;omega
    rw[qJ.1 c];omega
   have P:0<i->i64.wrap (i-1)=i-1:=λ_=>wv ω
   generalize gx D8 v (i64.wrap (i-1))=t at*;generalize gx D8 v i=e at*;refine⟨⟨a,h⟩,λ_=>⟨a,h⟩,λ_=>⟨a,h⟩,λf=>?_,λ_=>⟨a,h⟩,λ_=>O _ A,?_⟩
   . have g:=qA f.1;rw[P g];exact⟨ω,ω⟩
   rintro⟨(B:Int),_⟩ k;simp only at k|-;rw[H3,J7,H3]at k;rw[H3,J7,H3,H3];have z:(decide (e.1<0) ||decide (o<=e.1) || (decide (0<i)&&decide (e.1<=t.1)) ||decide (B=0))=false↔0<=e.1/\e.1<o/\(∀x∈v.take i.toNat,x.1<e.1)/\rv e.2≠0:=by
    have M:(∀x∈v.take i.toNat,x.1<e.1)↔(decide (0<i)&&decide (e.1<=t.1))=false:=by
     by_cases g:0<i
     . rw[J g];simp[g]
     have:i.toNat=0:=ω
     rw[this];simp[g]
    rw[M];by_cases c:(decide (e.1<0) ||decide (o<=e.1) || (decide (0<i)&&decide (e.1<=t.1)))=false
    . have k:=(k c).2;rw[c,k];simp only[rE,rM]at c;obtain⟨⟨V,W⟩,w⟩:=c;rw[w];simp only[Bool.or_false,wH,rM];exact⟨λh=>⟨ω,ω,by trivial,λa=>h (by rw[a];rfl)⟩,λh a=>h.2.2.2 (AV a)⟩
    rw[rE];constructor
    . intro f;exact absurd f.1 c
    rintro⟨V,W,w,_⟩;refine absurd ?_ c;simp only[rE,rM];exact⟨⟨ω,ω⟩,w⟩
   refine⟨λs=>?_,λs=>?_⟩
   . refine(rC λF=>?_).symm;obtain⟨G,H⟩:=F;have j:=H e A;have y:asc (v.take (i+1).toNat):=zS G;rw[u,Ul]at y;have:=z.2 ⟨j.1,j.2.1,y.2,j.2.2⟩;rw[this]at s;cases s
   obtain⟨Q,R,T,U⟩:=z.1 s;rw[wv ω];refine⟨⟨ω,ω,?_,?_⟩,ω⟩
   . show asc _;rw[u,Ul];exact⟨b,T⟩
   rw[u];intro X n;rcases qU.1 n with n|n
   . exact r X n
   rw[qJ.1 n];exact⟨Q,R,U⟩
 have h:=qB h;rw[E8 ω]at b r;exact(rA ⟨b,r⟩).symm
def A0i {s:Nat} (a:1<=s) (k:Int):∀ {v:List D5},Xz v->HC s v->qs ((s+1)*v.length+1) (A5 v k)
 | [],_,_=>M5 (by simp)
 |e::v,b,c=>by
  have f:=A0i a k (λx hx=>b x (qI _ hx)) (λx hx=>c x (qI _ hx));have d:qs s (if e.1=k then rv e.2 else 0):=by
   split
   . exact Ek (b e (rD ..)) (c e (rD ..)) a
   exact M5 a
  refine G3 (AK d f) ?_;rw[rK,tD];omega
def B4t {v:List D5} (c:Xz v) (a:Kn v) (n:Nat) (k:Int):qs K1 (A5 (v.take n) k):=by
 rcases a with⟨f,b,_⟩ | ⟨d,b⟩
 . exact Uo f.take (λe a=>c e (rO a)) (λe a=>b e (rO a)) δ k
 refine G3 (A0i (s:=65536) δ k (λe a=>c e (rO a)) (λe a=>b e (rO a))) ?_;rw[qZ];have:min n v.length<=20:=qX (Nat.min_le_right ..) d;have:=sI 65537 this;show 65537* _ +1<=549755813888;omega
def A6r {v:List D5} (a:Kn v):v.length<=100000:=by
 rcases a with⟨_,_,h⟩ | ⟨h,_⟩<;>omega
def B4u {v:List D5} (a:Kn v):HC K1 v:=by
 rcases a with⟨_,h,_⟩ | ⟨_,h⟩
 . exact h
 exact λe a=>G4 (h e a) δ
def dY:su Te bV:=λx l f=>by
 obtain⟨v,k,_⟩:=x;have s:Xz v:=Uy l.1.2;have F:v.length<=9223372036854775807:=l.1.1;change List D5 at v;change Int at k;have f:Kn v:=f;have w:=B4u f;have E:=A6r f;simp only[bV,iB,N2];refine⟨trivial,?_⟩;rintro⟨H,_⟩ _ n;simp only at n|-;refine⟨λp=>0<=p.1/\p.1<=(v.length:Int)/\((p.2.1,p.2.2.1),p.2.2.2.1)=rc (A5 (v.take p.1.toNat) k),λp=>((v.length:Int)-p.1).toNat,⟨qG _,qF _,by rw[n];rfl⟩,?_⟩;rintro⟨(i:Int),o,m,d,_⟩ _ ⟨c,r,b⟩;simp only at c r b|-;refine⟨λh=>?_,λh=>?_⟩
 . have h:=qA h;have t:gx D8 v i∈v:=F4 c h;have z:v.take (i+1).toNat=v.take i.toNat++ [gx D8 v i]:=by
    rw[(ω:(i+1).toNat=i.toNat+1),rP,H1 (d:=D8) c h];rfl
   have u:=B4t s f i.toNat k;have y:=w _ t;have j:A5 (v.take (i+1).toNat) k=A5 (v.take i.toNat) k+if(gx D8 v i).1=k then rv (gx D8 v i).2 else 0:=by
    rw[z,R6];simp only[A5,rH]
   generalize gx D8 v i=e at*;refine⟨λp=>((p.1,p.2.1),p.2.2.1)=rc (A5 (v.take (i+1).toNat) k),⟨⟨c,h⟩,λa=>⟨⟨c,h⟩,⟨?_,N1 (k:=K1) y δ⟩,?_⟩,λa=>?_⟩,?_⟩
   . rw[b];exact Cq u δ
   . have a:=qA a;rintro⟨A,_⟩ _ g;simp only at g|-;show A= _;rw[g,b,H6,j,qR a]
   . have a:=qB a;show((o,m),d)= _;rw[b,j,qL a,rH]
   rintro⟨B,G,D,_⟩ _ g;simp only at g|-;rw[wv ω];exact⟨⟨ω,ω,g⟩,ω⟩
 have h:=qB h;rw[E8 ω]at b;exact b
def C2b {r l:Wf} (h:r.Pairwise (· < ·)) (d:∀i∈r,i∈l):r.length<=l.length:=by
 have a:r.Nodup:=h.imp λh e=>ω
 clear h
 induction r generalizing l with
 |nil=>exact rS _
 |cons b r f=>
  rw[sP]at a;have c:=d b (rD ..);have:=f (l:=l.erase b) (λi hi=>by
   refine(g3f λe=>a.1 (by rw[<-e];exact hi)).2 (d i (qI _ hi))) a.2
  have a:=g1q c;have a:=g2j c;rw[rK];omega
def bW:su Nf TC:=λx u g=>by
 obtain⟨v,_⟩:=x;have Q:Xz v:=Uy u.1.2;change List D5 at v;have g:Kn v:=g;have W:=B4u g;have P:=A6r g;simp only[TC,iB,N2,Et];refine⟨⟨by simp,λU u=>by rw[qJ.1 u];exact P⟩,?_⟩;rintro⟨(r:Wf),_⟩ ⟨⟨R,_⟩,_⟩ ⟨B,J⟩;simp only at B J R|-;have M:∀i,i∈r↔∃e∈v,e.1=i:=λi=>by
  rw[J i];constructor
  . rintro⟨U,u,a⟩;rw[qJ.1 u]at a;exact a
  intro a;exact⟨v,by simp,a⟩
 have V:r.length<=v.length:=by
  have:=C2b (l:=v.map λe:D5=>e.1) B λi s=>by
   obtain⟨e,a,rfl⟩:=(M i).1 s;exact vS a
  rwa[tG]at this
 refine⟨λp=>0<=p.2.1/\p.2.1<=(r.length:Int)/\p.1.length<=p.2.1.toNat/\V2 p.1/\(∀e∈p.1,e.1∈r.take p.2.1.toNat)/\(∀j∈r.take p.2.1.toNat,A5 p.1 j=A5 v j),λp=>((r.length:Int)-p.2.1).toNat,⟨qG _,qF _,qV _,Ji,λ_ h=>(by cases h),by simp⟩,?_⟩;rintro⟨(out:List D5),(j:Int),_⟩ _ ⟨n,N,O,w,f,o⟩;simp only at n N O w f o|-;refine⟨λh=>?_,λh=>?_⟩
 . have h:=qA h;have t:r.take (j+1).toNat=r.take j.toNat++ [gx 0 r j]:=by
    rw[(ω:(j+1).toNat=j.toNat+1),rP,H1 (d:=(0:Int)) n h];rfl
   have D:∀y∈r.take j.toNat,y<gx 0 r j:=λy hy=>by
    have:(r.take (j+1).toNat).Pairwise (· < ·):=B.take;rw[t,sX]at this;exact this.2.2 y hy _ (qJ.2 rfl)
   have H:=B4t Q g v.length (gx 0 r j);rw[vD]at H;generalize gx 0 r j=i at*;have G:∀e∈out,e.1<i:=λe a=>D _ (f e a)
   have E:A5 out i=0:=D4 λe a z=>by have:=G e a;omega
   refine⟨λp=>p.1.length<=(j+1).toNat/\V2 p.1/\(∀e∈p.1,e.1∈r.take (j+1).toNat)/\∀k∈r.take (j+1).toNat,A5 p.1 k=A5 v k,⟨⟨n,h⟩,g,?_⟩,?_⟩
   . rintro⟨q,_⟩ _ I;simp only at I|-;subst I;refine⟨Cq H δ,?_⟩;rintro⟨Y,_⟩ _ A;simp only at A|-;rw[H6]at A;refine⟨λc=>⟨⟨by simp only[qY];omega,by simp only[qY];omega⟩,by show(out++ [(i,_)]).length<= _;simp;omega,?_,λe a=>?_,λk b=>?_⟩,λc=>⟨by show out.length<= _;omega,w,λe a=>by rw[t];exact qU.2 (.inl (f e a)),λk b=>?_⟩⟩
     . have c:=qA c;exact Gb w (λn=>c (by rw[A,n];rfl)) G
     . rw[t];rcases qU.1 a with a|a
       . exact qU.2 (.inl (f e a))
       rw[qJ.1 a];exact qU.2 (.inr (qJ.2 rfl))
     . show A5 (out++ [(i,rc (A5 v i))]) k=A5 v k;rw[Cj];rw[t]at b;rcases qU.1 b with b|b
       . have:=D k b;rw[qL ω,rH,o k b]
       rw[qJ.1 b,qR rfl,E,tB]
     have c:=qB c;have T:A5 v i=0:=AV (by rw[<-A];exact sF.1 c);rw[t]at b;show A5 out k=A5 v k;rcases qU.1 b with b|b
     . exact o k b
     rw[qJ.1 b,E,T]
   rintro⟨X,_⟩ _ F;simp only at F|-;rw[wv ω];exact⟨⟨ω,ω,F⟩,ω⟩
 have h:=qB h;rw[E8 ω]at f o;refine⟨w,λi=>?_⟩;by_cases s:i∈r
 . exact o i s
 rw[D4 λe a z=>s (by rw[<-z];exact f e a),D4 λe a z=>s ((M i).2 ⟨e,a,z⟩)]
def eM (l:List C7) (j:Int):∀n:Nat,n<=l.length->A5 ((List.range n).map λi:Nat=>((i:Int),l.getD i zr)) j=if 0<=j/\j<(n:Int)then rv (l.getD j.toNat zr)else 0
 |0,_=>by rw[qL ω];rfl
 |n+1,h=>by
  rw[g2p,vY,R6,eM l j n ω];simp only[rW,g2k,A5,rH];by_cases b:(n:Int)=j
  . subst b;rw[qL ω,qR rfl,tB,qR ω,qQ]
  rw[qL b,rH];by_cases a:0<=j/\j<(n:Int)
  . rw[qR a,qR ω]
  rw[qL a,qL ω]
def GL:su Ca Tu:=λx u r=>by
 obtain⟨(l:List C7),_⟩:=x;obtain⟨t,s⟩:l.length<=100000/\Tj K1 l:=r;simp only[Tu,iB,UP];refine⟨λp=>0<=p.2.1/\p.2.1<=(l.length:Int)/\p.1=(List.range p.2.1.toNat).map λi:Nat=>((i:Int),l.getD i zr),λp=>((l.length:Int)-p.2.1).toNat,⟨qG _,qF _,rfl⟩,?_⟩;rintro⟨(v:List D5),(i:Int),_⟩ _ ⟨b,n,a⟩;simp only at b n a|-;have o:v.length=i.toNat:=by rw[a];simp
 refine⟨λh=>?_,λh=>?_⟩
 . have h:=qA h;rw[Wr b h,wv ω];refine⟨⟨b,h⟩,⟨by simp only[qY];omega,by simp only[qY];omega⟩,⟨ω,ω,?_⟩,ω⟩;rw[pF _ b,a,(ω:((i.toNat:Nat):Int)=i)]
 have h:=qB h;have d:i.toNat=l.length:=ω
 rw[d]at a o;have c:=λj=>eM l j l.length (qV _)
 rw[<-a]at c;refine⟨.inl ⟨?_,λe g=>?_,ω⟩,?_⟩
 . rw[a];unfold asc;rw[wW];exact List.pairwise_lt_range.imp λh=>by show((_:Nat):Int)<((_:Nat):Int);omega
 . rw[a]at g;obtain⟨j,f,rfl⟩:=tT.1 g;rw[yR]at f;exact s _ (C6 f)
 rintro⟨w,_⟩ _ k;simp only at k|-;exact VG k (λi d=>by rw[c,qL d]) λj f=>by rw[c,qR ω,qQ]
def UW:su Ge NY:=λx E z=>by
 obtain⟨v,n,_⟩:=x;have y:Xz v:=Uy E.1.2;change List D5 at v;change Int at n;obtain⟨d,D,r,H⟩:ED K1 v/\E3 v n/\0<=n/\n<=16384:=z;simp only[NY,iB,N2];have g:L5 (decide (n<0)) true (decide (16384<n))=false:=by
  rw[H3];simp only[rE,rM];omega
 refine⟨λ_=> .inl d,?_⟩;rintro⟨(f:List D5),_⟩ u;obtain⟨_,a,j⟩:=u g;simp only at a j|-;have A:∀i,qs K1 (A5 f i):=λi=>by rw[j];exact Uo d.1 y d.2.1 δ i
 refine⟨λ_=>Un a A,?_⟩;rintro⟨l,_⟩ b;have b:=(b g).2;simp only at b|-;have w:E3 f n:=⟨a.1,λe he=>by
  have:A5 v e.1≠0:=by rw[<-j,O0 a.1 he];exact(a.2 e he).1
  have:=aS D this;exact⟨this.1,this.2,(a.2 e he).1⟩⟩
 have t:l=true:=by rw[b];exact rA w
 have s:(L5 (L5 (decide (n<0)) true (decide (16384<n))) true !l)=false:=by rw[g,t];rfl
 refine⟨λh=>(by rw[s]at h;cases h),λ_=>⟨⟨r,qG _,ω,ω⟩,?_⟩⟩;have B:(List.replicate n.toNat dQ).length=n.toNat:=rG;refine⟨λp=>0<=p.1/\p.1<=n/\fill n.toNat p.1.toNat (λG:Nat=>rc (A5 v (G:Int))) p.2.1,λp=>(n-p.1).toNat,⟨qG _,r,eU B⟩,?_⟩;rintro⟨(i:Int),(out:List C7),_⟩ _ ⟨k,F,c⟩;simp only at k F c|-;refine⟨λh=>⟨.inl d,?_⟩,λh=>?_⟩
 . have h:=qA h;have:=c.1;rintro⟨I,_⟩ _ o;simp only at o|-;rw[wv ω];exact⟨⟨k,ω⟩,⟨ω,ω,Rp c k ω (by rw[o,(ω:((i.toNat:Nat):Int)=i)])⟩,ω⟩
 have h:=qB h;exact⟨Ro c ω,by trivial⟩
def dU:su Ta bN:=λx D Q=>by
 obtain⟨a,b,_⟩:=x;have F:∀q∈a,Qi q:=λq hq=>Oq (D.1.2 q hq)
 have G:∀q∈b,Qi q:=λq hq=>Oq (D.2.1.2 q hq)
 change List C7 at a b;obtain⟨A,T,g,w,z,r,s,X,y⟩:∃A T g:Nat,1<=A/\1<=T/\Tj A a/\Tj T b/\a.length<=g/\(A+T+1)*(g+1)<=2199023255552:=Q;have V:A+T+1<=2199023255552:=qX (wX _ (g4o g)) y;have W:g+1<=2199023255552:=qX (g0c _ ω) y;simp only[bN,iB,N2];refine⟨λh P=>absurd (by rw[P]) (qA h),λh=>⟨trivial,?_⟩⟩;have Y:a.length=b.length:=by have:=qB h;omega
 rintro⟨a1,_⟩ _ E;simp only at E|-;refine⟨λp=>0<=p.1/\p.1<=(a.length:Int)/\((p.2.1,p.2.2.1),p.2.2.2.1)=rc (B8 p.1.toNat λi=>rv (a.getD i zr)*rv (b.getD i zr)),λp=>((a.length:Int)-p.1).toNat,⟨qG _,qF _,by rw[E];rfl⟩,?_⟩;rintro⟨(i:Int),a0,m,d,_⟩ _ ⟨c,N,o⟩;simp only at c N o|-;refine⟨λh=>?_,λh=>?_⟩
 . have h:=qA h;have u:=F4 (d:=dQ) c h;have v:=F4 (d:=dQ) (l:=b) c ω;have H:=Ek (F _ u) (r _ u) w;have I:=Ek (G _ v) (s _ v) z;have J:=N1 (r _ u) ω;have M:=N1 (s _ v) ω;rw[Wr c h]at H J|-;rw[Wr c ω]at I M|-;have R:=VO (n:=i.toNat) (k:=A+T) (f:=λi=>rv (a.getD i zr)*rv (b.getD i zr)) λj hj=>Hg (Ek (F _ (C6 ω)) (r _ (C6 ω)) w) (Ek (G _ (C6 ω)) (s _ (C6 ω)) z)
   refine⟨⟨c,h⟩,⟨c,ω⟩,⟨J,M⟩,?_⟩;rintro⟨Z,_⟩ _ t;simp only at t|-;refine⟨⟨?_,by rw[t];exact Cq (Hg H I) ω⟩,?_⟩
   . rw[o];refine Cq R ?_;have O:=sI (A+T+1) (ω:i.toNat+1<=g+1);rw[Nat.mul_succ,sN]at O;omega
   rintro⟨U,_⟩ _ B;simp only at B|-;rw[wv ω];refine⟨⟨ω,ω,?_⟩,ω⟩;show U= _;rw[B,o,t,H6,H6,(ω:(i+1).toNat=i.toNat+1),B8]
 have h:=qB h;intro _;rw[(ω:i.toNat=a.length)]at o;exact⟨o,by trivial⟩
def Oo {D:List (List D5)} {R C:Int} (h:∀x∈D,List.length x<=9223372036854775807/\∀y∈x,WfE y):LR (R,C,D):=λv a=>Uy (h v a).2
def Il {D:List (List D5)} {i:Int} (a:0<=i) (b:i<(D.length:Int)):gx [] D i=D.getD i.toNat []:=K6 a b
def BP:su U7 Pn:=λx a _=>by
 simp only[Pn];rw[J7,Bool.decide_and]
def JR:su K2 Xa:=λx u _=>by
 obtain⟨⟨R,C,D⟩,_⟩:=x;have y:D.length<=9223372036854775807:=u.1.2.2.1;change Int at R C;change List (List D5)at D;simp only[Xa,iB,Jp];refine⟨trivial,?_⟩;rintro⟨r,_⟩ _ c;simp only at c|-;refine⟨λ_=>trivial,?_⟩;rintro⟨z,_⟩ k;simp only at k|-;rw[H3,H3];by_cases g:0<=R/\R<=16384
 . have c:r=true:=by rw[c];exact rA g
   have k:=(k (by rw[c];rfl)).2;rw[c,k];refine⟨λh=>?_,λh=>?_⟩
   . refine(rC λf=>?_).symm;obtain⟨_,_,o,s,t,_⟩:=f;simp only at o s t;rw[rA (show 0<=C/\C<=16384 from⟨o,s⟩)]at h;simp at h;exact h t
   simp only[zI,wH,rE,zO,rU,rM,sF]at h;refine⟨λp=>0<=p.1/\∀v∈D.take p.1.toNat,E3 v C,λp=>((D.length:Int)-p.1).toNat,⟨qG _,by simp⟩,?_⟩;rintro⟨(n:Int),_⟩ _ ⟨i,j⟩;simp only at i j|-;refine⟨λb=>?_,λb=>?_⟩
   . have b:=qA b;refine⟨⟨i,b⟩,trivial,?_⟩;rintro⟨w,_⟩ _ l;simp only at l|-;refine⟨λa=>?_,λa=>?_⟩
     . refine(rC λf=>?_).symm;rw[l]at a;have:=f.2.2.2.2.2 _ (F4 (d:=([]:List D5)) i b);rw[rA this]at a;cases a
     rw[l]at a;have a:decide (E3 (gx [] D n) C)=true:=by simpa using a
     rw[wv ω];exact⟨⟨ω,Jh (d:=([]:List D5)) (q:=λv=>E3 v C) i b j (qA a)⟩,ω⟩
   have b:=qB b;rw[E8 ω]at j;exact(rA ⟨g.1,g.2,h.1.1,h.1.2,h.2,j⟩).symm
 have c:r=false:=by rw[c];exact rC g
 rw[c];refine⟨λ_=>(rC λf=>g ⟨f.1,f.2.1⟩).symm,λh=>(by simp at h)⟩
def JS:su Dn Xb:=λx k g=>by
 obtain⟨(n:Int),_⟩:=x;obtain⟨f,l⟩:0<=n/\n<=16384:=g;simp only[Xb,iB,N2];have d:(List.replicate n.toNat dQ).length=n.toNat:=rG;rw[d];refine⟨⟨f,qG _,ω,ω⟩,λp=>0<=p.1/\p.1<=n/\fill n.toNat p.1.toNat (λ_=>rc 0) p.2.1,λp=>(n-p.1).toNat,⟨qG _,f,eU d⟩,?_⟩;rintro⟨(i:Int),(out:List C7),_⟩ _ ⟨b,j,a⟩;simp only at b j a|-;have:=a.1;refine⟨λh=>⟨trivial,?_⟩,λh=>?_⟩
 . have h:=qA h;rintro⟨r,_⟩ _ c;simp only at c|-;rw[wv ω];exact⟨⟨b,ω⟩,⟨ω,ω,Rp a b ω (by rw[c, <-QN];rfl)⟩,ω⟩
 have h:=qB h;rw[Ro a ω,A9b]
def RI:su Hj HI:=λx O z=>by
 obtain⟨⟨(R:Int),(C:Int),D⟩,k,⟨(R':Int),(C':Int),D'⟩,_⟩:=x;change List (List D5)at D D';change C7 at k;obtain⟨A,w,B⟩:N4 K1 (R,C,D)/\sz K1 k/\N4 K1 (R',C',D'):=z;simp only[HI,iB,Jp,UP];refine⟨trivial,?_⟩;rintro⟨v,_⟩ _ b;simp only at b|-;refine⟨λ_=>trivial,?_⟩;rintro⟨P,_⟩ j;simp only at j|-;rw[H3,H3];by_cases f:A4 (R,C,D)
 . have b:v=true:=by rw[b];exact rA f
   have j:=(j (by rw[b];rfl)).2;rw[b,j];by_cases c:A4 (R',C',D')
   . rw[rA c];refine⟨λh=>(by cases h),λ_=>⟨λh=>?_,λh=>?_⟩⟩
     . simp only[tX,rU]at h;exact⟨λh=>absurd ⟨f,c⟩ h,λ_=>⟨λ_=>⟨rfl,by trivial⟩,λn=>absurd n ω⟩⟩
     simp only[rE,rM,sF]at h;obtain⟨rfl,rfl⟩:=h;obtain⟨r,G,H,I,J,M⟩:=id f;have T:(D'.length:Int)=R:=c.2.2.2.2.1;have N:=c.2.2.2.2.2;simp only at r G H I J;refine⟨⟨r,qG _,ω,ω⟩,?_⟩;refine⟨λp=>0<=p.1/\p.1<=R/\XS R.toNat p.1.toNat (λi=>Ws C.toNat λo=>el (R,C,D) i o+rv k*el (R,C,D') i o) p.2.1,λp=>(R-p.1).toNat,⟨qG _,r,A2n rG⟩,?_⟩;rintro⟨(E:Int),rows,_⟩ _ ⟨a,F,g⟩;change List (List D5)at rows;simp only at a F g|-;have:=g.1;refine⟨λh=>?_,λh=>?_⟩
     . have h:=qA h;have s:=F4 (d:=([]:List D5)) a h;have t:=F4 (d:=([]:List D5)) (l:=D') a ω;refine⟨⟨a,h⟩,⟨a,ω⟩,⟨Mq f A s,w,Mq c B t⟩,?_⟩;rintro⟨Q,_⟩ _ u;simp only at u|-;rw[wv ω];refine⟨⟨a,ω⟩,⟨ω,ω,PQ g a ω ?_⟩,ω⟩;refine VG u (λi y=>?_) λo _=>?_
       . rw[EQ (M _ s) (ω:¬(0<=i/\i<C)),EQ (N _ t) (ω:¬(0<=i/\i<C)),tA,rH]
       rw[Il a h,Il (D:=D') a ω];rfl
     have h:=qB h;exact⟨λh=>absurd ⟨f,c⟩ h,λ_=>⟨λn=>(by simp at n),λ_=>⟨⟨by show R= _;omega,by show C= _;omega,g.1,λi y=>g.2 i ω⟩,by trivial⟩⟩⟩
   rw[rC c];exact⟨λ_=>⟨λ_=>⟨rfl,by trivial⟩,λh=>absurd h.2 c⟩,λh=>(by cases h)⟩
 have b:v=false:=by rw[b];exact rC f
 rw[b];exact⟨λ_=>⟨λ_=>⟨rfl,by trivial⟩,λh=>absurd h.1 f⟩,λh=>(by simp at h)⟩
def B2b {R C:Int} {D:List (List D5)} (i:Nat) (j:Int) (h:0<=j):A5 (D.getD i []) j=el (R,C,D) i j.toNat:=by
 unfold el;rw[(ω:((j.toNat:Nat):Int)=j)]
def JQ:su Dm Wz:=λx a8 ah=>by
 obtain⟨⟨R,C,D⟩,X,_⟩:=x;have ag:LR (R,C,D):=Oo a8.1.2.2.2;have a2:∀q∈X,Qi q:=λq s=>Oq (a8.2.1.2 q s)
 change Int at R C;change List (List D5)at D;change List C7 at X;obtain⟨A,T,c,W,Y,ak,M,b2,a4,b0⟩:∃A T c:Nat,1<=A/\1<=T/\N4 A (R,C,D)/\Tj T X/\C<=(c:Int)/\(A+T+1)*(c+1)<=2199023255552/\A<=K1:=ah;have b1:A+T+1<=2199023255552:=qX (wX _ (g4o c)) a4;have b3:c+1<=2199023255552:=qX (g0c _ (g4o (A+T))) a4;simp only[Wz,iB,N2,Jp];refine⟨trivial,?_⟩;rintro⟨a9,_⟩ _ l;simp only at l|-;by_cases o:A4 (R,C,D)
 . have l:a9=true:=by rw[l];exact rA o
   rw[l];obtain⟨U,aa,aq,ar,au,av⟩:=id o;simp only at U aa aq ar au;refine⟨λh=>(by cases h),λ_=>⟨λh=>?_,λh=>?_⟩⟩
   . have h:=qA h;exact⟨λa=>absurd o a,λ_=>⟨λ_=>⟨by trivial,by trivial⟩,λa=>absurd a h⟩⟩
   have ab:=sF.1 (qB h);refine⟨⟨U,aa⟩,?_⟩;rintro⟨aw,_⟩ _ O;simp only at O|-
   let F:Nat->C7:=λi=>rc (B8 X.length λj=>el (R,C,D) i j*rv (X.getD j zr))
   refine⟨λp=>0<=p.1/\p.1<=R/\fill R.toNat p.1.toNat F p.2.1/\∀j,p.1.toNat<=j->j<R.toNat->p.2.1.getD j dQ=rc 0,λp=>(R-p.1).toNat,⟨qG _,U,eU (by rw[O];simp),λj _ y=>?_⟩,?_⟩
   . show aw.getD j dQ= _;rw[O,qE,uD,qR y];rfl
   rintro⟨(k:Int),(out:List C7),_⟩ _ ⟨r,ao,w,P⟩;simp only at r ao w P|-;have b5:=w.1;refine⟨λh=>?_,λh=>?_⟩
   . have h:=qA h;have z:=F4 (d:=([]:List D5)) r h;rw[Il r h]at z|-;have a5:=Mq o ak z;have t:E3 (D.getD k.toNat []) C:=av _ z;have a0:=ag _ z;have b4:(D.getD k.toNat []).length<=c:=by have:=Eb t;omega
     have ac:∀j:Nat,A5 (D.getD k.toNat []) (j:Int)=el (R,C,D) k.toNat j:=λj=>rfl
     generalize D.getD k.toNat []=row at*
     let H:Int->Rat:=λi=>rv (X.getD i.toNat zr)
     refine⟨⟨r,h⟩,λp=>0<=p.1/\p.1<=(row.length:Int)/\fill R.toNat k.toNat F p.2.1/\(∀j,k.toNat<j->j<R.toNat->p.2.1.getD j dQ=rc 0)/\p.2.1.getD k.toNat dQ=rc (U5 (row.take p.1.toNat) H),λp=>((row.length:Int)-p.1).toNat,⟨qG _,qF _,w,λj I a=>P j ω a,P _ (qV _) ω⟩,?_⟩;rintro⟨(B:Int),(Q:List C7),_⟩ _ ⟨E,ap,u,G,b⟩;simp only at E ap u G b|-;have a3:=u.1;refine⟨λg=>?_,λg=>?_⟩
     . have g:=qA g;have J:=F4 (d:=D8) E g;obtain⟨V,ax,_⟩:=t.2 _ J;have a6:=a5.2.1 _ J;have af:=a0 _ J;have am:=DK (d:=D8) E g H;have aj:=A5m (v:=row.take B.toNat) (h:=H) (j:=A) (k:=T) (λe f=>a0 e (rO f)) (λe f=>a5.2.1 e (rO f)) W λe f=>by
        have:=t.2 e (rO f);exact Ek (a2 _ (C6 ω)) (M _ (C6 ω)) Y
       have an:(row.take B.toNat).length<=c:=by rw[qZ];omega
       generalize gx D8 row B=e at*;have Z:e.1<(X.length:Int):=ω
       rw[Wr V Z];have N:X.getD e.1.toNat zr∈X:=C6 ω;have ai:=Hg (Ek af a6 W) (Ek (a2 _ N) (M _ N) Y);refine⟨⟨E,g⟩,⟨r,ω⟩,⟨V,Z⟩,⟨N1 a6 ω,N1 (M _ N) ω⟩,?_⟩;rintro⟨q,_⟩ _ s;simp only at s|-;refine⟨⟨?_,by rw[s];exact Cq ai ω⟩,?_⟩
       . rw[b];refine Cq aj ?_;have ay:=rL (A+T+1) an;have az:(A+T+1)*(c+1)=c*(A+T+1)+(A+T+1):=by rw[tD,xF,sN]
         omega
       rintro⟨b6,_⟩ _ a7;simp only at a7|-;rw[wv ω];refine⟨⟨r,ω⟩,⟨ω,ω,⟨by rw[qT];exact a3,λj y=>?_⟩,λj I a=>?_,?_⟩,ω⟩
       . rw[vV,qL ω];exact u.2 j y
       . rw[qE,vV,qL ω, <-qE];exact G j I a
       rw[qE,vV,qR rfl,qR ω,am,a7,s,b,H6,H6];rfl
     have g:=qB g;rw[E8 ω]at b;rw[wv ω];refine⟨⟨ω,ω,⟨a3,λj y=>?_⟩,λj I a=>G j ω a⟩,ω⟩;by_cases ad:j<k.toNat
     . exact u.2 j ad
     have ae:j=k.toNat:=ω
     subst ae;have a1:k.toNat<Q.length:=ω
     rw[qM a1];rw[qE,qM a1]at b;have b:Q[k.toNat]=rc (U5 row H):=b;rw[b,VD (n:=X.length) λe f=>⟨(t.2 e f).1,by have:=(t.2 e f).2.1;omega⟩];exact sA some (sA rc (B6 λj _=>by rw[ac];rfl))
   have h:=qB h;exact⟨λa=>absurd o a,λ_=>⟨λa=>absurd ab a,λ_=>⟨Ro w ω,by trivial⟩⟩⟩
 have l:a9=false:=by rw[l];exact rC o
 rw[l];exact⟨λ_=>⟨λ_=>⟨by trivial,by trivial⟩,λh=>absurd h o⟩,λh=>(by cases h)⟩
def DF {d:D5} {v:List D5} {i:Int} (a:0<=i) (b:i<(v.length:Int)) (j:Int):A5 (v.take (i+1).toNat) j=A5 (v.take i.toNat) j+if(gx d v i).1=j then rv (gx d v i).2 else 0:=by
 rw[(ω:(i+1).toNat=i.toNat+1),rP,H1 (d:=d) a b,R6];simp only[g1k,A5,rH]
def B6f {j k:Nat} {v:List D5} (h:HC j v) (b:j<=k):HC k v:=λe a=>G4 (h e a) b
def B4x {j k:Nat} {m:G9} (h:N4 j m) (a:j<=k):N4 k m:=λv b=>B6f (h v b) a
def B9k {R C:Int} {D:List (List D5)} {k:Nat} (f:A4 (R,C,D)) (c:LR (R,C,D)) (d:N4 k (R,C,D)) (b:1<=k) {v:List D5} (a:v∈D) (j:Int):qs k (A5 v j):=Uo (f.2.2.2.2.2 v a).1 (c v a) (d v a) b j
def ZV (k:Int):ri k=rc (k:Rat):=by
 unfold ri rc;rw[g2v,g2u,Vd]
def Jc (a b:Int):GR (.int .i64) a b=decide (a=b):=rfl
def DZ {α:Type} (k i:Int) (v:α):∀l:List (Int×α),I9 (.int .i64) i (Ev (.int .i64) k v l)=if i=k then some v else I9 (.int .i64) i l
 | []=>by
  simp only[Ev,I9,Jc];by_cases h:i=k
  . simp[h]
  rw[qL h];simp[h]
 | (b,d)::l=>by
  have c:=DZ k i v l;simp only[Ev,Jc];by_cases h:k=b
  . subst h;simp only[g5e,qS,I9,Jc];by_cases a:i=k
    . simp[a]
    simp[a]
  simp only[h,g2n,rI,I9,Jc,c];by_cases a:i=b
  . subst a;have:¬i=k:=λe=>h e.symm
    simp[this]
  simp[a]
def PY {α:Type} (k:Int) (v:α):∀l:List (Int×α),(Ev (.int .i64) k v l).map (λe=>e.1)=if k∈l.map (λe=>e.1)then l.map (λe=>e.1)else l.map (λe=>e.1)++ [k]
 | []=>by simp[Ev]
 | (a,c)::l=>by
  have b:=PY k v l;simp only[Ev,Jc];by_cases h:k=a
  . subst h;simp
  simp only[h,g2n,rI,rW,b,qW,false_or];split<;>simp
def YP {α:Type} (k:Int) (v:α):∀ {l:List (Int×α)} {e:Int×α},e∈Ev (.int .i64) k v l->e=(k,v)\/e∈l
 | [],e,h=>by
  simp only[Ev,qJ]at h;exact .inl h
 | (b,c)::l,e,h=>by
  simp only[Ev,Jc]at h;by_cases a:k=b
  . subst a;simp only[g5e,qS,qW]at h;rcases h with h|h
    . exact .inl h
    exact .inr (qI _ h)
  simp only[a,g2n,rI,qW]at h;rcases h with h|h
  . exact .inr (h▸rD ..)
  exact(YP k v h).imp id (qI _)
def YL {α:Type} {k:Int} {v:α} :∀ {l:List (Int×α)},I9 (.int .i64) k l=some v->(k,v)∈l
 | (b,a)::l,h=>by
  simp only[I9,Jc]at h;by_cases a:k=b
  . simp[a]at h;rw[a,h];exact rD ..
  simp[a]at h;exact qI _ (YL h)
def YK {α:Type} {k:Int} :∀ {l:List (Int×α)},k∉l.map (λe=>e.1)->I9 (.int .i64) k l=none
 | [],_=>rfl
 | (a,b)::l,h=>by
  simp only[rW,qW,g4z]at h;simp only[I9,Jc];simp[h.1,YK h.2]
def pH {α:Type} {k:Int} :∀ {l:List (Int×α)},k∈l.map (λe=>e.1)->∃v,I9 (.int .i64) k l=some v
 | (b,c)::l,h=>by
  simp only[I9,Jc];by_cases a:k=b
  . exact⟨c,by simp[a]⟩
  simp only[rW,qW,a,false_or]at h;obtain⟨v,b⟩:=pH h;exact⟨v,by simp[a,b]⟩
def pK:∀ {r l:Wf},r.Nodup->(∀i∈r,i∈l)->r.length<=l.length
 | [],_,_,_=>rS _
 |a::r,l,b,d=>by
  rw[sP]at b;have c:=d a (rD ..);have:=pK (l:=l.erase a) b.2 λi hi=>(g3f λe=>b.1 (by rw[<-e];exact hi)).2 (d i (qI _ hi))
  have b:=g1q c;have b:=g2j c;rw[rK];omega
def A9f {r:Wf} {n:Int} (h:r.Nodup) (a:∀i∈r,0<=i/\i<n):(r.length:Int)<=max n 0:=by
 have:=pK (l:=(List.range n.toNat).map λi:Nat=>(i:Int)) h λi hi=>by
  have:=a i hi;exact tT.2 ⟨i.toNat,yR.2 ω,ω⟩
 rw[tG,xT]at this;omega
structure OJ (n:Int) (F:Int->Rat) (es:List D5):Prop where
 nd:(es.map λe=>e.1).Nodup
 rng:∀e∈es,0<=e.1/\e.1<n
 can:∀e∈es,e.2=rc (rv e.2)
 val:∀j,rv ((I9 (.int .i64) j es).getD dQ)=F j
def OJ.at {n:Int} {F:Int->Rat} {es:List D5} (h:OJ n F es) (j:Int):(I9 (.int .i64) j es).getD dQ=rc (F j)\/((I9 (.int .i64) j es).getD dQ=dQ/\F j=0/\j∉es.map λe=>e.1):=by
 have a:=h.val j;cases b:I9 (.int .i64) j es with
 |none=>
  rw[b]at a;refine .inr ⟨rfl,?_,λd=>?_⟩
  . rw[<-a];exact ZY
  obtain⟨v,c⟩:=pH d;rw[b]at c;cases c
 |some v=>
  rw[b]at a;have c:=h.can _ (YL b);have a:rv v=F j:=a;left;show v= _;rw[<-a];exact c
def OJ.sh {n:Int} {F:Int->Rat} {es:List D5} (h:OJ n F es) (j:Int) (b:qs 2199023255552 (F j)):J8 ((I9 (.int .i64) j es).getD dQ):=by
 rcases h.at j with a| ⟨a,_⟩
 . rw[a];exact b
 rw[a];exact⟨rS _,rS _⟩
def OJ.put {n:Int} {F G:Int->Rat} {es:List D5} (h:OJ n F es) {k:Int} {q:Rat} (l:0<=k/\k<n) (d:G k=q) (f:∀j,j≠k->G j=F j):OJ n G (Ev (.int .i64) k (rc q) es):=by
 refine⟨?_,λe a=>?_,λe a=>?_,λj=>?_⟩
 . have:=PY k (rc q) es;rw[this];split
   . exact h.nd
   rename_i o;rw[sZ];refine⟨h.nd,by simp,λr g s c i=>?_⟩;rw[qJ]at c;subst c i;exact o g
 . rcases YP k (rc q) a with rfl|a
   . exact l
   exact h.rng e a
 . rcases YP k (rc q) a with rfl|a
   . show rc q=rc (rv (rc q));rw[H6]
   exact h.can e a
 rw[DZ];by_cases b:j=k
 . rw[qR b];show rv (rc q)= _;rw[H6,b,d]
 rw[qL b,h.val,f j b]
def OJ.len {n:Int} {F:Int->Rat} {es:List D5} (h:OJ n F es):(es.length:Int)<=max n 0:=by
 have:=A9f h.nd (n:=n) λi hi=>by
  obtain⟨e,a,rfl⟩:=tT.1 hi;exact h.rng e a
 rwa[tG]at this
def Qu:su O2 Ie:=λx ak b3=>by
 obtain⟨v,⟨R,C,D⟩,_⟩:=x;have ac:Xz v:=Uy ak.1.2;have a9:LR (R,C,D):=Oo ak.2.1.2.2.2;change List D5 at v;change Int at R C;change List (List D5)at D;obtain⟨ag,ai,z,a0,bf⟩:ED K0 v/\N4 K0 (R,C,D)/\A4 (R,C,D)/\E3 v R/\R<=1000:=b3;have bq:(D.length:Int)=R:=z.2.2.2.2.1;have ba:∀w∈D,E3 w C:=z.2.2.2.2.2;have bo:0<=C:=z.2.2.1;have bp:C<=16384:=z.2.2.2.1;have bk:v.length<=1000:=by have:=Eb a0;omega
 simp only[Ie,iB,N2,Et]
 let H:Int->Int->Rat:=λj k=>A5 (D.getD k.toNat []) j
 have au:∀j:Int,∀e∈v,qs K0 (H j e.1):=λj e a=>by
  have:=a0.2 e a;exact B9k z a9 ai δ (C6 ω) j
 have ap:∀(j:Int) (n:Nat),qs ((v.take n).length*(K0+K0+1)+1) (U5 (v.take n) (H j)):=λj n=>A5m (λe a=>ac e (rO a)) (λe a=>ag.2.1 e (rO a)) δ λe a=>au j e (rO a)
 have am:K0+K0+1=2147483649:=δ
 have an:K0+K0=2147483648:=δ
 refine⟨λp=>0<=p.1/\p.1<=(v.length:Int)/\OJ C (λj=>U5 (v.take p.1.toNat) (H j)) p.2.1,λp=>((v.length:Int)-p.1).toNat,⟨qG _,qF _,wT,λ_ h=>(by cases h),λ_ h=>(by cases h),λj=>ZY⟩,?_⟩;rintro⟨(i:Int),(F:List D5),_⟩ _ ⟨M,b8,c⟩;simp only at M b8 c|-;refine⟨λh=>?_,λh=>?_⟩
 . have h:=qA h;have P:=F4 (d:=D8) M h;obtain⟨a1,be,_⟩:=a0.2 _ P;have X:=ag.2.1 _ P;have a8:=ac _ P;have b5:=λj=>DK (d:=D8) M h (H j)
   have bj:(v.take i.toNat).length<=999:=by rw[qZ];omega
   have ao:=λj=>ap j i.toNat
   generalize gx D8 v i=e at*;have a5:e.1<(D.length:Int):=ω
   rw[Il a1 a5];have V:D.getD e.1.toNat []∈D:=C6 ω;have I:=Mq z ai V;have b6:=ba _ V;have aa:=a9 _ V;have ar:∀j,H j e.1=A5 (D.getD e.1.toNat []) j:=λj=>rfl
   generalize D.getD e.1.toNat []=row at*;have bi:=I.2.2;refine⟨⟨M,h⟩,⟨a1,a5⟩,λp=>0<=p.1/\p.1<=(row.length:Int)/\OJ C (λj=>U5 (v.take i.toNat) (H j)+rv e.2*A5 (row.take p.1.toNat) j) p.2.1,λp=>((row.length:Int)-p.1).toNat,⟨qG _,qF _,?_⟩,?_⟩
   . have:(λj=>U5 (v.take i.toNat) (H j)+rv e.2*A5 (row.take (Int.toNat 0)) j)=λj=>U5 (v.take i.toNat) (H j):=by
      funext j;show _ +rv e.2*0= _;rw[tA,rH]
     show OJ C (λj=>U5 (v.take i.toNat) (H j)+rv e.2*A5 (row.take (Int.toNat 0)) j) F;rw[this];exact c
   rintro⟨(t:Int),(O:List D5),_⟩ _ ⟨N,b9,u⟩;simp only at N b9 u|-;refine⟨λg=>?_,λg=>?_⟩
   . have g:=qA g;have Q:=F4 (d:=D8) N g;have a7:=b6.2 _ Q;have aj:=I.2.1 _ Q;have az:=aa _ Q;have a4:=DF (d:=D8) N g;have av:=Uo (v:=row.take t.toNat) (k:=K0) I.1.take (λe a=>aa e (rO a)) (λe a=>I.2.1 e (rO a)) δ;generalize gx D8 row t=f at*;have b4:=Hg (Ek a8 X δ) (Ek az aj δ);have aq:qs 2199023255552 (U5 (v.take i.toNat) (H f.1)+rv e.2*A5 (row.take t.toNat) f.1):=by
      refine G3 (AK (ao f.1) (Hg (Ek a8 X δ) (av f.1))) ?_;rw[am,an];omega
     refine⟨⟨N,g⟩,⟨N1 X δ,N1 aj δ⟩,?_⟩;rintro⟨q,_⟩ _ W;simp only at W|-;refine⟨⟨u.sh f.1 aq,by rw[W];exact Cq b4 δ⟩,?_⟩;rintro⟨bn,_⟩ _ Y;simp only at Y|-;rw[wv ω];have Z:rv ((I9 (.int .i64) f.1 O).getD dQ)=U5 (v.take i.toNat) (H f.1)+rv e.2*A5 (row.take t.toNat) f.1:=u.val f.1;rw[Z,W,H6]at Y;rw[Y];refine⟨⟨ω,ω,u.put ⟨a7.1,a7.2.1⟩ ?_ λj ay=>?_⟩,ω⟩
     . show _ +rv e.2*A5 (row.take (t+1).toNat) f.1= _;rw[a4,qR rfl,g5b, <-xH]
     show _ +rv e.2*A5 (row.take (t+1).toNat) j= _ +rv e.2*A5 (row.take t.toNat) j;rw[a4,qL (λe=>ay e.symm),rH]
   have g:=qB g;rw[E8 (l:=row) (i:=t) ω]at u;rw[wv ω];refine⟨⟨ω,ω,?_⟩,ω⟩;have:(λj=>U5 (v.take (i+1).toNat) (H j))=λj=>U5 (v.take i.toNat) (H j)+rv e.2*A5 row j:=by
    funext j;rw[b5,ar]
   show OJ C (λj=>U5 (v.take (i+1).toNat) (H j)) O;rw[this];exact u
 have h:=qB h;rw[E8 ω]at c;have bg:=c.len;refine⟨⟨ω,c.nd⟩,λl U b0=>?_⟩;have b2:l.Nodup:=U.nodup_iff.2 c.nd;have b1:l.Pairwise (· < ·):=by
  refine g1e ?_ b0 b2;intro bb bc a2 a3;omega
 have bh:l.length<=16384:=by
  have:=U.length_eq;rw[tG]at this;omega
 have ad:∀j,j∈l↔j∈F.map λe=>e.1:=λj=>U.mem_iff
 refine⟨λp=>0<=p.2.1/\p.2.1<=(l.length:Int)/\p.1.length<=p.2.1.toNat/\V2 p.1/\(∀e∈p.1,e.1∈l.take p.2.1.toNat)/\(∀j∈l.take p.2.1.toNat,A5 p.1 j=U5 v (H j)),λp=>((l.length:Int)-p.2.1).toNat,⟨qG _,qF _,qV _,Ji,λ_ h=>(by cases h),by simp⟩,?_⟩;rintro⟨(out:List D5),(j:Int),_⟩ _ ⟨o,a2,a3,G,s,A⟩;simp only at o a2 a3 G s A|-;refine⟨λh=>?_,λh=>?_⟩
 . have h:=qA h;have aw:=K6 (d:=(0:Int)) o h;have E:l.take (j+1).toNat=l.take j.toNat++ [gx 0 l j]:=by
    rw[(ω:(j+1).toNat=j.toNat+1),rP,H1 (d:=(0:Int)) o h];rfl
   have ab:∀y∈l.take j.toNat,y<gx 0 l j:=λy hy=>by
    have:(l.take (j+1).toNat).Pairwise (· < ·):=b1.take;rw[E,sX]at this;exact this.2.2 y hy _ (qJ.2 rfl)
   have ax:gx 0 l j∈l:=F4 (d:=(0:Int)) o h;rw[<-aw];generalize gx 0 l j=i at*;have Z:(I9 (.int .i64) i F).getD dQ=rc (U5 v (H i)):=by
    rcases c.at i with B| ⟨_,_,B⟩
    . exact B
    exact absurd ((ad i).1 ax) B
   rw[Z];have ah:∀e∈out,e.1<i:=λe a=>ab _ (s e a)
   have ae:A5 out i=0:=D4 λe a a6=>by have:=ah e a;omega
   refine⟨λp=>p.1.length<=(j+1).toNat/\V2 p.1/\(∀e∈p.1,e.1∈l.take (j+1).toNat)/\∀k∈l.take (j+1).toNat,A5 p.1 k=U5 v (H k),⟨⟨o,h⟩,trivial,?_⟩,?_⟩
   . rintro⟨bm,_⟩ _ J;simp only at J|-;rw[H6]at J;refine⟨λr=>⟨⟨by simp only[qY];omega,by simp only[qY];omega⟩,by show(out++ [(i,_)]).length<= _;simp;omega,?_,λe a=>?_,λk b=>?_⟩,λr=>⟨by show out.length<= _;omega,G,λe a=>by rw[E];exact qU.2 (.inl (s e a)),λk b=>?_⟩⟩
     . have r:=qA r;exact Gb G (λo=>r (by rw[J,o];rfl)) ah
     . rw[E];rcases qU.1 a with a|a
       . exact qU.2 (.inl (s e a))
       rw[qJ.1 a];exact qU.2 (.inr (qJ.2 rfl))
     . show A5 (out++ [(i,rc (U5 v (H i)))]) k=U5 v (H k);rw[Cj];rw[E]at b;rcases qU.1 b with b|b
       . have:=ab k b;rw[qL ω,rH,A k b]
       rw[qJ.1 b,qR rfl,ae,tB]
     have r:=qB r;have b7:U5 v (H i)=0:=AV (by rw[<-J];exact sF.1 r);rw[E]at b;show A5 out k=U5 v (H k);rcases qU.1 b with b|b
     . exact A k b
     rw[qJ.1 b,ae,b7]
   rintro⟨bl,_⟩ _ af;simp only at af|-;rw[wv ω];exact⟨⟨ω,ω,af⟩,ω⟩
 have h:=qB h;rw[E8 ω]at s A;refine⟨G,λi=>?_⟩;show A5 out i=U5 v (H i);by_cases T:i∈l
 . exact A i T
 rw[D4 λe a a6=>T (by rw[<-a6];exact s e a)];have:=c.val i;rw[YK λB=>T ((ad i).2 B)]at this;exact ZY.symm.trans this
def RJ:su Hk HJ:=λx V E=>by
 obtain⟨⟨(R:Int),(C:Int),D⟩,⟨(R':Int),(C':Int),D'⟩,_⟩:=x;change List (List D5)at D D';obtain⟨F,G,P⟩:N4 K0 (R,C,D)/\N4 K0 (R',C',D')/\C<=1000:=E;simp only[HJ,iB,Jp,UP];refine⟨trivial,?_⟩;rintro⟨B,_⟩ _ f;simp only at f|-;refine⟨λ_=>trivial,?_⟩;rintro⟨W,_⟩ r;simp only at r|-;rw[H3];by_cases a:A4 (R,C,D)
 . have f:B=true:=by rw[f];exact rA a
   have r:=(r (by rw[f];rfl)).2;rw[f,r];by_cases b:A4 (R',C',D')
   . rw[rA b];refine⟨λh=>(by cases h),λ_=>⟨λh=>?_,λh=>?_⟩⟩
     . have h:=qA h;exact⟨λh=>absurd ⟨a,b⟩ h,λ_=>⟨λ_=>⟨rfl,by trivial⟩,λs=>absurd s h⟩⟩
     have h:=sF.1 (qB h);obtain⟨v,I,J,M,_,_⟩:=id a;have Y:(D.length:Int)=R:=a.2.2.2.2.1;have N:∀w∈D,E3 w C:=a.2.2.2.2.2;have Z:0<=C':=b.2.2.1;have a0:(D'.length:Int)=R':=b.2.2.2.2.1;have O:∀w∈D',E3 w C':=b.2.2.2.2.2;simp only at v I J M;refine⟨⟨v,qG _,ω,ω⟩,?_⟩;refine⟨λp=>0<=p.1/\p.1<=R/\XS R.toNat p.1.toNat (λi=>Ws C'.toNat λj=>B8 C.toNat λk=>el (R,C,D) i k*el (R',C',D') k j) p.2.1,λp=>(R-p.1).toNat,⟨qG _,v,A2n rG⟩,?_⟩;rintro⟨(k:Int),rows,_⟩ _ ⟨g,H,o⟩;change List (List D5)at rows;simp only at g H o|-;have:=o.1;refine⟨λc=>?_,λc=>?_⟩
     . have c:=qA c;have t:=F4 (d:=([]:List D5)) g c;rw[Il g c]at t|-;have u:=N _ t;refine⟨⟨g,c⟩,⟨Mq a F t,G,b,by rw[<-h];exact u,ω⟩,?_⟩;rintro⟨X,_⟩ _ A;simp only at A|-;rw[wv ω];have z:∀j:Int,U5 (D.getD k.toNat []) (λk=>A5 (D'.getD k.toNat []) j)=B8 C.toNat λl=>el (R,C,D) k.toNat l*A5 (D'.getD l []) j:=λj=>by
        rw[VD (n:=C.toNat) λe y=>⟨(u.2 e y).1,by have:=(u.2 e y).2.1;omega⟩];exact B6 λl _=>by rw[qQ];rfl
       refine⟨⟨g,ω⟩,⟨ω,ω,PQ o g ω ?_⟩,ω⟩;refine VG A (λj T=>?_) λj _=>?_
       . rw[z];refine Ae λl U=>?_
         rw[EQ (O _ (C6 (l:=D') (i:=l) ω)) (ω:¬(0<=j/\j<C')),tA]
       rw[z];rfl
     have c:=qB c;exact⟨λh=>absurd ⟨a,b⟩ h,λ_=>⟨λs=>absurd h s,λ_=>⟨⟨by show R= _;omega,by show C'= _;omega,o.1,λi Q=>o.2 i ω⟩,by trivial⟩⟩⟩
   rw[rC b];exact⟨λ_=>⟨λ_=>⟨rfl,by trivial⟩,λh=>absurd h.2 b⟩,λh=>(by cases h)⟩
 have f:B=false:=by rw[f];exact rC a
 rw[f];exact⟨λ_=>⟨λ_=>⟨rfl,by trivial⟩,λh=>absurd h.1 a⟩,λh=>(by simp at h)⟩
def VH {n:Nat} {f:Nat->Rat} {v:List D5} (h:Ws n f v):v.length<=n:=by
 have:=Eb (DW h);omega
def Wg:su Q9 Kr:=λx ak a5=>by
 obtain⟨⟨(R:Int),(C:Int),D⟩,_⟩:=x;change List (List D5)at D;have a6:N4 K1 (R,C,D):=a5;simp only[Kr,iB,N2,Jp];refine⟨trivial,?_⟩;rintro⟨X,_⟩ _ u;simp only at u|-;by_cases s:A4 (R,C,D)
 . have u:X=true:=by rw[u];exact rA s
   rw[u];obtain⟨Y,ac,Z,ad,_,_⟩:=id s;have am:(D.length:Int)=R:=s.2.2.2.2.1;have ae:∀w∈D,E3 w C:=s.2.2.2.2.2;simp only at Y ac Z ad;refine⟨λh=>(by cases h),λ_=>⟨⟨Z,qG _,ω,ω⟩,?_⟩⟩;refine⟨λp=>0<=p.1/\p.1<=R/\p.2.1.length=C.toNat/\∀j,j<C.toNat->Ws p.1.toNat (λi=>el (R,C,D) i j) (p.2.1.getD j []),λp=>(R-p.1).toNat,⟨qG _,Y,rG,λj f=>?_⟩,?_⟩
   . have e:(List.replicate C.toNat ([]:List D5)).getD j []= []:=by
      rw[qE,uD,qR f];rfl
     show Ws _ _ ((List.replicate C.toNat ([]:List D5)).getD j []);rw[e];exact⟨Ji,λ_ h=>(by cases h),λi z=>by simp at z⟩
   rintro⟨(k:Int),rows,_⟩ _ ⟨F,aa,M,E⟩;change List (List D5)at rows;simp only at F aa M E|-;refine⟨λr=>?_,λr=>?_⟩
   . have r:=qA r;have N:=F4 (d:=([]:List D5)) F r;rw[Il F r]at N|-;have W:=ae _ N;have P:=Mq s a6 N;have a2:∀j:Nat,A5 (D.getD k.toNat []) (j:Int)=el (R,C,D) k.toNat j:=λj=>rfl
     generalize D.getD k.toNat []=row at*;have aj:=P.2.2;refine⟨⟨F,r⟩,λp=>0<=p.1/\p.1<=(row.length:Int)/\p.2.1.length=C.toNat/\∀j,j<C.toNat->Ws (k+1).toNat (λi=>if i<k.toNat then el (R,C,D) i j else A5 (row.take p.1.toNat) (j:Int)) (p.2.1.getD j []),λp=>((row.length:Int)-p.1).toNat,⟨qG _,qF _,M,λj f=>?_⟩,?_⟩
     . obtain⟨v,y,B⟩:=E j f;refine⟨v,λe I=>by have:=y e I;omega,λi z=>?_⟩;dsimp only;by_cases c:i<k.toNat
       . rw[qR c];exact B i c
       rw[qL c,D4 λe I ah=>by have:=(y e I).2;omega];rfl
     rintro⟨(t:Int),o,_⟩ _ ⟨A,ab,G,of⟩;change List (List D5)at o;simp only at A ab G of|-;refine⟨λg=>?_,λg=>?_⟩
     . have g:=qA g;have V:=F4 (d:=D8) A g;obtain⟨Q,af,a0⟩:=W.2 _ V;have a7:=P.2.1 _ V;have H:=DF (d:=D8) A g;have U:A5 (row.take t.toNat) (gx D8 row t).1=0:=by
        refine D4 λx J T=>?_
        have n:(row.take (t+1).toNat).Pairwise (λa b=>a.1<b.1):=P.1.take;rw[(ω:(t+1).toNat=t.toNat+1),rP,H1 (d:=D8) A g,sX]at n;have:=n.2.2 x J (gx D8 row t) (by simp);omega
       generalize gx D8 row t=e at*;have a8:J8 e.2:=N1 a7 δ;have A1:t<(row.length:Int):=g;have B1:e.1<(o.length:Int):=by rw[G];omega
       have O:=of e.1.toNat ω;have a3:=VH O;have L1:((o.getD e.1.toNat []).length+ [(k,rc (rv e.2))].length)*64<=140737488355328:=by simp only[qY];omega
       have L2:(o.getD e.1.toNat []).length+ [(k,rc (rv e.2))].length<=9223372036854775807:=by simp only[qY];omega
       have a9:i64.wrap (t+1)=t+1:=wv ω;rw[a9];have I1:0<=t+1:=ω
       have I2:t+1<=(row.length:Int):=ω
       have I3:(o.set e.1.toNat (o.getD e.1.toNat []++ [(k,rc (rv e.2))])).length=C.toNat:=by rw[qT];exact G
       have I4:∀j,j<C.toNat->Ws (k+1).toNat (λi=>if i<k.toNat then el (R,C,D) i j else A5 (row.take (t+1).toNat) (j:Int)) ((o.set e.1.toNat (o.getD e.1.toNat []++ [(k,rc (rv e.2))])).getD j []):=λj f=>by
        rw[qE,vV];by_cases J:e.1.toNat=j
        . rw[qR J,qR ω];subst J;obtain⟨v,y,B⟩:=O;have a4:∀x∈o.getD e.1.toNat [],x.1<k:=λx n=>by
           have ag:=y x n;have T:=(v.2 x n).1;rw[<-O0 v.1 n]at T;refine rB λai=>T ?_
           have a1:x.1=((k.toNat:Nat):Int):=ω
           rw[a1,B k.toNat ω];dsimp only;rw[qL ω,(ω:((e.1.toNat:Nat):Int)=e.1)];exact U
          refine⟨Gb v a0 a4,λx n=>?_,λi z=>?_⟩
          . rcases qU.1 n with n|n
            . exact y x n
            rw[qJ.1 n];show 0<=k/\k< _;omega
          show A5 (o.getD e.1.toNat []++ [(k,rc (rv e.2))]) (i:Int)= _;rw[Cj,B i z];dsimp only;rw[H,qR (ω:e.1=((e.1.toNat:Nat):Int))];by_cases c:i<k.toNat
          . rw[qR c,qR c,qL ω,rH]
          rw[qL c,qL c,qR ω]
        rw[qL J, <-qE];refine Rt (of j f) λi _=>?_
        rw[H,qL (ω:¬e.1=(j:Int)),rH]
       have M1:((row.length:Int)-(t+1)).toNat<((row.length:Int)-t).toNat:=ω
       clear O a3 H U of E W
       repeat' first
        |exact⟨⟨Q,B1⟩,by trivial,⟨I1,I2,I3,I4⟩,M1⟩
        |exact⟨L1,L2⟩
        |exact⟨Q,B1⟩
        |exact⟨A,A1⟩
        |exact a8
        |apply And.intro
        | (rintro⟨q,_⟩ _ n;simp only at n|-;subst n)
     have g:=qB g;rw[wv ω];rw[E8 (l:=row) (i:=t) ω]at of;refine⟨⟨ω,ω,G,λj f=>Rt (of j f) λi z=>?_⟩,ω⟩;by_cases c:i<k.toNat
     . rw[qR c]
     rw[qL c,a2,(ω:i=k.toNat)]
   have r:=qB r;exact⟨λh=>absurd s h,λ_=>⟨⟨by show C= _;omega,by show R= _;omega,M,λj f=>by
    have:=E j f;rw[(ω:k.toNat=R.toNat)]at this;exact this⟩,by trivial⟩⟩
 have u:X=false:=by rw[u];exact rC s
 rw[u];exact⟨λ_=>⟨λ_=>⟨rfl,by trivial⟩,λh=>absurd h s⟩,λh=>(by cases h)⟩
def Hz:su J6 Ci:=λx t c=>by
 obtain⟨l,⟨u,f⟩,_⟩:=x;have w:l.length<=9223372036854775807:=t.1.1;change Wf at l;have c:∀i∈l,u (i,()):=c;simp only[Ci,iB];refine⟨λp=>0<=p.1/\p.1<=(l.length:Int)/\∀y∈l.take p.1.toNat,f (y,())=false,λp=>((l.length:Int)-p.1).toNat,⟨qG _,qF _,by simp⟩,?_⟩;rintro⟨(i:Int),_⟩ _ ⟨a,n,b⟩;simp only at a n b|-;refine⟨λh=>?_,λh=>?_⟩
 . have h:=qA h;refine⟨⟨a,h⟩,by trivial,c _ (F4 a h),λ_=>⟨λs=>?_,λo=>?_⟩⟩
   . have r:l.findIdx? (λi=>f (i,()))=some i.toNat:=by
      rw[zV];have g:=H1 (d:=(0:Int)) a h;have j:i.toNat<l.length:=ω
      rw[qM j]at g;refine⟨j,by rw[xQ g];exact s,λk v=>?_⟩;have:=b l[k] (vE.2 ⟨k,by rw[qZ];omega,by simp⟩);simp[this]
     unfold oM;rw[r];show i=((i.toNat:Nat):Int);omega
   rw[wv ω];exact⟨⟨ω,ω,Jh a h b o⟩,ω⟩
 have h:=qB h;rw[E8 ω]at b;unfold oM;have:l.findIdx? (λi=>f (i,()))=none:=by
  rw[g1n];exact b
 rw[this]
def B8c (p:Int->Bool) (l:Wf):0<=oM p l↔∃i,i∈l/\p i=true:=by
 unfold oM;cases h:l.findIdx? p with
 |none=>
  rw[g1n]at h;constructor
  . intro b;simp at b
  rintro⟨i,c,a⟩;have:=h i c;rw[this]at a;cases a
 |some k=>
  rw[zV]at h;obtain⟨a,b,_⟩:=h;exact⟨λ_=>⟨_,wC a,b⟩,λ_=>qF _⟩
def Fy:su F8 Z6:=λx d a=>by
 obtain⟨(l:Wf),⟨c,f⟩,_⟩:=x;have a:∀i∈l,c (i,()):=a;simp only[Z6,Et];refine⟨by trivial,by trivial,a,?_⟩;rintro⟨r,_⟩ _ b;simp only at b|-;rw[b];exact vR.2 (B8c _ _)
def Ts:su M0 Kc:=λx a _=>by
 simp only[Kc];rw[H3,Bool.decide_or]
def A8j {a b:List D5} (h:a.Perm b) (j:Int):A5 a j=A5 b j:=by
 induction h with
 |nil=>rfl
 |cons e _ c=>rw[A5,A5,c]
 |swap e f l=>simp only[A5];rw[<-xH, <-xH,yD (if f.1=j then rv f.2 else 0)]
 |trans _ _ c d=>rw[c,d]
def B7m {a b:Int} (h:¬N3 b a<0):a<=b:=by
 unfold N3 at h;split at h
 . omega
 split at h<;>omega
def GJ:su Bw Tr:=λx bs bl=>by
 obtain⟨⟨R,C,D⟩,rows,a,_⟩:=x;have cb:LR (R,C,D):=Oo bs.1.2.2.2;change Int at R C;change List (List D5)at D;change Wf at rows a;obtain⟨⟨bn,cc,ca⟩,aw⟩:(N4 K1 (R,C,D)/\rows.length<=1000/\a.length<=1000)/\a.Nodup:=by
  obtain⟨B,E,r,d⟩:=bl;exact⟨⟨B,E,r⟩,d⟩
 simp only[Tr,iB,N2,Jp];refine⟨trivial,?_⟩;rintro⟨b2,_⟩ _ H;simp only at H|-;by_cases v:A4 (R,C,D)
 . have H:b2=true:=by rw[H];exact rA v
   rw[H];obtain⟨c0,c2,c3,c4,_,_⟩:=id v;have cg:(D.length:Int)=R:=v.2.2.2.2.1;have c5:∀w∈D,E3 w C:=v.2.2.2.2.2;simp only at c0 c2 c3 c4;refine⟨λh=>(by cases h),λ_=>⟨by trivial,by trivial,λ_ _=>trivial,?_⟩⟩;rintro⟨a6,_⟩ _ a0;simp only at a0|-;refine⟨by trivial,by trivial,λ_ _ _=>trivial,?_⟩;rintro⟨b3,_⟩ U;simp only at U|-;rw[H3];have aj:(a6||b3)=true↔((∃i,i∈rows/\(i<0\/R<=i))\/∃i,i∈a/\(i<0\/C<=i)):=by
    by_cases f:∃i,i∈rows/\(i<0\/R<=i)
    . have:a6=true:=by
       rw[a0];obtain⟨i,b,c⟩:=f;exact rA ⟨i,b,rA c⟩
      rw[this];exact⟨λ_=> .inl f,λ_=>rfl⟩
    have am:a6=false:=by
     rw[a0];exact rC fun⟨i,b,c⟩=>f ⟨i,b,qA c⟩
    have U:=(U am).2;rw[am,wH,U];constructor
    . intro h;obtain⟨i,b,c⟩:=qA h;exact .inr ⟨i,b,qA c⟩
    rintro(h| ⟨i,b,c⟩)
    . exact absurd h f
    exact rA ⟨i,b,rA c⟩
   refine⟨λh=>?_,λh=>⟨trivial,?_⟩⟩
   . have h:=aj.1 h;exact⟨λg=>absurd v g,λ_=>⟨λ_=>⟨rfl,by trivial⟩,λg=>absurd h g⟩⟩
   have ac:¬((∃i,i∈rows/\(i<0\/R<=i))\/∃i,i∈a/\(i<0\/C<=i)):=λg=>by rw[aj.2 g]at h;cases h
   have bm:∀i∈rows,0<=i/\i<R:=λi b=>rB λhn=>ac (.inl ⟨i,b,ω⟩)
   have be:∀i∈a,0<=i/\i<C:=λi b=>rB λhn=>ac (.inr ⟨i,b,ω⟩)
   rintro⟨b4,_⟩ _ a7;simp only at a7|-;refine⟨λ_=>trivial,?_⟩;rintro⟨b5,_⟩ a8;simp only at a8|-;have M:b4=true:=by rw[a7];exact rA ⟨ω,ω⟩
   have F:b5=true:=by rw[(a8 (by rw[M];rfl)).2];exact rA ⟨ω,ω⟩
   rw[M,F];refine⟨λh=>(by cases h),λ_=>?_⟩;clear a0 U a7 a8 aj h;refine⟨λp=>0<=p.1/\p.1<=(a.length:Int)/\(∀k:Nat,k<p.1.toNat->I9 (.int .i64) (a.getD k 0) p.2.1=some [(k:Int)])/\∀r,r∉a.take p.1.toNat->I9 (.int .i64) r p.2.1=Option.none,λp=>((a.length:Int)-p.1).toNat,⟨qG _,qF _,λk o=>by simp at o,λ_ _=>rfl⟩,?_⟩;rintro⟨(i:Int),J,_⟩ _ ⟨ai,bt,a1,W⟩;change List (Int×Wf)at J;simp only at ai bt a1 W|-;refine⟨λb=>?_,λb=>?_⟩
   . have b:=qA b;have a9:=K6 (d:=(0:Int)) ai b;have ar:i.toNat<a.length:=ω
     have b0:a.take (i+1).toNat=a.take i.toNat++ [a.getD i.toNat 0]:=by
      rw[(ω:(i+1).toNat=i.toNat+1),rP,qM ar,G6 _ _ ar];rfl
     have ax:a.getD i.toNat 0∉a.take i.toNat:=λaa=>by
      have f:(a.take (i+1).toNat).Nodup:=aw.take;rw[b0,sZ]at f;exact f.2.2 _ aa _ (qJ.2 rfl) rfl
     rw[a9,wv ω];refine⟨⟨ai,b⟩,W _ ax,⟨by simp only[qY];omega,by simp only[qY];omega⟩,⟨ω,ω,λk o=>?_,λr c=>?_⟩,ω⟩
     . show I9 (.int .i64) (a.getD k 0) (Ev (.int .i64) (a.getD i.toNat 0) [i] J)= _;rw[DZ];by_cases aq:k=i.toNat
       . rw[qR (by rw[aq]),aq,(ω:((i.toNat:Nat):Int)=i)]
       have bi:k<i.toNat:=by have o:k<(i+1).toNat:=o;omega
       rw[qL,a1 k bi];intro bg;apply ax;rw[<-bg,G6 _ _ (ω:k<a.length)];exact vE.2 ⟨k,by rw[qZ];omega,by simp⟩
     show I9 (.int .i64) r (Ev (.int .i64) (a.getD i.toNat 0) [i] J)= _;have c:r∉a.take (i+1).toNat:=c;rw[b0,qU,qJ,g4z]at c;rw[DZ,qL c.2,W r c.1]
   have b:=qB b;rw[E8 ω]at W;have aa:i.toNat=a.length:=ω
   rw[aa]at a1;rw[qQ];refine⟨⟨ω,qG _,ω,ω⟩,λp=>0<=p.1/\p.1<=(rows.length:Int)/\XS rows.length p.1.toNat (λi=>Ws a.length λj=>el (R,C,D) (rows.getD i 0).toNat (a.getD j 0).toNat) p.2.1,λp=>((rows.length:Int)-p.1).toNat,⟨qG _,qF _,A2n rG⟩,?_⟩;rintro⟨(k:Int),out,_⟩ _ ⟨O,bu,V⟩;change List (List D5)at out;simp only at O bu V|-;have cd:=V.1;refine⟨λo=>?_,λo=>?_⟩
   . have o:=qA o;have a9:=K6 (d:=(0:Int)) O o;have ae:=bm _ (F4 (d:=(0:Int)) O o);rw[a9]at ae|-;have bh:∀ {w:List D5},Ws a.length (λj=>el (R,C,D) (rows.getD k.toNat 0).toNat (a.getD j 0).toNat) w->XS rows.length (k+1).toNat (λi=>Ws a.length λj=>el (R,C,D) (rows.getD i 0).toNat (a.getD j 0).toNat) (out.set k.toNat w):=λ{w} hw2=>PQ V O o hw2
     generalize rows.getD k.toNat 0=Z at*;have az:Z<(D.length:Int):=ω
     rw[Il ae.1 az];have au:D.getD Z.toNat []∈D:=C6 ω;have af:=Mq v bn au;have bq:=c5 _ au;have bc:∀r:Int,0<=r->A5 (D.getD Z.toNat []) r=el (R,C,D) Z.toNat r.toNat:=λr c=>B2b _ _ c
     generalize D.getD Z.toNat []=row at*;have cf:=af.2.2;refine⟨⟨O,o⟩,⟨ae.1,az⟩,λp=>0<=p.2.1/\p.2.1<=(row.length:Int)/\p.1.length<=p.2.1.toNat/\(p.1.map λe=>e.1).Nodup/\(∀x∈p.1,∃q:Nat,q<a.length/\x.1=(q:Int)/\(∃y∈row.take p.2.1.toNat,y.1=a.getD q 0)/\rv x.2≠0/\x.2=rc (rv x.2))/\∀j:Nat,j<a.length->A5 p.1 (j:Int)=A5 (row.take p.2.1.toNat) (a.getD j 0),λp=>((row.length:Int)-p.2.1).toNat,⟨qG _,qF _,qV _,wT,λ_ h=>(by cases h),λj _=>rfl⟩,?_⟩;rintro⟨(P:List D5),(t:Int),_⟩ _ ⟨Q,bx,bv,a3,a4,Y⟩;simp only at Q bx bv a3 a4 Y|-;refine⟨λu=>?_,λu=>?_⟩
     . have u:=qA u;have ap:=F4 (d:=D8) Q u;obtain⟨c6,c7,b6⟩:=bq.2 _ ap;have bo:=af.2.1 _ ap;have bf:=DF (d:=D8) Q u;have bb:∀y∈row.take t.toNat,y.1≠(gx D8 row t).1:=λx n hxe=>by
        have f:(row.take (t+1).toNat).Pairwise (λB E=>B.1<E.1):=af.1.take;rw[(ω:(t+1).toNat=t.toNat+1),rP,H1 (d:=D8) Q u,sX]at f;have:=f.2.2 x n (gx D8 row t) (by simp);omega
       have bp:∀y∈row.take t.toNat,y∈row.take (t+1).toNat:=λy X=>by
        rw[(ω:(t+1).toNat=t.toNat+1),rP];exact qU.2 (.inl X)
       have bk:gx D8 row t∈row.take (t+1).toNat:=by
        rw[(ω:(t+1).toNat=t.toNat+1),rP,H1 (d:=D8) Q u];simp
       generalize gx D8 row t=e at*;have N:(I9 (.int .i64) e.1 J).getD []= []/\e.1∉a\/∃q:Nat,q<a.length/\a.getD q 0=e.1/\(I9 (.int .i64) e.1 J).getD []= [(q:Int)]:=by
        by_cases c:e.1∈a
        . obtain⟨q,A,G⟩:=R8 0 c;have:=a1 q A;rw[G]at this;exact .inr ⟨q,A,G,by rw[this];rfl⟩
        exact .inl ⟨by rw[W _ c];rfl,c⟩
       generalize (I9 (.int .i64) e.1 J).getD []=L at*;have c8:L.length<=1:=by
        rcases N with⟨h,_⟩ | ⟨q,_,_,h⟩<;>rw[h]<;>simp
       refine⟨⟨Q,u⟩,λp=>0<=p.2.1/\p.2.1<=(L.length:Int)/\p.1=P++(L.take p.2.1.toNat).map λq=>(q,rc (rv e.2)),λp=>((L.length:Int)-p.2.1).toNat,⟨qG _,qF _,by simp⟩,?_⟩;rintro⟨(b1:List D5),(a5:Int),_⟩ _ ⟨ak,bz,z⟩;simp only at ak bz z|-;have ce:b1.length<=P.length+1:=by
        rw[z,rQ,tG,qZ];omega
       refine⟨λI=>?_,λI=>?_⟩
       . have I:=qA I;refine⟨⟨ak,I⟩,N1 bo δ,?_⟩;rintro⟨q,_⟩ _ A;simp only at A|-;rw[wv ω];refine⟨⟨by simp only[qY];omega,by simp only[qY];omega⟩,⟨ω,ω,?_⟩,ω⟩;rw[z,A,(ω:(a5+1).toNat=a5.toNat+1),rP,H1 (d:=(0:Int)) ak I,vY,uC];rfl
       have I:=qB I;rw[E8 (l:=L) (i:=a5) ω]at z;rw[wv ω];have ao:∀j:Nat,j<a.length->A5 (row.take (t+1).toNat) (a.getD j 0)=A5 (row.take t.toNat) (a.getD j 0)+if e.1=a.getD j 0 then rv e.2 else 0:=λj _=>bf _
       have av:∀x∈P,∃q:Nat,q<a.length/\x.1=(q:Int)/\(∃y∈row.take (t+1).toNat,y.1=a.getD q 0)/\rv x.2≠0/\x.2=rc (rv x.2):=λx n=>by
        obtain⟨q,f,g,⟨y,X,M⟩,F,T⟩:=a4 x n;exact⟨q,f,g,⟨y,bp y X,M⟩,F,T⟩
       rcases N with⟨N,bj⟩ | ⟨q,A,G,N⟩
       . rw[N,g2k,vX]at z;subst z;refine⟨⟨ω,ω,ω,a3,av,λj s=>?_⟩,ω⟩;rw[Y j s,ao j s,qL (λh=>bj (by rw[h];exact C6 s)),rH]
       rw[N,rW,g2k]at z;subst z;refine⟨⟨ω,ω,ω,?_,λx n=>?_,λj s=>?_⟩,ω⟩
       . show((P++ [((q:Int),rc (rv e.2))]).map λe:D5=>e.1).Nodup;rw[vY,sZ];refine⟨a3,by simp,λB b8 E ba c9=>?_⟩;obtain⟨x,n,rfl⟩:=tT.1 b8;simp only[rW,g2k,qJ]at ba;obtain⟨bw,f,g,⟨y,X,M⟩,_⟩:=a4 x n;have:bw=q:=ω
         subst this;exact bb y X (by rw[M,G])
       . rcases qU.1 n with n|n
         . exact av x n
         rw[qJ.1 n];exact⟨q,A,rfl,⟨e,bk,G.symm⟩,by rw[H6];exact b6,by rw[H6]⟩
       show A5 (P++ [((q:Int),rc (rv e.2))]) (j:Int)= _;rw[Cj,Y j s,ao j s];congr 1;by_cases ay:q=j
       . subst ay;rw[qR rfl,qR G.symm]
       rw[qL ω,qL];intro b7;apply ay;have an:a.getD q 0=a.getD j 0:=G.trans b7;rw[G6 _ _ A,G6 _ _ s]at an;exact(wB aw).1 an
     have u:=qB u;rw[E8 ω]at Y;refine⟨ω,λa2 _ ad ag=>?_⟩;have ag:a2.Pairwise λB E:D5=>¬N3 E.1 B.1<0:=ag
     rw[wv ω];refine⟨⟨O,ω⟩,⟨ω,ω,bh ?_⟩,ω⟩;have ab:(a2.map λe:D5=>e.1).Nodup:=(ad.map _).nodup_iff.2 a3;have b9:asc a2:=by
      unfold List.Nodup at ab;rw[wW]at ab;refine g1e ?_ ag ab;intro B E f g;have:=B7m f;omega
     have n:∀x∈a2,∃q:Nat,q<a.length/\x.1=(q:Int)/\rv x.2≠0/\x.2=rc (rv x.2):=λx n=>by
      obtain⟨q,f,g,_,F,T⟩:=a4 x (ad.mem_iff.1 n);exact⟨q,f,g,F,T⟩
     refine⟨⟨b9,λx ah=>?_⟩,λx ah=>?_,λj s=>?_⟩
     . obtain⟨q,_,_,F,T⟩:=n x ah;exact⟨F,T⟩
     . obtain⟨q,f,g,_⟩:=n x ah;omega
     rw[A8j ad,Y j s];exact bc _ (be _ (C6 s)).1
   have o:=qB o;exact⟨λh=>absurd v h,λ_=>⟨λg=>absurd g ac,λ_=>⟨λg=>absurd g ω,λ_=>⟨⟨rfl,rfl,V.1,λi b=>V.2 i ω⟩,by trivial⟩⟩⟩⟩
 have H:b2=false:=by rw[H];exact rC v
 rw[H];exact⟨λ_=>⟨λ_=>⟨rfl,by trivial⟩,λh=>absurd h v⟩,λh=>(by cases h)⟩
def UZ:su Jx OC:=λx r n=>by
 obtain⟨⟨R,C,D⟩,_⟩:=x;have E:D.length<=9223372036854775807:=r.1.2.2.1;change Int at R C;change List (List D5)at D;have o:N4 K1 (R,C,D):=n;simp only[OC,iB,Jp];simp only[H3];refine⟨λh=>?_,λh=>?_⟩
 . refine(rC λj=>?_).symm;obtain⟨s,t,u,w,y,_⟩:=j;simp only at s t u w y;simp only[tX,rU]at h;omega
 simp only[rE,rM,sF]at h;obtain⟨⟨⟨⟨z,A⟩,B⟩,d⟩,e⟩:=h;refine⟨λp=>0<=p.1/\∀v∈D.take p.1.toNat,E3 v C,λp=>(R-p.1).toNat,⟨qG _,by simp⟩,?_⟩;rintro⟨(k:Int),_⟩ _ ⟨c,f⟩;simp only at c f|-;refine⟨λb=>?_,λb=>?_⟩
 . have b:=qA b;have g:k<(D.length:Int):=ω
   have l:=F4 (d:=([]:List D5)) c g;refine⟨⟨c,g⟩,o _ l,?_⟩;rintro⟨q,_⟩ _ i;simp only at i|-;refine⟨λa=>?_,λa=>?_⟩
   . refine(rC λj=>?_).symm;rw[i,rA (j.2.2.2.2.2 _ l)]at a;cases a
   rw[i]at a;have a:decide (E3 (gx [] D k) C)=true:=by simpa using a
   rw[wv ω];exact⟨⟨ω,Jh (d:=([]:List D5)) (q:=λv=>E3 v C) c g f (qA a)⟩,ω⟩
 have b:=qB b;rw[E8 ω]at f;exact(rA (show A4 (R,C,D)from⟨by show 0<=R;omega,by show R<= _;omega,by show 0<=C;omega,by show C<= _;omega,e,f⟩)).symm
def bX:su Iy TD:=λx J z=>by
 obtain⟨D,C,_⟩:=x;change List (List C7)at D;change Int at C;obtain⟨B,G,c1,I⟩:(∀l∈D,Tj K1 l/\(l.length:Int)=C)/\0<=C/\C<=16384/\D.length<=16384:=z;simp only[TD,iB,UP];refine⟨λp=>0<=p.1/\p.1<=(D.length:Int)/\p.2.1=(D.length:Int)/\p.2.2.1=C/\p.2.2.2.1.length=p.1.toNat/\∀i,i<p.1.toNat->Ws C.toNat (λF=>rv ((D.getD i []).getD F zr)) (p.2.2.2.1.getD i []),λp=>((D.length:Int)-p.1).toNat,⟨qG _,qF _,rfl,rfl,rfl,λi s=>by simp at s⟩,?_⟩;rintro⟨(i:Int),(n:Int),(o:Int),rows,_⟩ _ ⟨a,E,c,j,A,f⟩;change List (List D5)at rows;simp only at a E c j A f|-;refine⟨λh=>?_,λh=>?_⟩
 . have h:=qA h;have y:=F4 (d:=([]:List C7)) a h;obtain⟨r,H⟩:=B _ y;refine⟨⟨a,h⟩,⟨ω,r⟩,?_⟩;rintro⟨v,_⟩ _ g;simp only at g|-;rw[wv ω];rw[(ω:(gx [] D i).length=C.toNat),K6 a h]at g;refine⟨⟨by simp only[qY];omega,by simp only[qY];omega⟩,⟨ω,ω,c,j,by rw[rQ,qY];omega,λk t=>?_⟩,ω⟩;show Ws _ _ ((rows++ [v]).getD k []);by_cases u:k<rows.length
   . have b:(rows++ [v]).getD k []=rows.getD k []:=by
      rw[qE,vF u, <-qE]
     rw[b];exact f k ω
   have w:k=i.toNat:=ω
   have b:(rows++ [v]).getD k []=v:=by
    rw[qE,tS ω,(ω:k-rows.length=0)];rfl
   rw[b,w];exact g
 have h:=qB h;exact⟨c,ω,ω,λk t=>f k ω⟩
def JW:su Dr Xe:=λx z o=>by
 obtain⟨⟨(R:Int),(C:Int),D⟩,_⟩:=x;change List (List D5)at D;obtain⟨r,c⟩:N4 K1 (R,C,D)/\A4 (R,C,D):=o;obtain⟨g,u,l,n,_,_⟩:=id c;have B:(D.length:Int)=R:=c.2.2.2.2.1;have v:∀w∈D,E3 w C:=c.2.2.2.2.2;simp only at g u l n;simp only[Xe,iB];refine⟨⟨g,qG _,ω,ω⟩,λp=>0<=p.1/\p.1<=R/\fill R.toNat p.1.toNat (λs=>dl C (A5 (D.getD s []))) p.2.1,λp=>(R-p.1).toNat,⟨qG _,g,eU rG⟩,?_⟩;rintro⟨(k:Int),rows,_⟩ _ ⟨a,t,b⟩;change List (List C7)at rows;simp only at a t b|-;have:=b.1;refine⟨λh=>?_,λh=>?_⟩
 . have h:=qA h;have f:k<(D.length:Int):=ω
   have j:=F4 (d:=([]:List D5)) a f;refine⟨⟨a,f⟩,⟨Mq c r j,v _ j,l,n⟩,?_⟩;rintro⟨A,y,_⟩ _ ⟨i,_⟩;simp only at i|-;rw[wv ω];refine⟨⟨a,ω⟩,⟨ω,ω,Rp b a ω ?_⟩,ω⟩;rw[i,Il a f]
 have h:=qB h;exact Ro b ω
def GN:su Cc Tw:=λx B y=>by
 obtain⟨⟨R,C,D⟩,⟨R',C',D'⟩,_⟩:=x;have E:D.length<=9223372036854775807:=B.1.2.2.1;change Int at R C R' C';change List (List D5)at D D';have z:N4 K1 (R,C,D):=y;simp only[Tw,iB,Jp];simp only[H3];refine⟨λh=>?_,λh=>?_⟩
 . simp only[tX,rU]at h;refine⟨λa=>(by cases a),λa=>?_⟩;have c:=a.1;simp only[g0n]at c;obtain⟨rfl,rfl,rfl⟩:=c;simp at h
 simp only[rE,rM,sF]at h;obtain⟨⟨rfl,rfl⟩,F⟩:=h;refine⟨λp=>0<=p.1/\p.1<=(D.length:Int)/\D.take p.1.toNat=D'.take p.1.toNat/\∀v∈D.take p.1.toNat,∀e∈v,e.2=rc (rv e.2),λp=>((D.length:Int)-p.1).toNat,⟨qG _,qF _,by simp,by simp⟩,?_⟩;rintro⟨(i:Int),_⟩ _ ⟨f,u,a,c⟩;simp only at f u a c|-;refine⟨λh=>?_,λh=>?_⟩
 . have h:=qA h;have o:=F4 (d:=([]:List D5)) f h;have s:=H1 (d:=([]:List D5)) f h;have t:=H1 (d:=([]:List D5)) (l:=D') f ω;have r:D.take (i+1).toNat=D.take i.toNat++ [gx [] D i]:=by
    rw[(ω:(i+1).toNat=i.toNat+1),rP,s];rfl
   have A:D'.take (i+1).toNat=D'.take i.toNat++ [gx [] D' i]:=by
    rw[(ω:(i+1).toNat=i.toNat+1),rP,t];rfl
   refine⟨⟨f,h⟩,⟨f,ω⟩,z _ o,?_⟩;rintro⟨q,_⟩ _ k;simp only at k|-;refine⟨λb=>⟨λj=>(by cases j),λj=>?_⟩,λb=>?_⟩
   . obtain⟨n,w⟩:=j;simp only[g0n,true_and]at n;subst n;rw[k,rA (⟨rfl,w _ o⟩: _ /\ _)]at b;cases b
   rw[k]at b;have b:gx [] D i=gx [] D' i/\∀e∈gx [] D i,e.2=rc (rv e.2):=qA (by simpa using b);rw[wv ω];refine⟨⟨ω,ω,by rw[r,A,a,b.1],λv g=>?_⟩,ω⟩;rw[r]at g;rcases qU.1 g with g|g
   . exact c v g
   rw[qJ.1 g];exact b.2
 have h:=qB h;rw[E8 ω,E8 ω]at a;rw[E8 ω]at c;subst a;exact⟨λ_=>⟨rfl,c⟩,λ_=>by trivial⟩
abbrev T4:=List (Int×Bool)
def S5 (es:T4):Wf:=es.map λe=>e.1
def fI (k:Int) (v:Bool) (es:T4):(S5 es).Nodup->(S5 (Ev (.int .i64) k v es)).Nodup/\∀i,i∈S5 (Ev (.int .i64) k v es)↔i=k\/i∈S5 es:=by
 intro h;unfold S5 at*;rw[PY];by_cases a:k∈es.map λe=>e.1
 . rw[qR a];exact⟨h,λi=>⟨.inr,λf=>f.elim (λe=>e▸a) id⟩⟩
 rw[qL a];refine⟨sZ.2 ⟨h,by simp,λg c j b d=>?_⟩,λi=>?_⟩
 . rw[qJ]at b;exact a (b▸d▸c)
 rw[qU,qJ];exact Or.comm
def fH (k:Int):∀(es:T4),(S5 es).Nodup->(S5 (Qj (.int .i64) k es)).Nodup/\∀i,i∈S5 (Qj (.int .i64) k es)↔i≠k/\i∈S5 es
 | [],h=>⟨h,λi=>⟨λa=>(by cases a),λa=>(by cases a.2)⟩⟩
 |x::r,h=>by
  have d:=sP.1 (show(x.1::S5 r).Nodup from h);have e:Qj (.int .i64) k (x::r)=if k=x.1 then r else x::Qj (.int .i64) k r:=by
   rw[Qj,Jc];by_cases b:k=x.1
   . rw[qR b,rA b];rfl
   rw[qL b,rC b];rfl
  rw[e];by_cases b:k=x.1
  . rw[qR b];refine⟨d.2,λi=>⟨λa=>⟨λe=>d.1 (by rw[<-b, <-e];exact a),qI _ a⟩,λa=>?_⟩⟩;exact(qW.1 (show i∈x.1::S5 r from a.2)).resolve_left λe=>a.1 (by rw[e,b])
  rw[qL b];obtain⟨g,c⟩:=fH k r d.2;refine⟨sP.2 ⟨λl=>d.1 ((c _).1 l).2,g⟩,λi=>?_⟩;constructor
  . intro a;rcases qW.1 (show i∈x.1::S5 (Qj (.int .i64) k r)from a)with rfl|a
    . exact⟨λe=>b e.symm,rD⟩
    exact⟨((c i).1 a).1,qI _ ((c i).1 a).2⟩
  rintro⟨j,f⟩;rcases qW.1 (show i∈x.1::S5 r from f)with rfl|f
  . exact rD
  exact qI _ ((c i).2 ⟨j,f⟩)
def W3 (rows:List (List D5)) (i j:Nat):Rat:=A5 (rows.getD i []) (j:Int)
def C1d (n k:Nat) (p:Nat->Nat) (R:Nat->Nat->Rat) (j:Nat) (es:T4):Prop:=(S5 es).Nodup/\∀i:Int,i∈S5 es↔0<=i/\i<(n:Int)/\(∀a,a<k->i.toNat≠p a)/\R i.toNat j≠0
structure EI (n k:Nat) (S:Nat->Nat) (A:Nat->Nat->Rat) (rest P Q place:Wf) (rows lower:List (List D5)) (cols:List T4):Prop where
 elim:Xp n k A (ix P) (ix Q) (W3 rows) (W3 lower)
 lP:P.length=n
 lQ:Q.length=n
 lpl:place.length=n
 lrows:rows.length=n
 llow:lower.length=n
 lcols:cols.length=n
 P0:∀a,a<k->P.getD a 0=(ix P a:Int)
 Q0:∀a,a<k->Q.getD a 0=(ix Q a:Int)
 pl:∀a,a<k->place.getD (ix Q a) 0=(a:Int)
 rnd:rest.Nodup
 rmem:∀c:Int,c∈rest↔0<=c/\c<(n:Int)/\∀a,a<k->c.toNat≠ix Q a
 can:∀i,i<n->V2 (rows.getD i [])/\(∀e∈rows.getD i [],0<=e.1/\e.1<(n:Int))/\∀j,qs (S k) (A5 (rows.getD i []) j)
 lcan:∀i,i<n->V2 (lower.getD i [])/\(∀e∈lower.getD i [],0<=e.1/\e.1<(k:Int))
 lq:∀i,i<n->∀j,qs (S k) (A5 (lower.getD i []) j)
 fin:∀a,a<k->∀j,qs (S a) (A5 (rows.getD (ix P a) []) j)
 col:∀j:Int,j∈rest->C1d n k (ix P) (W3 rows) j.toNat (cols.getD j.toNat [])
def Ck {P:Wf} {k m:Nat} {v:Int} (h:m≠k):ix (P.set k v) m=ix P m:=by
 unfold ix;rw[qE,tC (Ne.symm h), <-qE]
def E5 {α:Type} {l:List α} {d v:α} {k m:Nat} (h:m≠k):(l.set k v).getD m d=l.getD m d:=by
 rw[qE,tC (Ne.symm h), <-qE]
def C1 {α:Type} {l:List α} {d v:α} {k:Nat} (h:k<l.length):(l.set k v).getD k d=v:=by
 rw[qE,sU h];rfl
def Qh {P:Wf} {k:Nat} {v:Int} (h:k<P.length):ix (P.set k v) k=v.toNat:=by
 unfold ix;rw[C1 h]
variable {n k:Nat} {S:Nat->Nat} {A:Nat->Nat->Rat} {rest P Q place:Wf} {rows lower:List (List D5)} {cols:List T4}
def Xy (k:Nat) (p:Nat->Nat) (R:Nat->Nat->Rat) (r c i:Nat):Rat:=if i=r\/∃a,a<k/\i=p a then 0 else R i c/R r c
def B2p {p:Nat->Nat} {R:Nat->Nat->Rat} {r c:Nat} :Xy k p R r c r=0:=qR (.inl rfl)
def B2o {p:Nat->Nat} {R:Nat->Nat->Rat} {r c a:Nat} (h:a<k):Xy k p R r c (p a)=0:=qR (.inr ⟨a,h,rfl⟩)
def XQ {p:Nat->Nat} {R:Nat->Nat->Rat} {r c i:Nat} (b:i≠r) (d:∀a,a<k->i≠p a):Xy k p R r c i=R i c/R r c:=qL λf=>f.elim b fun⟨a,ha,e⟩=>d a ha e
def EI.step (h:EI n k S A rest P Q place rows lower cols) {r c:Int} (M:c∈rest) (Y:r∈S5 (cols.getD c.toNat [])) {z:Wf} {t v:List (List D5)} {E:List T4}
 (a4:z.Nodup) (a5:∀x,x∈z↔x∈rest/\x≠c) (a0:t.length=n) (a1:v.length=n) (a2:E.length=n)
 (w:∀i,i<n->V2 (t.getD i [])/\(∀e∈t.getD i [],0<=e.1/\e.1<(n:Int))/\(∀j,qs (S (k+1)) (A5 (t.getD i []) j))/\∀j,A5 (t.getD i []) j=A5 (rows.getD i []) j-Xy k (ix P) (W3 rows) r.toNat c.toNat i*A5 (rows.getD r.toNat []) j)
 (G:∀i,i<n->v.getD i []=if Xy k (ix P) (W3 rows) r.toNat c.toNat i=0 then lower.getD i []else lower.getD i []++ [((k:Int),rc (Xy k (ix P) (W3 rows) r.toNat c.toNat i))])
 (Z:S k<=S (k+1)) (a9:∀i,i<n->qs (S (k+1)) (Xy k (ix P) (W3 rows) r.toNat c.toNat i))
 (a8:∀j:Int,j∈z->C1d n (k+1) (ix (P.set k r)) (W3 t) j.toNat (E.getD j.toNat [])):
 EI n (k+1) S A z (P.set k r) (Q.set k c) (place.set c.toNat k) t v E:=by
 obtain⟨aa,c1,D⟩:=(h.rmem c).1 M;obtain⟨ab,X⟩:=h.col c M;obtain⟨ac,ad,a6,a7⟩:=(X r).1 Y;have o:k<n:=by
  rcases sH k n with N|N
  . exact N
  obtain⟨a,l,e⟩:=Df (n:=n) (q:=ix Q) (λa l=>h.elim.qlt a ω) (λa b l hb=>h.elim.qinj a b ω ω) (ω:c.toNat<n);exact absurd e.symm (D a ω)
 have y:∀m,m<k->m≠k:=λm s=>tY s
 have R:∀i,i<n->∀m:Nat,W3 v i m=W3 lower i m+if m=k then Xy k (ix P) (W3 rows) r.toNat c.toNat i else 0:=λi d m=>by
  show A5 (v.getD i []) (m:Int)=A5 (lower.getD i []) (m:Int)+ _;rw[G i d];by_cases u:Xy k (ix P) (W3 rows) r.toNat c.toNat i=0
  . rw[qR u,u];split<;>rw[rH]
  rw[qL u,Cj];congr 1;by_cases s:m=k
  . subst s;rw[qR rfl,qR rfl]
  rw[qL s,qL ω]
 have a3:∀i,i<n->W3 lower i k=0:=λi d=>D4 λe f W=>by
  have:=(h.lcan i d).2 e f;omega
 refine⟨h.elim.step (r:=r.toNat) (c:=c.toNat) (fac:=Xy k (ix P) (W3 rows) r.toNat c.toNat) o ω ω a6 D a7 (λm s=>Ck (y m s)) (Qh (by rw[h.lP];exact o)) (λm s=>Ck (y m s)) (Qh (by rw[h.lQ];exact o)) (λi _ U V=>XQ U V) B2p (λa l=>B2o l) (λi j d _=>(w i d).2.2.2 j) (λi m d s=>?_) (λi d=>?_),?_,?_,?_,a0,a1,a2,λa l=>?_,λa l=>?_,λa l=>?_,a4,λx=>?_,λi d=>⟨(w i d).1,(w i d).2.1,(w i d).2.2.1⟩,λi d=>?_,λi d j=>?_,λa l j=>?_,a8⟩
 . rw[R i d,qL (y m s),rH]
 . rw[R i d,qR rfl,a3 i d,tB]
 . rw[qT];exact h.lP
 . rw[qT];exact h.lQ
 . rw[qT];exact h.lpl
 . by_cases g:a=k
   . subst g;rw[C1 (by rw[h.lP];exact o),Qh (by rw[h.lP];exact o)];omega
   rw[E5 g,Ck g];exact h.P0 a ω
 . by_cases g:a=k
   . subst g;rw[C1 (by rw[h.lQ];exact o),Qh (by rw[h.lQ];exact o)];omega
   rw[E5 g,Ck g];exact h.Q0 a ω
 . by_cases g:a=k
   . subst g;rw[Qh (by rw[h.lQ];exact o),C1 (by rw[h.lpl];omega)]
   rw[Ck g,E5 (λe=>D a ω e.symm)];exact h.pl a ω
 . rw[a5,h.rmem];constructor
   . rintro⟨⟨H,I,B⟩,ae⟩;refine⟨H,I,λa l=>?_⟩;by_cases g:a=k
     . subst g;rw[Qh (by rw[h.lQ];exact o)];omega
     rw[Ck g];exact B a ω
   rintro⟨H,I,B⟩;refine⟨⟨H,I,λa l=>by have:=B a ω;rwa[Ck (y a l)]at this⟩,λe=>?_⟩;have:=B k (rR _);rw[Qh (by rw[h.lQ];exact o),e]at this;exact this rfl
 . rw[G i d];obtain⟨J,F⟩:=h.lcan i d;split
   . exact⟨J,λe f=>by have:=F e f;omega⟩
   rename_i u;refine⟨Gb J u λe f=>(F e f).2,λe f=>?_⟩;rcases qU.1 f with f|f
   . have:=F e f;omega
   rw[qJ]at f;subst f;simp only;omega
 . rw[G i d];have T:=G3 (h.lq i d j) Z;split
   . exact T
   rw[Cj];by_cases O:(k:Int)=j
   . rw[qR O,D4 λe f W=>by have:=(h.lcan i d).2 e f;omega,tB];exact a9 i d
   rw[qL O,rH];exact T
 have f:∀i,i<n->Xy k (ix P) (W3 rows) r.toNat c.toNat i=0->A5 (t.getD i []) j=A5 (rows.getD i []) j:=λi d h0=>by
  rw[(w i d).2.2.2 j,h0,sO,tL,wK,rH]
 by_cases g:a=k
 . subst g;rw[Qh (by rw[h.lP];exact o),f _ ω B2p];exact(h.can r.toNat ω).2.2 j
 rw[Ck g,f _ (h.elim.plt a ω) (B2o ω)];exact h.fin a ω j
def EI.stuck (h:EI n k S A rest P Q place rows lower cols) {c:Int} (a:c∈rest) (f:cols.getD c.toNat []= []):¬nonsing n A:=by
 obtain⟨l,c1,b⟩:=(h.rmem c).1 a;obtain⟨_,g⟩:=h.col c a;refine h.elim.stuck (c:=c.toNat) ω b λj o d=>rB λi=>?_
 have:=(g (j:Int)).2 ⟨qF _,ω,d,i⟩;rw[f]at this;cases this
def NL:su Fe BL:=λx _ ad=>by
 obtain⟨(Z:Wf),(I:Int),_⟩:=x;obtain⟨ap,aq⟩:1<=I/\I<=20:=ad;simp only[BL,iB,N2,rT1];refine⟨trivial,?_⟩;rintro⟨⟨tl,ti⟩,_⟩ _ X;simp only at X|-;have af:ti=0:=sA Prod.snd X;subst af;refine⟨⟨ω,qG _,qF _⟩,?_⟩;rintro⟨(t:Int),_⟩ ⟨⟨av,ar⟩,_⟩ _ _ ⟨ah,ai⟩ ⟨a0,a1,a2⟩;simp only at ah ai a0 a1 a2|-;have ag:i64.wrap (1+t)=1+t:=wv ω;simp only[ag];refine⟨⟨ω,ω,ω,ω,a1,by rw[a0];exact a2⟩,?_⟩;rintro⟨⟨(R:Int),(C:Int),D⟩,_⟩ ⟨⟨aw,au⟩,_⟩ _ _ l ⟨a3,a4,a5⟩;change List (List D5)at D;simp only at l a3 a4 a5|-;obtain⟨n,y,l⟩:=l;have Y:A4 (R,C,D):=W6 l ω ω;have ae:N4 K1 (R,C,D):=Fu l δ λi j _ _=>G3 (y i j) δ
 obtain⟨aa,a8,a9,V⟩:=id l;simp only at aa a8 a9 V;have ak:∀w∈D,E3 w C:=Y.2.2.2.2.2;generalize an:(1+t).toNat=N at*;have ao:(N:Int)=1+t:=ω
 refine⟨λp=>∃u:Nat->Nat->Rat,(∀i j,qs 4 (u i j))/\Ep N N u (p.1,p.2.1,p.2.2.1),⟨⟨ω,a4,by rw[a3];exact a5⟩,?_⟩,?_⟩
 . rintro⟨(a7:Int),_⟩ ⟨ax,_⟩ _ _ _ _;simp only;refine⟨λ_=>⟨⟨ω,qG _,ω,ω⟩,λp=>0<=p.1/\p.1<=R/\fill R.toNat p.1.toNat (λi=>dl C (A5 (D.getD i []))) p.2.1,λp=>(R-p.1).toNat,⟨qG _,ω,eU rG⟩,?_⟩,λ_=>⟨n,λi j=>G3 (y i j) δ,l⟩⟩;rintro⟨(k:Int),rows,_⟩ _ ⟨c,H,z⟩;change List (List C7)at rows;simp only at c H z|-;have:=z.1;refine⟨λh=>?_,λh=>?_⟩
   . have h:=qA h;have E:k<(D.length:Int):=ω
     have T:=F4 (d:=([]:List D5)) c E;refine⟨⟨c,E⟩,⟨Mq Y ae T,ak _ T,ω,ω⟩,?_⟩;rintro⟨aj,a6,_⟩ _ ⟨A,_⟩;simp only at A|-;rw[wv ω];refine⟨⟨c,ω⟩,⟨ω,ω,Rp z c ω ?_⟩,ω⟩;rw[A,Il c E]
   have h:=qB h;have W:rows=els (R,C,D):=Ro z ω;have s:rows.length=N:=by rw[W];unfold els;rw[tG,xT];omega
   refine⟨λp=>0<=p.1/\p.1<=(N:Int)/\p.2.1.length=N/\∀i,i<N->(p.2.1.getD i []).length=N/\∀j,j<N->(p.2.1.getD i []).getD j zr=rc (n i j+if i=j/\i<p.1.toNat then 20 else 0),λp=>((N:Int)-p.1).toNat,⟨qG _,qF _,s,λi b=>?_⟩,?_⟩
   . have g:rows.getD i []=dl C (A5 (D.getD i [])):=by
      rw[W];unfold els;rw[qE,vT,wL (ω:i<(R:Int).toNat)];rfl
     show(rows.getD i []).length=N/\∀j,j<N->(rows.getD i []).getD j zr= _;rw[g,B2g];refine⟨ω,λj f=>?_⟩;rw[A5i zr ω,(V i b).2.2 j f,qL (by simp),rH]
   rintro⟨(k:Int),rows,_⟩ _ ⟨c,H,s,g⟩;change List (List C7)at rows;simp only at c H s g|-;refine⟨λh=>?_,λh=>?_⟩
   . have h:=qA h;have Q:k.toNat<N:=ω
     obtain⟨B,J⟩:=g k.toNat Q;have v:=J k.toNat Q;rw[qL ω,rH]at v;have v:(rows.getD k.toNat []).getD k.toNat dQ=rc (n k.toNat k.toNat):=v;refine⟨⟨c,ω⟩,⟨c,ω⟩,⟨c,by rw[B];omega⟩,trivial,?_⟩;rintro⟨ay,_⟩ _ G;simp only at G|-;rw[v];refine⟨⟨Cq (y _ _) δ,by rw[G,ZV];exact Cq (IX δ) δ⟩,?_⟩;rintro⟨aj,_⟩ _ F;simp only at F|-;rw[G,H6,MR]at F;rw[wv ω];refine⟨⟨c,by rw[B];omega⟩,⟨ω,ω,by rw[qT];exact s,λi b=>?_⟩,ω⟩;by_cases O:i=k.toNat
     . subst O;rw[C1 ω];refine⟨by rw[qT];exact B,λj f=>?_⟩;by_cases P:j=k.toNat
       . subst P;rw[C1 ω,F,qR ⟨rfl,ω⟩];rfl
       rw[E5 P,J j f,qL ω,qL ω]
     rw[E5 O];refine⟨(g i b).1,λj f=>?_⟩;rw[(g i b).2 j f];congr 2;by_cases o:i=j/\i<k.toNat
     . rw[qR o,qR ω]
     rw[qL o,qL ω]
   have h:=qB h;have U:∀i j,qs 4 (n i j+if i=j then 20 else 0):=λi j=>by
    refine G3 (AK (y i j) (k:=1) ?_) δ;split
    . exact IX (a:=20) δ
    exact M5 δ
   have M:∀i j,i<N->j<N->(rows.getD i []).getD j zr=rc (n i j+if i=j then 20 else 0):=λi j b f=>by
    rw[(g i b).2 j f];congr 2;by_cases o:i=j
    . rw[qR o,qR ω]
    rw[qL o,qL ω]
   refine⟨⟨λZ A=>?_,ω,ω,ω⟩,?_⟩
   . obtain⟨i,b,rfl⟩:=R8 [] A;have b:i<N:=ω
     refine⟨λe ab=>?_,by rw[(g i b).1];omega⟩;obtain⟨j,f,rfl⟩:=R8 zr ab;rw[M i j b (by rw[<-(g i b).1];exact f)];exact Nh (G3 (U i j) δ)
   rintro⟨m,_⟩ _ r;simp only at r|-;rw[s]at r;exact⟨_,U,PT r λi j b f=>by rw[M i j b f,H6]⟩
 rintro⟨a,a6,am,_⟩ _ ⟨u,ac,r⟩;exact⟨N,ω,ω,u,ac,r⟩
def KP:An:= {loop:= [(4,⟨[0,1],[],[(5,false,vI)],[],[]⟩)],plan:= [(6,[3,7],[],true, .done)]}
abbrev Dy:=Wf×Wf×Unit
def Pf(x:Dy):Prop:=let f:Prop:=(x.1=x.2.1);let e:=(0:Int);let b:=(x.2.1.length:Int);let a:=(x.1.length:Int);(iB (decide (a≠b)) (false=decide f) (∃(I:D7->Prop),∃(c: _->Nat),I (e,())/\∀(p:D7),let d:=(i64.wrap (p.1+1),());let g:Prop:=(gx e x.1 p.1≠gx e x.2.1 p.1);(Ty.int i64).wf p.1/\True->I p->(iB (decide (p.1<a)) ((e<=p.1/\p.1<a)/\(e<=p.1/\p.1<b)/\(iB (decide g) (false=decide f) (I d/\c d<c p))) (true=decide f))))
def BE:su Ah Pf:=λx k _=>by
 obtain⟨a,f,_⟩:=x;have l:a.length<=9223372036854775807:=k.1.1;change Wf at a f;simp only[Pf,iB];refine⟨λh=>?_,λh=>?_⟩
 . have h:=qA h;exact(rC λe=>h (by rw[e])).symm
 have n:a.length=f.length:=by have:=qB h;omega
 refine⟨λp=>0<=p.1/\p.1<=(a.length:Int)/\a.take p.1.toNat=f.take p.1.toNat,λp=>((a.length:Int)-p.1).toNat,⟨qG _,qF _,by simp⟩,?_⟩;rintro⟨(i:Int),_⟩ _ ⟨c,j,g⟩;simp only at c j g|-;refine⟨λh=>?_,λh=>?_⟩
 . have h:=qA h;refine⟨⟨c,h⟩,⟨c,ω⟩,λb=>?_,λb=>?_⟩
   . have b:=qA b;exact(rC λe=>b (by rw[e])).symm
   have b:gx 0 a i=gx 0 f i:=by simpa using b
   rw[wv ω];refine⟨⟨ω,ω,?_⟩,ω⟩;rw[(ω:(i+1).toNat=i.toNat+1),rP,rP,H1 (d:=(0:Int)) c h,H1 (d:=(0:Int)) c ω,g,b]
 have h:=qB h;rw[qP ω,qP ω]at g;exact(rA g).symm
def En:An:= {loop:= [(4,⟨[0,1,2,3,8],[],[(9,false,vI)],[],[(0, .row tE 105)]⟩),(1,⟨[0,1,2,3],[],[(8,false,vI)],[],[(0, .row tE 105)]⟩)],plan:= [(4,[8,13],[],false, .done),(6,[9,13],[15,17],true, .done)]}
def Dz:An:= {}
def Jg:An:= {join:= [(16,⟨[0,1,2,6],[],[],[],[(0, .row tE 105)]⟩)],loop:= [(2,⟨[0,1,2,6],[],[(7,false,vI),(8,false,vI)],[],[(0, .row tE 105)]⟩),(9,⟨[0,1,2,6],[],[(7,false,vI),(8,false,vI)],[],[(0, .row tE 105)]⟩),(7,⟨[0,1,2],[],[(6,false,vI)],[],[(0, .row tE 105)]⟩)]}
def LG:An:= {}
def LF:An:= {join:= [(14,⟨[3,18,19,20],[],[(4,false,vI)],[],[(0, .row tE 105)]⟩)],loop:= [(8,⟨[3,18,19],[],[(4,false,vI),(20,false,vI)],[],[(0, .row tE 105)]⟩)],plan:= [(10,[8,10],[],true, .done),(11,[8,10],[14],true, .done)]}
def T9(x:List EE×Int×Int×((EE×EE×Unit->Prop)×(EE×EE×Unit->Int))×Unit):Prop:=let m:=(0:Int);let i:=(1:Int);∃(I:ND->Prop),∃(a: _->Nat),I (i64.wrap (x.2.1+i),x.1,())/\∀(p:ND),(Ty.int i64).wf p.1/\KN p.2.1/\True->I p->(iB (decide (p.1<x.2.2.1)) (∃(I_1:ND->Prop),∃(o: _->Nat),I_1 (p.1,p.2.1,())/\∀(n:ND),let l:=(n.2.1.length:Int);let k:=n.1.toNat;let j:=(i64.wrap (p.1+i),n.2.1,());let g:Prop:=(x.2.1<n.1);let d:=(i64.wrap (n.1-i));let h:=(List.set n.2.1 k (List.getD n.2.1 d.toNat D8));let f:=(List.getD n.2.1 k D8,List.getD n.2.1 d.toNat D8,());let e:=(i64.wrap (n.1-i),h.set d.toNat (List.getD n.2.1 k D8),());let c:Prop:=(m<=i64.wrap (n.1-i)/\i64.wrap (n.1-i)<l);let b:Prop:=(m<=n.1/\n.1<l);let d:Prop:=(x.2.2.2.1.2 f<m);(Ty.int i64).wf n.1/\KN n.2.1/\True->I_1 n->(decide g=true->b)/\(decide g=true->c)/\Go.Proofs.Tryz.prog=Go.Proofs.Tryz.prog/\(decide g=true->x.2.2.2.1.1 f)/\((decide g=true->(Ty.int i64).wf (x.2.2.2.1.2 f))->(iB (L5 (decide g) (decide d) false) (c/\b/\b/\(m<=i64.wrap (n.1-i)/\i64.wrap (n.1-i)<(↑h.length:Int))/\I_1 e/\o e<o n) (I j/\a j<a p)))) (True/\List.Perm p.2.1 x.1/\List.take x.2.1.toNat p.2.1=List.take x.2.1.toNat x.1/\List.drop x.2.2.1.toNat p.2.1=List.drop x.2.2.1.toNat x.1/\Yk x.2.2.2.1.2 (List.take (x.2.2.1.toNat-x.2.1.toNat) (List.drop x.2.1.toNat p.2.1))))
def T1(x:List EE×((EE×EE×Unit->Prop)×(EE×EE×Unit->Int))×Unit):Prop:=let a:=(x.1.length:Int);Go.Proofs.Tryz.prog=Go.Proofs.Tryz.prog/\false=false/\((Zz x.2.1.1 fun(z:UR)=>x.2.1.2 z)/\a=a/\List.length x.1<=20)/\∀(r:Unit) (o:Qs),True->tE.sl.wf o.1/\True->True->o.1.Perm x.1/\Yk (fun(z:UR)=>x.2.1.2 z) o.1->True/\o.1.Perm x.1/\Yk x.2.1.2 o.1
abbrev B0j:=Int×Int×List EE×Unit
def Bg(x:List EE×Int×((EE×EE×Unit->Prop)×(EE×EE×Unit->Int))×Unit):Prop:=let h:=(0:Int);∃(I:B0j->Prop),∃(a: _->Nat),I (h,(20:Int),x.1,())/\∀(p:B0j),let g:=(p.2.2.1.length:Int);let d:=p.1.toNat;let b:Prop:=(List.length p.2.2.1<=100000);(Ty.int i64).wf p.1/\(Ty.int i64).wf p.2.1/\KN p.2.2.1/\True->I p->(iB (decide (p.2.1<=x.2.1)) (Go.Proofs.Tryz.prog=Go.Proofs.Tryz.prog/\false=false/\((Zz x.2.2.1.1 fun(z:UR)=>x.2.2.1.2 z)/\h<=p.1/\p.1<=p.2.1/\p.2.1<=g/\b)/\∀(r:Unit) (o:Qs),let e:=(p.2.1,i64.wrap (p.2.1+20),o);True->tE.sl.wf o.1/\True->True->o.1.Perm p.2.2.1/\List.take d o.1=List.take d p.2.2.1/\List.drop p.2.1.toNat o.1=List.drop p.2.1.toNat p.2.2.1/\Yk (fun(z:UR)=>x.2.2.1.2 z) (List.take (Int.toNat p.2.1-Int.toNat p.1) (List.drop d o.1))->I e/\a e<a p) (Go.Proofs.Tryz.prog=Go.Proofs.Tryz.prog/\false=false/\((Zz x.2.2.1.1 fun(z:UR)=>x.2.2.1.2 z)/\h<=p.1/\p.1<=x.2.1/\x.2.1<=g/\b)/\∀(r:Unit) (o:Qs),True->tE.sl.wf o.1/\True->True->o.1.Perm p.2.2.1/\List.take d o.1=List.take d p.2.2.1/\List.drop x.2.1.toNat o.1=List.drop x.2.1.toNat p.2.2.1/\Yk (fun(z:UR)=>x.2.2.1.2 z) (List.take (Int.toNat x.2.1-Int.toNat p.1) (List.drop d o.1))->∃(I:ND->Prop),∃(a: _->Nat),I ((20:Int),o)/\∀(p:ND),(Ty.int i64).wf p.1/\KN p.2.1/\True->I p->(iB (decide (p.1<x.2.1)) (∃(I_1:B0j->Prop),∃(b: _->Nat),I_1 (h,i64.wrap (2*p.1),p.2.1,())/\∀(i:B0j),let f:Prop:=(i64.wrap (i.1+p.1)<x.2.1);(Ty.int i64).wf i.1/\(Ty.int i64).wf i.2.1/\KN i.2.2.1/\True->I_1 i->(iB (decide (i.2.1<=x.2.1)) (Go.Proofs.Tryz.prog=Go.Proofs.Tryz.prog/\false=false/\False/\∀(r:Unit) (o:Qs),let c:=(i.2.1,i64.wrap (i.2.1+i64.wrap (2*p.1)),o);True->tE.sl.wf o.1/\True->True->True->I_1 c/\b c<b i) (∃(J:Qs->Prop),((iB (decide f) (Go.Proofs.Tryz.prog=Go.Proofs.Tryz.prog/\false=false/\False/\∀(r:Unit) (o:Qs),True->tE.sl.wf o.1/\True->True->True->J o) (J (i.2.2.1,()))))/\UP λj=>let f:=(i64.wrap (p.1*2),j);J j->I f/\a f<a p))) (True/\List.Perm p.2.1 x.1/\Yk x.2.2.1.2 p.2.1))))
def Px(x:UR):Prop:=True/\Et λr=>r.1=N3 x.1.1 x.2.1.1->r.1=N3 x.1.1 x.2.1.1
def Pw(x:Qs):Prop:=let m:=(1:Int);let g:=(0:Int);let l:=g.toNat;let e:=(x.1.length:Int);True/\Jp λr=>r.1=decide (asc x.1)->(iB r.1 ((asc x.1->x.1=x.1)/\(¬asc x.1->asc x.1/\(∀(j:Int),A5 x.1 j=A5 x.1 j)/\List.length x.1<=20/\HC (16777216:Nat) x.1)) ((g<=e/\e<=e/\(↑(64:Nat):Int)*e<=(281474976710656:Int)/\e<=(9223372036854775807:Int))/\∃(b:UR->Prop),∃(a:UR->Int),(∀(y:UR),tE.wf y.1/\tE.wf y.2.1/\True->b y->True/\Et λz=>z.1=N3 y.1.1 y.2.1.1->false=false/\z.1=a y)/\(Zz b a/\(Ly (List.replicate e.toNat D8) x.1).length<=(20:Nat))/\∀(s:Unit) (o:Qs),True->tE.sl.wf o.1/\True->True->o.1.Perm (Ly (List.replicate e.toNat D8) x.1)/\Yk a o.1->∃(I:B0j->Prop),∃(c: _->Nat),I (g,g,o)/\∀(p:B0j),let n:=(i64.wrap (p.1-m));let i:=p.1.toNat;let h:=(p.2.2.1.length:Int);let f:=(List.getD p.2.2.1 p.2.1.toNat D8);let d:=(List.getD p.2.2.1 n.toNat D8);let s:Prop:=(p.2.1<(↑o.1.length:Int));let b:Prop:=(d.1=f.1);let a:Prop:=(g<=i64.wrap (p.1-m)/\i64.wrap (p.1-m)<h);(Ty.int i64).wf p.1/\(Ty.int i64).wf p.2.1/\KN p.2.2.1/\True->I p->(iB (decide s) (∃(J:ND->Prop),((g<=p.2.1/\p.2.1<h)/\(decide (g<p.1)=true->a)/\(iB (L5 (decide (g<p.1)) (decide b) false) (a/\(J8 d.2/\J8 f.2)/\N2 λr=>r.1=rc (rv d.2+rv f.2)->a/\J (p.1,List.set p.2.2.1 n.toNat (d.1,r.1),())) ((g<=p.1/\p.1<h)/\J (i64.wrap (p.1+m),List.set p.2.2.1 i f,()))))/\∀(q:ND),let k:=(q.1,i64.wrap (p.2.1+m),q.2.1,());(Ty.int i64).wf q.1/\KN q.2.1/\True->J q->I k/\c k<c p) ((g<=g/\g<=p.1/\p.1<=h)/\(asc x.1->List.drop l (List.take i p.2.2.1)=x.1)/\(¬asc x.1->asc (List.drop l (List.take i p.2.2.1))/\(∀(j:Int),A5 (List.drop l (List.take i p.2.2.1)) j=A5 x.1 j)/\(List.drop l (List.take i p.2.2.1)).length<=(20:Nat)/\HC (16777216:Nat) (List.drop l (List.take i p.2.2.1)))))))
def WO:An:= {loop:= [(2,⟨[0],[],[(3,false,vI)],[],[]⟩)]}
def Xt:An:= {}
def TO:An:= {loop:= [(3,⟨[6,7],[],[(3,false,vU),(8,false,vI)],[],[]⟩)]}
def KX:An:= {}
def HT:An:= {loop:= [(7,⟨[0,1],[],[(5,false,vI)],[],[]⟩)],plan:= [(9,[3,7],[],true, .done),(11,[3,7],[],true, .done)]}
def TN:An:= {}
def BZ(x:Qt):Prop:=let e:=(1:Int);let c:=(x.1.length:Int);let a:=(0:Int);∃(I:D7->Prop),∃(b: _->Nat),I (c,())/\∀(p:D7),let d:=(i64.wrap (p.1-e),());let f:=(decide (gx a x.1 (i64.wrap (p.1-e))=a));(Ty.int i64).wf p.1/\True->I p->(decide (a<p.1)=true->a<=i64.wrap (p.1-e)/\i64.wrap (p.1-e)<c)/\(iB (L5 (decide (a<p.1)) f false) (I d/\b d<b p) ((a<=a/\a<=p.1/\p.1<=c)/\List.drop a.toNat (List.take p.1.toNat x.1)=nc (nv x.1)))
def Ig(x:D7):Prop:=(0:(Ty.int u64).den)<=(32:Int)/\True/\R4 λr=>r.1=nc (nv [u32.wrap x.1,u32.wrap (Int.fdiv x.1 ((2:Int)^Min.min ((32:Int).toNat) u64.bits))])->r.1=nc x.1.toNat
def Xd(x:Qt):Prop:=let c:=(0:Int);let b:=(x.1.length:Int);∃(I:Ch->Prop),∃(d: _->Nat),I (c,c,())/\∀(p:Ch),let a:=(u64.wrap (↑(BitVec.ofInt u64.bits p.1|||BitVec.ofInt u64.bits (u64.wrap (u64.wrap (gx c x.1 p.2.1)*(2:Int)^Min.min (i64.wrap (32*p.2.1)).toNat u64.bits))).toNat:Int),i64.wrap (p.2.1+1),());(Ty.int u64).wf p.1/\(Ty.int i64).wf p.2.1/\True->I p->(iB (decide (p.2.1<b)) ((c<=p.2.1/\p.2.1<b)/\(0:(Ty.int i64).den)<=i64.wrap (32*p.2.1)/\I a/\d a<d p) (p.1=(↑(nv x.1):Int)))
def rT7 (P:Int×Unit->Prop):Prop:=∀r:Int×Unit,KL r.1/\True->P r
def Pp(x:Qt):Prop:=let a:=(18446744073709551616:Nat);True/\R4 λr=>let b:Prop:=((2:Int)<(r.1.length:Int));r.1=nc (nv x.1)->(iB (decide b) ((nv x.1<a->(0:Int)=(↑(nv x.1):Int)/\false=true)/\(a<=nv x.1->false=false)) (List.length r.1<=2/\rT7 λc=>c.1=(↑(nv r.1):Int)->(nv x.1<a->c.1=(↑(nv x.1):Int)/\true=true)/\(a<=nv x.1->true=false)))
def Np(x:Dy):Prop:=let i:=(1:Int);let e:=(nv x.1);let d:=(nv x.2.1);let c:=(0:Int);True/\R4 λr=>let a:=(r.1.length:Int);r.1=nc e->True/\R4 λj=>let b:=(j.1.length:Int);j.1=nc d->(iB (decide (a≠b)) ((iB (decide (a<b)) ((-1:Int)=Dg e d) (i=Dg e d))) (∃(I:D7->Prop),∃(g: _->Nat),I (i64.wrap (a-i),())/\∀(p:D7),let k:Prop:=(gx c j.1 p.1<gx c r.1 p.1);let h:Prop:=(gx c r.1 p.1<gx c j.1 p.1);let f:=(i64.wrap (p.1-i),());(Ty.int i64).wf p.1/\True->I p->(iB (decide (c<=p.1)) ((c<=p.1/\p.1<a)/\(c<=p.1/\p.1<b)/\(iB (decide h) ((-1:Int)=Dg e d) ((c<=p.1/\p.1<a)/\(c<=p.1/\p.1<b)/\(iB (decide k) (i=Dg e d) (I f/\g f<g p))))) (c=Dg e d))))
def Xc(x:Qt):Prop:=True/\R4 λr=>let a:=(r.1.length:Int);r.1=nc (nv x.1)->((0:Int)<=a/\a<=a/\(↑(4:Nat):Int)*a<=(281474976710656:Int)/\a<=(9223372036854775807:Int))/\Ly (List.replicate a.toNat (0:Int)) r.1=nc (nv x.1)
def NQ:su Cl BZ:=λx k _=>by
 obtain⟨l,_⟩:=x;have t:l.length<=9223372036854775807:=k.1.1;have o:A9 l:=A6 k.1.2;change Wf at l;simp only[BZ,iB];refine⟨λp=>0<=p.1/\p.1<=(l.length:Int)/\∀i x,p.1.toNat<=i->l[i]? =some x->x=0,λp=>p.1.toNat,⟨qF _,qG _,λi x j a=>?_⟩,?_⟩
 . rw[rT (by simpa using j)]at a;cases a
 rintro⟨(n:Int),_⟩ _ ⟨c,f,b⟩;simp only at c f b|-;refine⟨λh=>?_,λh=>?_,λh=>?_⟩
 . have h:=qA h;rw[wv ω];exact⟨ω,ω⟩
 . rw[J7]at h;simp only[qC,rU]at h;obtain⟨s,g⟩:=h;rw[wv ω]at g|-;refine⟨⟨ω,ω,λi x j a=>?_⟩,ω⟩;by_cases r:i=(n-1).toNat
   . subst r;rw[H1 (d:=(0:Int)) ω ω]at a;cases a;exact g
   exact b i x ω a
 refine⟨⟨qG _,c,f⟩,?_⟩;show(l.take n.toNat).drop 0= _;rw[tP];refine A6n o ω b ?_;rw[J7]at h;simp only[wN,rM]at h;rcases h with h|h
 . exact .inl ω
 by_cases u:n=0
 . exact .inl ω
 rw[wv ω]at h;refine .inr ⟨gx 0 l (n-1),?_,h⟩;have:=H1 (d:=(0:Int)) (l:=l) (i:=n-1) ω ω;rw[<-this];congr 1;omega
def Qv:su R9 Ig:=λx c _=>by
 obtain⟨(v:Int),_⟩:=x;have b:u64.min<=v/\v<=u64.max:=c.1;rw[lJ,EP]at b;simp only[Ig,R4];refine⟨δ,trivial,?_⟩;rintro⟨r,_⟩ _ a;simp only at a|-;rw[a];congr 1;rw[show Min.min (Int.toNat 32) u64.bits=32 from rfl];simp only[nv,Cw];rw[sK _ δ,show(2:Int)^32=4294967296 from rfl];omega
def JV:su Dq Xd:=λx u s=>by
 obtain⟨l,_⟩:=x;have n:A9 l:=A6 u.1.2;have y:l.length<=2:=s;change Wf at l;simp only[Xd,iB];refine⟨λp=>0<=p.2.1/\p.2.1<=(l.length:Int)/\p.1=(nv (l.take p.2.1.toNat):Int),λp=>((l.length:Int)-p.2.1).toNat,⟨qG _,qF _,rfl⟩,?_⟩;rintro⟨(v:Int),(i:Int),_⟩ z ⟨f,o,d⟩;simp only at f o d|-;refine⟨λh=>?_,λh=>?_⟩
 . have h:=qA h;have g:=Uz n f h;have j:=Gy (l:=l.take i.toNat) λx hx=>n x (rO hx)
   rw[qZ,tI ω]at j;have t:=LV f h;rw[wv (a:=32*i) ω,wv (a:=i+1) ω,Y5 g.1 ω];have r:Min.min (32*i).toNat u64.bits=32*i.toNat:=by
    show Min.min (32*i).toNat 64= _;omega
   rw[r];have c:i.toNat=0\/i.toNat=1:=ω
   refine⟨⟨f,h⟩,by show(0:Int)<=32*i;omega,?_⟩;have w:u64.wrap (((BitVec.ofInt 64 v|||BitVec.ofInt 64 (u64.wrap (gx 0 l i*2^(32*i.toNat)))).toNat:Nat):Int)=(nv (l.take (i+1).toNat):Int):=by
    rw[t];generalize gx 0 l i=b at g;rcases c with c|c
    . rw[c]at j|-;have A:v=0:=by rw[d,c];simp[nv]
      rw[Y5 (a:=b*2^(32*0)) ω ω,ZL (v:=v) (b:=b) (k:=32*0) ω ω g.1 ω ω,Y5 ω ω];simp[nv];omega
    rw[c]at j|-;rw[c]at d;rw[Y5 (a:=b*2^(32*1)) ω ω,ZL (v:=v) (b:=b) (k:=32*1) ω ω g.1 ω ω,Y5 ω ω];omega
   exact⟨⟨ω,ω,w⟩,ω⟩
 have h:=qB h;rw[E8 ω]at d;exact d
def BY:su Am Pp:=λx f _=>by
 obtain⟨(l:Wf),_⟩:=x;simp only[Pp,iB,R4,rT7];refine⟨trivial,?_⟩;rintro⟨r,_⟩ _ a;simp only at a|-;subst a;refine⟨λh=>?_,λh=>?_⟩
 . have h:=qA h;have:=B4n (k:=2) (n:=nv l) ω;refine⟨λc=>?_,λ_=>trivial⟩;rw[show(4294967296:Nat)^2=18446744073709551616 from rfl]at this;omega
 have h:=qB h;have b:(nc (nv l)).length<=2:=ω
 refine⟨b,?_⟩;rintro⟨r,_⟩ _ a;simp only at a|-;have d:=rJ (Ip (nv l)) (rZ δ b);rw[F6]at a;refine⟨λ_=>⟨a,trivial⟩,λc=>?_⟩;rw[show(4294967296:Nat)^2=18446744073709551616 from rfl]at d;omega
def Yr:su X9 Np:=λx A _=>by
 obtain⟨(b:Wf),(c:Wf),_⟩:=x;simp only[Np,iB,R4];refine⟨trivial,?_⟩;rintro⟨r,_⟩ ⟨⟨y,_⟩,_⟩ o;simp only at o y|-;subst o;refine⟨trivial,?_⟩;rintro⟨s,_⟩ ⟨⟨z,_⟩,_⟩ t;simp only at t z|-;subst t;have k:=L8 (nv b);have l:=L8 (nv c);refine⟨λj=>⟨λh=>?_,λh=>?_⟩,λj=>?_⟩
 . have h:=qA h;exact(Ou (EB ω)).symm
 . have h:=qB h;have j:=qA j;exact(VL (EB ω)).symm
 have n:(nc (nv b)).length=(nc (nv c)).length:=by have:=qB j;omega
 have u:=F6 (nv b);have v:=F6 (nv c);generalize nc (nv b)=r at*;generalize nc (nv c)=s at*;rw[<-u, <-v];refine⟨λp=> -1<=p.1/\p.1<(r.length:Int)/\r.drop (p.1+1).toNat=s.drop (p.1+1).toNat,λp=>(p.1+1).toNat,?_,?_⟩
 . rw[wv ω];refine⟨ω,ω,?_⟩;rw[sG ω,sG ω]
 rintro⟨(i:Int),_⟩ _ ⟨w,d,a⟩;simp only at w d a|-;refine⟨λh=>?_,λh=>?_⟩
 . have h:=qA h;refine⟨⟨h,d⟩,⟨h,ω⟩,λg=>?_,λg=>⟨⟨h,d⟩,⟨h,ω⟩,λf=>?_,λf=>?_⟩⟩
   . exact(Ou (kJ k l n h d a (qA g))).symm
   . exact(VL (kJ l k n.symm h ω a.symm (qA f))).symm
   have g:=qB g;have f:=qB f;rw[wv ω];refine⟨⟨ω,ω,?_⟩,ω⟩;rw[(ω:i-1+1=i),X0 h d,X0 h ω,a,(ω:gx 0 r i=gx 0 s i)]
 have h:=qB h;rw[(ω:(i+1).toNat=0),tP,tP]at a;rw[a,fS]
def PF {α:Type} {l:List α} {d:α} :Ly (List.replicate ((l.length:Nat):Int).toNat d) l=l:=by
 unfold Ly;rw[rG,qQ,vD,sG (by simp),vX]
def JU:su Dp Xc:=λx d c=>by
 obtain⟨l,_⟩:=x;have b:A9 l:=A6 d.1.2;have g:l.length<=35184372088832:=c;simp only[Xc,R4];refine⟨trivial,?_⟩;rintro⟨r,_⟩ _ a;simp only at a|-;have f:r.length<=l.length:=by rw[a];exact D6 b
 refine⟨⟨ω,qG _,by simp;omega,ω⟩,?_⟩;rw[PF,a]
def XD {a b:List D5} (h:a.Perm b) (j:Int):A5 a j=A5 b j:=by
 induction h with
 |nil=>rfl
 |cons e _ c=>rw[A5,A5,c]
 |swap e f l=>simp only[A5];rw[<-xH, <-xH,yD (if f.1=j then rv f.2 else 0)]
 |trans _ _ c d=>rw[c,d]
def XC (e:D5) (j:Int):A5 [e] j=if e.1=j then rv e.2 else 0:=by
 simp only[A5,rH]
structure OI (o:List D5) (n i:Int) (c:List D5):Prop where
 n0:0<=n
 ni:n<=i
 il:i<=(o.length:Int)
 cl:c.length=o.length
 rest:∀j:Nat,i.toNat<=j->c.getD j D8=o.getD j D8
 ord:asc (c.take n.toNat)
 cm:∀j,A5 (c.take n.toNat) j=A5 (o.take i.toNat) j
 le:∀e∈c.take n.toNat,∃y∈o.take i.toNat,y.1=e.1
 szs:∀e∈c.take n.toNat,sz (65537*i.toNat) e.2/\Qi e.2
def OI.init (o:List D5):OI o 0 0 o:=⟨qG _,qG _,qF _,rfl,λ_ _=>rfl,List.Pairwise.nil,λ_=>rfl,λe a=>(by cases a),λe a=>(by cases a)⟩
def HD {α:Type} {l:List α} {k:Nat} {x:α} (h:k<l.length):(l.set k x).take (k+1)=l.take k++ [x]:=by
 rw[rP,zD (qV k),sU h];rfl
def Wb {α:Type} {l:List α} {k:Nat} (d:α) (h:k<l.length):l.take (k+1)=l.take k++ [l.getD k d]:=by
 rw[rP,qM h,G6 _ _ h];rfl
variable {o c:List D5} {n i:Int}
def OI.bound (h:OI o n i c) (j:o.Pairwise λa b=>a.1<=b.1) (r:i<(o.length:Int)):∀e∈c.take n.toNat,e.1<=(o.getD i.toNat D8).1:=λe f=>by
 obtain⟨y,l,d⟩:=h.le e f;obtain⟨k,g,rfl⟩:=vE.1 l;rw[qZ]at g;rw[g1p]at d;have s:=h.n0;have t:=h.ni;have:=uH.1 j k i.toNat ω ω ω;rw[G6 _ _ (ω:i.toNat<o.length), <-d];exact this
def OI.push (h:OI o n i c) (B:o.Pairwise λa b=>a.1<=b.1) (F:HC 65536 o) (x:Xz o) (v:i<(o.length:Int)) (l:0<n->(c.getD (n-1).toNat D8).1≠(o.getD i.toNat D8).1):OI o (n+1) (i+1) (c.set n.toNat (o.getD i.toNat D8)):=by
 have z:=h.n0;have M:=h.ni;have u:=h.cl;have j:=h.bound B v;have f:(c.set n.toNat (o.getD i.toNat D8)).take (n+1).toNat=c.take n.toNat++ [o.getD i.toNat D8]:=by
  rw[(ω:(n+1).toNat=n.toNat+1)];exact HD ω
 have r:o.take (i+1).toNat=o.take i.toNat++ [o.getD i.toNat D8]:=by
  rw[(ω:(i+1).toNat=i.toNat+1)];exact Wb D8 ω
 have y:∀e∈c.take n.toNat,e.1<(o.getD i.toNat D8).1:=λe d=>by
  have H:=j e d;have A:0<n:=by
   rcases Int.lt_or_eq_of_le z with g|g
   . exact g
   rw[<-g]at d;cases d
  have w:(n-1).toNat<c.length:=ω
  have s:c.take n.toNat=c.take (n-1).toNat++ [c.getD (n-1).toNat D8]:=by
   rw[(ω:n.toNat=(n-1).toNat+1)];exact Wb D8 w
  have J:=j (c.getD (n-1).toNat D8) (by rw[s];simp);have l:=l A;have has:=h.ord;rw[s]at d has;rcases qU.1 d with d|d
  . have:=(sX.1 has).2.2 e d _ (qJ.2 rfl);omega
  rw[qJ]at d;subst d;omega
 have k:o.getD i.toNat D8∈o:=C6 ω;refine⟨ω,ω,ω,by rw[qT];exact u,λt I=>?_,?_,λt=>?_,λe d=>?_,λe d=>?_⟩
 . rw[qE,tC ω, <-qE];exact h.rest t ω
 . rw[f];exact mW h.ord y
 . rw[f,r,R6,R6,h.cm]
 . rw[f]at d;rw[r];rcases qU.1 d with d|d
   . obtain⟨G,D,E⟩:=h.le e d;exact⟨G,sE _ D,E⟩
   rw[qJ]at d;subst d;exact⟨_,sQ _ (qJ.2 rfl),rfl⟩
 rw[f]at d;rcases qU.1 d with d|d
 . exact⟨G4 (h.szs e d).1 ω,(h.szs e d).2⟩
 rw[qJ]at d;subst d;exact⟨G4 (F _ k) ω,x _ k⟩
def OI.add (h:OI o n i c) (N:HC 65536 o) (F:Xz o) (V:i<(o.length:Int)) (Y:0<n) (l:(c.getD (n-1).toNat D8).1=(o.getD i.toNat D8).1):sz (65537*i.toNat) (c.getD (n-1).toNat D8).2/\sz 65536 (o.getD i.toNat D8).2/\OI o n (i+1) (c.set (n-1).toNat ((c.getD (n-1).toNat D8).1,rc (rv (c.getD (n-1).toNat D8).2+rv (o.getD i.toNat D8).2))):=by
 have Z:=h.ni;have E:=h.cl;have r:(n-1).toNat<c.length:=ω
 have v:c.take n.toNat=c.take (n-1).toNat++ [c.getD (n-1).toNat D8]:=by
  rw[(ω:n.toNat=(n-1).toNat+1)];exact Wb D8 r
 have u:o.take (i+1).toNat=o.take i.toNat++ [o.getD i.toNat D8]:=by
  rw[(ω:(i+1).toNat=i.toNat+1)];exact Wb D8 ω
 have G:c.getD (n-1).toNat D8∈c.take n.toNat:=by rw[v];simp
 have t:o.getD i.toNat D8∈o:=C6 ω;obtain⟨z,R⟩:=h.szs _ G;have A:=N _ t;have T:=F _ t;refine⟨z,A,?_⟩;have has:=h.ord;have k:=h.cm;have s:=h.le;have f:=h.szs;rw[v]at has k s f;have I:=h.rest;generalize X:c.getD (n-1).toNat D8=y at*;generalize o.getD i.toNat D8=g at*;have d:∀x:D5,(c.set (n-1).toNat x).take n.toNat=c.take (n-1).toNat++ [x]:=λx=>by
  rw[(ω:n.toNat=(n-1).toNat+1)];exact HD r
 obtain⟨O,a0,P⟩:=sX.1 has;have H:qs (65537*(i+1).toNat) (rv y.2+rv g.2):=by
  have a:1<=i.toNat:=ω
  exact G3 (AK (Ek R z ω) (Ek T A δ)) ω
 refine⟨h.n0,ω,ω,by rw[qT];exact E,λw W=>?_,?_,λw=>?_,λe b=>?_,λe b=>?_⟩
 . rw[qE,tC ω, <-qE];exact I w ω
 . rw[d];exact sX.2 ⟨O,wD _ _,λB D U j=>by rw[qJ]at j;subst j;exact P B D y (qJ.2 rfl)⟩
 . rw[d,u,R6,R6, <-k,R6,XC,XC,XC];simp only;rw[H6,l,xH];congr 1;split
   . rfl
   rw[rH]
 . rw[d]at b;rw[u];rcases qU.1 b with a|a
   . obtain⟨Q,J,M⟩:=s e (sE _ a);exact⟨Q,sE _ J,M⟩
   rw[qJ]at a;subst a;exact⟨g,sQ _ (qJ.2 rfl),l.symm⟩
 rw[d]at b;rcases qU.1 b with a|a
 . exact⟨G4 (f e (sE _ a)).1 ω,(f e (sE _ a)).2⟩
 rw[qJ]at a;subst a;exact⟨Nh H,kA _⟩
def CP:su Bb Px:=λx a _=>by
 simp only[Px,Et];exact⟨trivial,λr _ h=>h⟩
def Da:su F7 T9:=λx a0 O=>by
 obtain⟨l,a,b,⟨R,g⟩,_⟩:=x;change List (Int×(Bool×Wf)×Wf)at l;change Int at a b;obtain⟨⟨N,Q,has⟩,U,V,W,Y⟩:Zz R g/\0<=a/\a<=b/\b<=(l.length:Int)/\l.length<=100000:=O;simp only[T9,iB];have P:∀x y z:D5,¬g (y,x,())<0->¬g (z,y,())<0->¬g (z,x,())<0:=λx y z v f=>Q z y x f v
 refine⟨λp=>a+1<=p.1/\(p.1<=b\/p.1=a+1)/\p.2.1.Perm l/\p.2.1.take a.toNat=l.take a.toNat/\p.2.1.drop b.toNat=l.drop b.toNat/\(∀s t,a.toNat<=s->s<t->t<p.1.toNat->t<b.toNat->¬g (p.2.1.getD t D8,p.2.1.getD s D8,())<0),λp=>(b-p.1).toNat,?_,?_⟩
 . rw[wv ω];refine⟨qG _, .inr rfl,wR _,rfl,rfl,λs t v f k w=>?_⟩;change t<(a+1).toNat at k;omega
 rintro⟨(i:Int),m,_⟩ _ ⟨M,v,f,k,w,E⟩;change List (Int×(Bool×Wf)×Wf)at m;simp only at M v f k w E|-;have Z:=f.length_eq;refine⟨λh=>?_,λh=>?_⟩
 . have h:=qA h;refine⟨λp=>a<=p.1/\p.1<=i/\p.2.1.Perm l/\p.2.1.take a.toNat=l.take a.toNat/\p.2.1.drop b.toNat=l.drop b.toNat/\B3m (λx y=>¬g (y,x,())<0) D8 p.2.1 a.toNat i.toNat p.1.toNat,λp=>(p.1-a).toNat,⟨by show a<=i;omega,qG _,f,k,w,A2t λs t n o r=>E s t n o r ω⟩,?_⟩;rintro⟨(j:Int),y,_⟩ _ ⟨I,J,u,A,B,D⟩;change List (Int×(Bool×Wf)×Wf)at y;simp only at I J u A B D|-;have a1:=u.length_eq;have H:i64.wrap (j-1)=j-1:=wv ω;rw[H];have G:(j-1).toNat=j.toNat-1:=ω
   rw[G];refine⟨λF=>⟨ω,ω⟩,λF=>?_,trivial,λ_=>N _ _,λ_=>⟨λc=>?_,λc=>?_⟩⟩
   . have F:=qA F;exact⟨ω,ω⟩
   . rw[J7]at c;simp only[qC,rU]at c;obtain⟨a3,T⟩:=c;refine⟨⟨ω,ω⟩,⟨ω,ω⟩,⟨ω,ω⟩,⟨ω,by rw[qT];omega⟩,⟨ω,ω,?_,?_,?_,?_⟩,ω⟩
     . exact(A4g (d:=D8) (l:=y) (j:=j.toNat) ω).trans u
     . exact(A4h (d:=D8) (l:=y) ω).trans A
     . exact(A4f (d:=D8) (l:=y) ω).trans B
     exact A8s D ω ω ω (has _ _ T)
   rw[J7]at c;simp only[wN,rM]at c;rw[wv ω];refine⟨⟨ω, .inl ω,u,A,B,λs t n o r a2=>?_⟩,ω⟩;refine B3n D P ω (λX=>?_) s t n o (by change t<(i+1).toNat at r;omega);rcases c with c|c
   . omega
   exact c
 have h:=qB h;refine⟨trivial,f,k,w,?_⟩;unfold Yk;have:=ZO (q:=λx y=>¬g (y,x,())<0) (d:=D8) (l:=m) (a:=a.toNat) (b:=b.toNat) ω λs t n o r=>E s t n o ω r
 exact this
def Hs:su I5 Bg:=λx P j=>by
 obtain⟨l,n,⟨H,c⟩,_⟩:=x;change List (Int×(Bool×Wf)×Wf)at l;change Int at n;obtain⟨v,O,M⟩:Zz H c/\n=(l.length:Int)/\l.length<=20:=j;simp only[Bg,iB,UP];refine⟨λp=>(p.1=0/\p.2.1=20/\p.2.2.1=l)\/(p.1=20/\p.2.1=40/\n=20/\p.2.2.1.Perm l/\Yk c p.2.2.1),λp=>(40-p.2.1).toNat, .inl ⟨rfl,rfl,rfl⟩,?_⟩;rintro⟨(b:Int),(s:Int),m,_⟩ _ i;change List (Int×(Bool×Wf)×Wf)at m;simp only at i|-;refine⟨λh=>?_,λh=>?_⟩
 . have h:=qA h;obtain⟨rfl,rfl,rfl⟩:b=0/\s=20/\m=l:=by
    rcases i with t| ⟨_,t,_⟩
    . exact t
    omega
   refine⟨trivial,trivial,⟨v,qG _,ω,ω,ω⟩,?_⟩;rintro I ⟨o,_⟩ _ _ _ ⟨d,f,r,a⟩;simp only at d f r a|-;rw[wv ω];refine⟨.inr ⟨by trivial,by trivial,ω,d,?_⟩,by simp⟩;have D:=d.length_eq;change Yk c ((o.drop 0).take (20-0))at a;rw[tP,qP ω]at a;exact a
 have h:=qB h;have B:0<=b/\b<=n/\m.Perm l/\(b=0\/b=n/\Yk c m):=by
  rcases i with⟨rfl,rfl,rfl⟩ | ⟨rfl,rfl,J,j,t⟩
  . exact⟨qG _,ω,wR _, .inl rfl⟩
  exact⟨δ,ω,j, .inr ⟨ω,t⟩⟩
 obtain⟨F,G,A,g⟩:=B;have N:=A.length_eq;refine⟨trivial,trivial,⟨v,F,G,ω,ω⟩,?_⟩;rintro I ⟨o,_⟩ _ _ _ ⟨d,f,r,a⟩;simp only at d f r a|-;have D:=d.length_eq;have E:Yk c o:=by
  rcases g with g| ⟨g,t⟩
  . change Yk c ((o.drop b.toNat).take (n.toNat-b.toNat))at a;rw[g]at a;change Yk c ((o.drop 0).take (n.toNat-0))at a;rw[tP,qP ω]at a;exact a
  rw[qP ω,qP ω]at f;rw[f];exact t
 refine⟨λp=>p.1=20/\p.2.1.Perm l/\Yk c p.2.1,λ_=>0,⟨rfl,d.trans A,E⟩,?_⟩;rintro⟨k,Q,_⟩ _ ⟨w,y,z⟩;simp only at w y z|-;subst w;refine⟨λu=>?_,λ_=>⟨trivial,y,z⟩⟩;have u:=qA u;omega
def Cs:su F5 T1:=λx g c=>by
 obtain⟨l,⟨d,f⟩,_⟩:=x;obtain⟨b,a⟩:Zz d f/\l.length<=20:=c;simp only[T1];refine⟨trivial,trivial,⟨b,trivial,a⟩,?_⟩;rintro r ⟨o,_⟩ _ _ _ h;exact⟨trivial,h⟩
def pN:Zz (λ_=>True) (λz=>N3 z.1.1 z.2.1.1):=by
 refine⟨λ_ _=>trivial,λa b c=>?_,λa b=>?_⟩
 . simp only[N3];split<;>split<;>split<;>(try split)<;>(try split)<;>(try split)<;>omega
 simp only[N3];split<;>split<;>(try split)<;>(try split)<;>omega
def B1t {a b:Int} :¬N3 a b<0↔b<=a:=by
 unfold N3;split
 . omega
 split<;>omega
def CO:su Ba Pw:=λx V r=>by
 obtain⟨t,_⟩:=x;have Q:Xz t:=Uy V.1.2;change List D5 at t;have r:WU t:=r;simp only[Pw,iB,N2,Jp,Et];refine⟨trivial,?_⟩;rintro⟨X,_⟩ _ B;simp only at B|-;subst B;refine⟨λh=>⟨λ_=>by trivial,λu=>absurd (qA h) u⟩,λh=>?_⟩;have w:=qB h;obtain⟨P,s⟩:=r.resolve_left w;refine⟨⟨ω,ω,ω,ω⟩,λ_=>True,λz=>N3 z.1.1 z.2.1.1,?_,⟨pN,?_⟩,?_⟩
 . rintro⟨k,l,_⟩ _ _;refine⟨trivial,?_⟩;rintro⟨z,_⟩ _ s;exact⟨(by trivial),s⟩
 . rw[PF];exact P
 rintro X ⟨(o:List D5),_⟩ _ _ _ ⟨j,E⟩;simp only[PF]at j E|-;have a4:=j.length_eq;have U:o.Pairwise λk l=>k.1<=l.1:=E.imp λ{k l} b=>B1t.1 b
 have D:HC 65536 o:=λe f=>s e (j.mem_iff.1 f)
 have v:Xz o:=λe f=>Q e (j.mem_iff.1 f)
 refine⟨λp=>OI o p.1 p.2.1 p.2.2.1,λp=>((o.length:Int)-p.2.1).toNat,OI.init o,?_⟩;rintro⟨(n:Int),(i:Int),(c:List D5),_⟩ _ a;simp only at a|-;have I:=a.n0;have a2:=a.ni;have u:=a.il;have N:=a.cl;have g:(c.length:Int)=(o.length:Int):=by rw[N]
 refine⟨λd=>?_,λd=>?_⟩
 . have d:=qA d;have M:c.getD i.toNat D8=o.getD i.toNat D8:=a.rest _ (qV _);have O:0<=i/\i<(c.length:Int):=⟨ω,by rw[g];exact d⟩;have R:i64.wrap (n-1)=n-1:=wv ω;rw[R,M];refine⟨λp=>OI o p.1 (i+1) p.2.1,⟨O,λb=>?_,λb=>?_,λb=>?_⟩,?_⟩
   . have b:=qA b;exact⟨ω,by rw[g];omega⟩
   . rw[J7]at b;simp only[qC,rU]at b;obtain⟨G,H⟩:=b;have y:0<=n-1/\n-1<(c.length:Int):=⟨ω,by rw[g];omega⟩;obtain⟨Y,Z,a0⟩:=a.add D v d G H;refine⟨y,⟨N1 (G4 Y (ω:65537*i.toNat<=2199023255552)) (qV _),N1 Z δ⟩,?_⟩;rintro⟨(q:C7),_⟩ _ A;simp only at A|-;rw[A];exact⟨y,a0⟩
   . have T:0<n->(c.getD (n-1).toNat D8).1≠(o.getD i.toNat D8).1:=λhn f=>by
      rw[J7,rA hn,rA f]at b;cases b
     rw[wv ω];exact⟨⟨ω,by rw[g];omega⟩,a.push U D v d T⟩
   rintro⟨a5,a1,_⟩ _ J;simp only;rw[wv ω];exact⟨J,ω⟩
 have d:=qB d;have a3:i=(o.length:Int):=ω
 refine⟨⟨qG _,I,by rw[g];omega⟩,λh=>absurd h w,λ_=>?_⟩;have F:List.drop (Int.toNat 0) (List.take n.toNat c)=c.take n.toNat:=rfl;rw[F];refine⟨a.ord,λW=>?_,?_,λe f=>G4 (a.szs e f).1 ω⟩
 . rw[a.cm,E8 ω];exact XD j W
 rw[qZ];omega
def iM:An:= {loop:= [(8,⟨[1,2,7],[0],[(6,false,[.own tQ 58]),(8,false,vI)],[],[]⟩)]}
abbrev A4o:=List QQ×Int×Unit
def OB(x:MM×List QQ×Unit):Prop:=let k:=(1:Nat);let h:=(4:Int);let g:Prop:=((x.2.1.length:Int)≠x.1.2.1);let f:=(1:Int);let e:=(0:Int);let a:=(↑x.2.1.length:Int);N4 K1 x.1/\Jp λr=>r.1=decide (A4 x.1)->(iB ((!r.1)) ((¬A4 x.1->Er QQ= []/\f=f)/\(A4 x.1->(a≠x.1.2.1->Er QQ= []/\f=h)/\(a=x.1.2.1->Er QQ=List.map (fun(i:Nat)=>rc (B8 x.2.1.length fun(j:Nat)=>el x.1 i j*rv (x.2.1.getD j zr))) (List.range x.1.1.toNat)/\f=e))) ((iB (decide g) ((¬A4 x.1->Er QQ= []/\h=f)/\(A4 x.1->(a≠x.1.2.1->Er QQ= []/\h=h)/\(a=x.1.2.1->Er QQ=List.map (fun(i:Nat)=>rc (B8 x.2.1.length fun(j:Nat)=>el x.1 i j*rv (x.2.1.getD j zr))) (List.range x.1.1.toNat)/\h=e))) ((N4 K1 x.1/\A4 x.1)/\∀(r:List (List QQ)×Unit),B7d r.1/\True->r.1=els x.1->∃(I:A4o->Prop),∃(g: _->Nat),I ([],e,())/\∀(p:A4o),let b:=(gx [] r.1 p.2.1);tQ.sl.wf p.1/\(Ty.int i64).wf p.2.1/\True->I p->(iB (decide (p.2.1<x.1.1)) ((e<=p.2.1/\p.2.1<(r.1.length:Int))/\(∃(A:Nat),∃(T:Nat),∃(c:Nat),k<=A/\k<=T/\Tj A b/\Tj T x.2.1/\b.length<=c/\(A+T+k)*(c+k)<=(2199023255552:Nat))/\∀(l:iC),let d:=(p.1++ [l.1],i64.wrap (p.2.1+f),());RR l.1/\True/\True->(b.length=List.length x.2.1->l.1=rc (B8 b.length fun(i:Nat)=>rv (b.getD i zr)*rv (List.getD x.2.1 i zr))/\l.2.1=true)->((p.1.length+ [l.1].length)*(56:Nat)<=(140737488355328:Nat)/\p.1.length+ [l.1].length<=9223372036854775807)/\I d/\g d<g p) ((¬A4 x.1->p.1= []/\e=f)/\(A4 x.1->(a≠x.1.2.1->p.1= []/\e=h)/\(a=x.1.2.1->p.1=List.map (fun(i:Nat)=>rc (B8 x.2.1.length fun(j:Nat)=>el x.1 i j*rv (x.2.1.getD j zr))) (List.range x.1.1.toNat)/\e=e))))))))
def grown (n m i j:Nat) (f:Nat->Nat->Rat) (rows:List (List C7)):Prop:=rows.length=n/\∀k,k<n->rows.getD k []=(List.range (if k<i then m else if k=i then j else 0)).map λl=>rc (f k l)
def B2n {m:G9} (i:Int) (a:0<=i) (b:i<m.1):gx [] (els m) i=dl m.2.1 (A5 (m.2.2.getD i.toNat [])):=by
 rw[K6 a (by rw[A5l];omega),B2m ω]
def B7v {m:G9} {i:Int} (a:0<=i) (b:i<m.1):(gx [] (els m) i).length=m.2.1.toNat:=by rw[B2n i a b,B2g]
def UY:su Jw OB:=λx M J=>by
 obtain⟨⟨R,C,D⟩,X,_⟩:=x;have I:LR (R,C,D):=Oo M.1.2.2.2;change Int at R C;change List (List D5)at D;change List C7 at X;obtain⟨A,T,c,s,G,u,N,W,E,B⟩:∃A T c:Nat,1<=A/\1<=T/\N4 A (R,C,D)/\Tj T X/\C<=(c:Int)/\(A+T+1)*(c+1)<=2199023255552/\A<=K1:=J;have v:=B4x u B;simp only[OB,iB,Jp];refine⟨v,?_⟩;rintro⟨w,_⟩ _ g;simp only at g|-;by_cases a:A4 (R,C,D)
 case neg=>
  have g:w=false:=by rw[g];exact rC a
  rw[g];exact⟨λ_=>⟨λ_=>⟨by trivial,by trivial⟩,λh=>absurd h a⟩,λh=>(by cases h)⟩
 have g:w=true:=by rw[g];exact rA a
 rw[g];obtain⟨y,P,Q,U,_,_⟩:=id a;simp only at y P Q U;refine⟨λh=>(by cases h),λ_=>⟨λh=>?_,λh=>?_⟩⟩
 . have h:=qA h;exact⟨λf=>absurd a f,λ_=>⟨λ_=>⟨by trivial,by trivial⟩,λf=>absurd f h⟩⟩
 have H:=sF.1 (qB h);refine⟨⟨v,a⟩,?_⟩;rintro⟨e,_⟩ _ l;simp only at l|-;have Y:e.length=R.toNat:=by rw[l];exact A5l _
 let F:Nat->C7:=λi=>rc (B8 X.length λj=>el (R,C,D) i j*rv (X.getD j zr))
 refine⟨λp=>0<=p.2.1/\p.2.1<=R/\p.1=(List.range p.2.1.toNat).map F,λp=>(R-p.2.1).toNat,⟨qG _,y,rfl⟩,?_⟩;rintro⟨(o:List C7),(i:Int),_⟩ _ ⟨k,O,n⟩;simp only at k O n|-;refine⟨λb=>?_,λb=>?_⟩
 . have b:=qA b;have t:(gx [] e i).length=X.length:=by
    have:(gx [] e i).length=C.toNat:=by rw[l];exact B7v k b
    omega
   refine⟨⟨k,ω⟩,⟨A,T,c,s,G,?_,N,ω,E⟩,?_⟩
   . exact C2r a I u s _ (by rw[<-l];exact F4 (d:=([]:List C7)) k ω)
   rintro⟨q,V,_⟩ _ r;simp only at r|-;obtain⟨r,_⟩:=r t;have Z:o.length=i.toNat:=by rw[n];simp
   rw[wv ω];refine⟨⟨by rw[qY];omega,by rw[qY];omega⟩,⟨ω,ω,?_⟩,ω⟩;rw[pF F k,n,r,t];have z:B8 X.length (λj=>rv ((gx [] e i).getD j zr)*rv (X.getD j zr))=B8 X.length λj=>el (R,C,D) i.toNat j*rv (X.getD j zr):=B6 λj hj=>by
    rw[l,B2n i k b,A5i _ (by show(j:Int)<C;omega),H6];rfl
   rw[z]
 have b:=qB b;exact⟨λf=>absurd a f,λ_=>⟨λf=>absurd H f,λ_=>⟨by rw[n,(ω:i=R)],by trivial⟩⟩⟩
def mH:An:= {}
def mI:An:= {}
def KS:An:= {plan:= [(1,[3,7],[],true, .done),(4,[3,7,10],[],true, .done)]}
def OM:An:= {}
def KU:An:= {loop:= [(3,⟨[0,1],[],[(5,false,[.own tQ 58]),(6,false,vI)],[(0,83,[.val qf, .val qb])],[]⟩)]}
def EU:An:= {join:= [(12,⟨[0,1,2,6,7,8,9,10,11],[1,2,3],[],[(0,83,[.val qf, .val qb]),(4,58,[.val .bool, .val qa, .val qa])],[]⟩)],loop:= [(7,⟨[0,1,2,6,7,8],[1,2],[(9,false,[.own tQ 58]),(10,false,vI)],[(0,83,[.val qf, .val qb])],[]⟩),(3,⟨[0,1,2,6],[1],[(7,false,[.own qj 63]),(8,false,vI)],[(0,83,[.val qf, .val qb])],[]⟩)]}
def SO(x:Ch):Prop:=let b:=(u64.wrap x.2.1);let a:=(u64.wrap x.1);u64.wrap x.2.1≠0/\(0<x.2.1->(0:Int)<=i64.wrap (a.tmod b)/\i64.wrap (a.tmod b)<x.2.1/\i64.wrap (a.tmod b)=a.tmod x.2.1)
def A0w(x:Qt):Prop:=(x.1,(0:Int))=(x.1,(0:Int))
abbrev C4r:=(Wf×Int)×Int×Unit
def Ph(x:C4r):Prop:=let e:=(1:Int);let d:=(↑x.1.1.length:Int);let c:=(x.1.1.length:Int);let b:=(0:Int);let a:=(i64.wrap (x.1.2+e)-e);(iB (decide (c<=x.1.2)) ((b<=b/\b<x.2.1)/\x.1.1=x.1.1/\b<=x.1.2/\x.1.2<=d) ((b<=i64.wrap a/\i64.wrap a<c)/\b<x.2.1/\Et λr=>(b<x.2.1->b<=r.1/\r.1<x.2.1/\r.1=(u64.wrap (gx b x.1.1 (i64.wrap a))).tmod x.2.1)->(b<=r.1/\r.1<x.2.1)/\x.1.1=x.1.1/\b<=i64.wrap (x.1.2+e)/\i64.wrap (x.1.2+e)<=d))
def Tq(x:GC):Prop:=let b:=(x.1.1.length:Int);let a:=(0:Int);(a<(13:Int)/\a<=x.1.2/\x.1.2<=b)/\∀(r:D7) (o:GC),let c:=(o.1.1.length:Int);O5 r.1/\True->((Ty.int i64).sl.pair (Ty.int i64)).wf o.1/\True->a<=r.1/\r.1<13->o.1.1=x.1.1/\a<=o.1.2/\o.1.2<=b->(a<(4:Int)/\a<=o.1.2/\o.1.2<=c)/\∀(e:D7) (d:GC),O5 e.1/\True->((Ty.int i64).sl.pair (Ty.int i64)).wf d.1/\True->a<=e.1/\e.1<4->d.1.1=o.1.1/\a<=d.1.2/\d.1.2<=c->True/\N2 λf=>f.1=rc (Rat.divInt (i64.wrap (r.1-6)) (i64.wrap (1+e.1)))->LN f.1/\d.1.1=x.1.1/\a<=d.1.2/\d.1.2<=(↑x.1.1.length:Int)
abbrev C0t:=List QQ×Int×Wf×Int×Unit
def Pm(x:C4r):Prop:=let c:=(0:Int);∃(I:C0t->Prop),∃(d: _->Nat),I ([],c,x.1.1,x.1.2,())/\∀(p:C0t),let b:=(p.2.2.1.length:Int);tQ.sl.wf p.1/\(Ty.int i64).wf p.2.1/\(Ty.int i64).sl.wf p.2.2.1/\(Ty.int i64).wf p.2.2.2.1/\True->I p->(iB (decide (p.2.1<x.2.1)) ((c<=p.2.2.2.1/\p.2.2.2.1<=b)/\∀(r:C8) (o:GC),let a:=(p.1++ [r.1],i64.wrap (p.2.1+1),o.1.1,o.1.2,());RR r.1/\True->((Ty.int i64).sl.pair (Ty.int i64)).wf o.1/\True->LN r.1->o.1.1=p.2.2.1/\c<=o.1.2/\o.1.2<=b->((p.1.length+ [r.1].length)*(56:Nat)<=(140737488355328:Nat)/\p.1.length+ [r.1].length<=9223372036854775807)/\I a/\d a<d p) (((↑p.1.length:Int)=Max.max x.2.1 c/\∀(e:QQ),e∈p.1->LN e)/\p.2.2.1=x.1.1/\c<=p.2.2.2.1/\p.2.2.2.1<=(↑x.1.1.length:Int)))
abbrev C7u:=List (List QQ)×Int×Wf×Int×Unit
abbrev C8b:=Wf×Int×Bool×Wf×Wf×Unit
def Kq(x:(Wf×Int)×Int×Int×Unit):Prop:=let g:=(140737488355328:Nat);let c:=(0:Int);∃(I:C7u->Prop),∃(h: _->Nat),I ([],c,x.1.1,x.1.2,())/\∀(p:C7u),tQ.sl.sl.wf p.1/\(Ty.int i64).wf p.2.1/\(Ty.int i64).sl.wf p.2.2.1/\(Ty.int i64).wf p.2.2.2.1/\True->I p->(iB (decide (p.2.1<x.2.1)) (∃(I_1:C0t->Prop),∃(j: _->Nat),I_1 ([],c,p.2.2.1,p.2.2.2.1,())/\∀(k:C0t),let a:Prop:=(k.2.1<x.2.2.1);let e:=(k.2.2.1.length:Int);let b:=(p.1++ [k.1],i64.wrap (p.2.1+1),k.2.2.1,k.2.2.2.1,());tQ.sl.wf k.1/\(Ty.int i64).wf k.2.1/\(Ty.int i64).sl.wf k.2.2.1/\(Ty.int i64).wf k.2.2.2.1/\True->I_1 k->(iB (decide a) (True/\N2 λr=>r.1=rc (0:Rat)->∃(J:C8b->Prop),((c<(3:Int)/\c<=k.2.2.2.1/\k.2.2.2.1<=e)/\∀(n:D7) (o:GC),let f:=(o.1.1.length:Int);O5 n.1/\True->((Ty.int i64).sl.pair (Ty.int i64)).wf o.1/\True->c<=n.1/\n.1<3->o.1.1=k.2.2.1/\c<=o.1.2/\o.1.2<=e->(iB (decide (c<n.1)) ((c<=o.1.2/\o.1.2<=f)/\∀(r:C8) (m:GC),RR r.1/\True->((Ty.int i64).sl.pair (Ty.int i64)).wf m.1/\True->LN r.1->m.1.1=o.1.1/\c<=m.1.2/\m.1.2<=f->J (m.1.1,m.1.2,r.1.1.1,r.1.1.2,r.1.2,())) (J (o.1.1,o.1.2,r.1.1.1,r.1.1.2,r.1.2,()))))/\∀(p:C8b),let a:=((p.2.2.1,p.2.2.2.1),p.2.2.2.2.1);let d:=(k.1++ [a],i64.wrap (k.2.1+1),p.1,p.2.1,());(Ty.int i64).sl.wf p.1/\(Ty.int i64).wf p.2.1/\Ty.bool.wf p.2.2.1/\(Ty.int u32).sl.wf p.2.2.2.1/\(Ty.int u32).sl.wf p.2.2.2.2.1/\True->J p->((k.1.length+ [a].length)*(56:Nat)<=g/\k.1.length+ [a].length<=9223372036854775807)/\I_1 d/\j d<j k) (((p.1.length+ [k.1].length)*(24:Nat)<=g/\p.1.length+ [k.1].length<=9223372036854775807)/\I b/\h b<h p))) (((∀(l:List QQ),l∈p.1->Tj K1 l/\(↑l.length:Int)=x.2.2.1)/\c<=x.2.2.1/\x.2.2.1<=16384/\p.1.length<=(16384:Nat))/\rT1 λr=>Ep p.1.length x.2.2.1.toNat (fun(i j:Nat)=>rv ((p.1.getD i []).getD j zr)) r.1->C3a x.2.1.toNat x.2.2.1.toNat r.1/\p.2.2.1=x.1.1/\c<=p.2.2.2.1/\p.2.2.2.1<=(↑x.1.1.length:Int)))
def aV (x:A3 Ix.args) (_:awf Ix.args x) (_:Ix.pre x):A0w x:=rfl
def BM:su U6 Ph:=λx f d=>by
 obtain⟨⟨l,i⟩,n,_⟩:=x;have k:l.length<=9223372036854775807:=f.1.1.1;change Int at i n;change Wf at l;obtain⟨b,g,j⟩:0<n/\0<=i/\i<=(l.length:Int):=d;simp only[Ph,iB,Et];refine⟨λh=>⟨⟨ω,b⟩,by trivial,g,j⟩,λh=>?_⟩;have h:=qB h;rw[wv (a:=i+1) ω,wv (a:=i+1-1) ω];refine⟨⟨ω,ω⟩,b,?_⟩;rintro⟨r,_⟩ _ c;exact⟨⟨(c b).1,(c b).2.1⟩,by trivial,ω,ω⟩
def aU:su Ms SO:=λx j i=>by
 obtain⟨(a:Int),(b:Int),_⟩:=x;have h:0<b:=i;have c:GU .i64 b:=j.2.1;unfold GU at c;rw[(δ:i64.min= -9223372036854775808),(δ:i64.max=9223372036854775807)]at c;simp only[SO];have e:u64.wrap b=b:=by simp[IntKind.wrap,IntKind.bits,IntKind.signed];omega
 have d:0<=u64.wrap a:=by simp[IntKind.wrap,IntKind.bits,IntKind.signed];omega
 rw[e];have f:0<=(u64.wrap a).tmod b:=zL _ d;have g:(u64.wrap a).tmod b<b:=Int.tmod_lt_of_pos _ h;rw[wv ω];exact⟨ω,λ_=>⟨f,g,rfl⟩⟩
def oH {a b:Int} (d:a.natAbs<4294967296) (c:0<b) (f:b.natAbs<4294967296):LN (rc (Rat.divInt a b)):=by
 refine⟨_,?_,rfl⟩;rw[XE c];exact MO ω (Fv (by simpa using d)) (Fv (by simpa using f))
def GI:su Bv Tq:=λx v k=>by
 obtain⟨⟨(l:Wf),(i:Int)⟩,_⟩:=x;obtain⟨t,u⟩:0<=i/\i<=(l.length:Int):=k;simp only[Tq,N2];refine⟨⟨ω,t,u⟩,?_⟩;rintro⟨(f:Int),_⟩ ⟨⟨(r:Wf),(n:Int)⟩,_⟩ _ _ h a;simp only at h a|-;obtain⟨rfl,b,c⟩:=a;refine⟨⟨ω,b,c⟩,?_⟩;rintro⟨(g:Int),_⟩ ⟨⟨(s:Wf),(o:Int)⟩,_⟩ _ _ j a;simp only at j a|-;obtain⟨rfl,b,c⟩:=a;refine⟨trivial,?_⟩;rintro⟨q,_⟩ _ d;simp only at d|-;rw[wv ω,wv ω]at d;exact⟨by rw[d];exact oH ω ω ω,by trivial,b,c⟩
def BO:su Ak Pm:=λx F w=>by
 obtain⟨⟨(l:Wf),(i:Int)⟩,(n:Int),_⟩:=x;obtain⟨G,D,E⟩:n<=1000/\0<=i/\i<=(l.length:Int):=w;simp only[Pm,iB];refine⟨λp=>0<=p.2.1/\p.2.1<=max n 0/\(p.1.length:Int)=p.2.1/\(∀e∈p.1,LN e)/\p.2.2.1=l/\0<=p.2.2.2.1/\p.2.2.2.1<=(l.length:Int),λp=>(n-p.2.1).toNat,⟨qG _,by show 0<=max n 0;omega,rfl,λe a=>(by cases a),rfl,D,E⟩,?_⟩;rintro⟨(o:List C7),(k:Int),(A:Wf),(y:Int),_⟩ _ ⟨t,u,v,b,f,c,d⟩;simp only at t u v b f c d|-;subst f;refine⟨λh=>?_,λh=>?_⟩
 . have h:=qA h;refine⟨⟨c,d⟩,?_⟩;rintro⟨q,_⟩ ⟨⟨(B:Wf),(z:Int)⟩,_⟩ _ _ j g;simp only at j g|-;obtain⟨rfl,r,s⟩:=g;rw[wv ω];refine⟨⟨by rw[qY];omega,by rw[qY];omega⟩,⟨ω,ω,by rw[rQ,qY];omega,λe a=>?_,by trivial,r,s⟩,ω⟩;rcases qU.1 a with a|a
   . exact b e a
   rw[qJ.1 a];exact j
 have h:=qB h;exact⟨⟨ω,b⟩,by trivial,c,d⟩
def A5u {x:C7} (h:LN x):qs 1 (rv x):=by
 obtain⟨q,a,rfl⟩:=h;rw[H6];exact a
def A5v {x:C7} (h:LN x) {k:Nat} (a:1<=k):sz k x:=by
 obtain⟨q,b,rfl⟩:=h;exact⟨qX b.1 a,qX b.2 a⟩
def We:su Q8 Kq:=λx aa Z=>by
 obtain⟨⟨(l:Wf),(i:Int)⟩,(R:Int),(C:Int),_⟩:=x;obtain⟨a7,ab,D,c1,a5,a6⟩:0<=R/\R<=20/\0<=C/\C<=20/\0<=i/\i<=(l.length:Int):=Z;simp only[Kq,iB,N2,rT1];refine⟨λp=>0<=p.2.1/\p.2.1<=R/\(p.1.length:Int)=p.2.1/\(∀v∈p.1,(v.length:Int)=C/\∀e∈v,LN e)/\p.2.2.1=l/\0<=p.2.2.2.1/\p.2.2.2.1<=(l.length:Int),λp=>(R-p.2.1).toNat,⟨qG _,a7,rfl,λe a=>(by cases a),rfl,a5,a6⟩,?_⟩;rintro⟨o,(k:Int),(y:Wf),(a0:Int),_⟩ _ ⟨V,W,X,f,H,s,t⟩;change List (List C7)at o;simp only at V W X f H s t|-;subst H;refine⟨λh=>?_,λh=>?_⟩
 . have h:=qA h;refine⟨λp=>0<=p.2.1/\p.2.1<=C/\(p.1.length:Int)=p.2.1/\(∀e∈p.1,LN e)/\p.2.2.1=y/\0<=p.2.2.2.1/\p.2.2.2.1<=(y.length:Int),λp=>(C-p.2.1).toNat,⟨qG _,D,rfl,λe a=>(by cases a),rfl,s,t⟩,?_⟩;rintro⟨(a8:List C7),(a3:Int),(z:Wf),(a1:Int),_⟩ _ ⟨Q,T,U,j,G,n,r⟩;simp only at Q T U j G n r|-;subst G;refine⟨λh=>?_,λh=>?_⟩
   . have h:=qA h;refine⟨trivial,?_⟩;rintro⟨ac,_⟩ _ N;simp only at N|-;refine⟨λp=>p.1=z/\0<=p.2.1/\p.2.1<=(z.length:Int)/\LN ((p.2.2.1,p.2.2.2.1),p.2.2.2.2.1),⟨⟨ω,n,r⟩,?_⟩,?_⟩
     . rintro⟨(b:Int),_⟩ ⟨⟨(A:Wf),(w:Int)⟩,_⟩ _ _ u g;simp only at u g|-;obtain⟨rfl,c,d⟩:=g;refine⟨λ_=>⟨⟨c,d⟩,?_⟩,λ_=>?_⟩
       . rintro⟨q,_⟩ ⟨⟨(a4:Wf),(a2:Int)⟩,_⟩ _ _ J g;simp only at J g|-;obtain⟨rfl,O,P⟩:=g;exact⟨by trivial,O,P,J⟩
       exact⟨by trivial,c,d,⟨0,M5 δ,N⟩⟩
     rintro⟨(A:Wf),(w:Int),B,m,a9,_⟩ _ ⟨c,d,E,F⟩;simp only at c d E F|-;subst c;rw[wv ω];refine⟨⟨by rw[qY];omega,by rw[qY];omega⟩,⟨ω,ω,by rw[rQ,qY];omega,λe a=>?_,by trivial,d,E⟩,ω⟩;rcases qU.1 a with a|a
     . exact j e a
     rw[qJ.1 a];exact F
   have h:=qB h;rw[wv ω];refine⟨⟨by rw[qY];omega,by rw[qY];omega⟩,⟨ω,ω,by rw[rQ,qY];omega,λe a=>?_,by trivial,n,r⟩,ω⟩;rcases qU.1 a with a|a
   . exact f e a
   rw[qJ.1 a];exact⟨ω,j⟩
 have h:=qB h;refine⟨⟨λv M=>⟨λe a=>A5v ((f v M).2 e a) δ,(f v M).1⟩,D,ω,ω⟩,?_⟩;rintro⟨m,_⟩ _ I;simp only at I|-;refine⟨⟨_,λb B=>?_,by rw[(ω:R.toNat=o.length)];exact I⟩,by trivial,s,t⟩;by_cases u:b<o.length
 . by_cases Y:B<(o.getD b []).length
   . exact A5u ((f _ (C6 u)).2 _ (C6 Y))
   rw[qE (l:=o.getD b []),rT ω];exact M5 δ
 rw[qE (l:=o),rT ω];exact M5 δ
def LD:An:= {loop:= [(5,⟨[1,6,14,15],[],[(16,false,vI)],[],[(0, .row tE 105)]⟩)]}
def Pu(x:List EE×Wf×Unit):Prop:=let h:=(0:Int);let g:=(x.2.1.length:Int);let d:=(↑x.2.1.length:Int);let e:Prop:=(∀(j:Int),A5 x.1 j≠(0:Rat)->h<=j/\j<d);List.length x.2.1<=100000/\Jp λr=>r.1=decide (K7 x.2.1 g)->(iB ((!r.1)) (K7 x.2.1 d->e->KH (fun(i:Int)=>if h<=i/\i<d then A5 x.1 (↑(List.idxOf i x.2.1):Int)else(0:Rat)) []/\false=true) (Kn x.1/\UP λn=>KH (A5 x.1) n.1->∃(I:ND->Prop),∃(μ: _->Nat),I (h,n)/\∀(p:ND),let l:Prop:=(p.1<(n.1.length:Int));let k:Prop:=(h<=p.1/\p.1<(p.2.1.length:Int));let c:=(List.getD p.2.1 p.1.toNat D8);let m:=(decide (g<=c.1));let f:=(i64.wrap (p.1+1),List.set p.2.1 p.1.toNat (gx h x.2.1 c.1,c.2),());(Ty.int i64).wf p.1/\KN p.2.1/\True->I p->(iB (decide l) (k/\(iB (L5 (decide (c.1<h)) true m) (K7 x.2.1 d->e->KH (fun(i:Int)=>if h<=i/\i<d then A5 x.1 (↑(List.idxOf i x.2.1):Int)else(0:Rat)) []/\false=true) ((h<=c.1/\c.1<g)/\k/\I f/\μ f<μ p))) (List.length p.2.1<=100000/\∀(l':List EE),tE.sl.wf l'->l'.Perm p.2.1->List.Pairwise (fun(a b:Int×(Bool×Wf)×Wf)=>¬N3 b.1 a.1<h) l'->K7 x.2.1 d->e->KH (fun(i:Int)=>if h<=i/\i<d then A5 x.1 (↑(List.idxOf i x.2.1):Int)else(0:Rat)) l'/\true=true))))
variable {n:Nat} {S:Nat->Nat} {A:Nat->Nat->Rat} {rest P Q place:Wf} {rows lower:List (List D5)} {cols:List T4}
def A3s {P:Wf} (l:P.length=n) (f:∀a,a<n->P.getD a 0=(ix P a:Int)) (o:∀a,a<n->ix P a<n) (g:∀a b,a<n->b<n->ix P a=ix P b->a=b):K7 P (n:Int):=by
 have d:∀a (c:a<P.length),P[a]=(ix P a:Int):=λa c=>by
  rw[<-f a ω,qE,qM c];rfl
 refine⟨by rw[l],λi r=>?_,uH.2 λi j h k s e=>?_⟩
 . obtain⟨a,c,rfl⟩:=vE.1 r;have:=o a ω;rw[d a c];omega
 rw[d i h,d j k]at e;have:=g i j ω ω ω;omega
def EI.places (h:EI n n S A rest P Q place rows lower cols):K7 place (n:Int)/\∀b,b<n->List.idxOf (b:Int) place=ix Q b:=by
 have d:∀j,j<n->∃b,b<n/\ix Q b=j/\place.getD j 0=(b:Int):=λj a=>by
  obtain⟨b,c,e⟩:=Df h.elim.qlt h.elim.qinj a;exact⟨b,c,e,by rw[<-e];exact h.pl b c⟩
 have l:∀j (a:j<place.length),place[j]=place.getD j 0:=λj a=>by
  rw[qE,qM a];rfl
 refine⟨A3s h.lpl (λj a=>?_) (λj a=>?_) (λi j f a e=>?_),λb c=>?_⟩
 . obtain⟨b,c,_,e⟩:=d j a;unfold ix;rw[e];omega
 . obtain⟨b,c,_,e⟩:=d j a;unfold ix;rw[e];omega
 . obtain⟨b,c,g,k⟩:=d i f;obtain⟨f,s,o,r⟩:=d j a;unfold ix at e;rw[k,r]at e;have:b=f:=ω
   rw[<-g, <-o,this]
 have o:(b:Int)∈place:=by
  have a:=h.pl b c;have j:ix Q b<place.length:=by rw[h.lpl];exact h.elim.qlt b c
  rw[<-a, <-l _ j];exact wC j
 have a:=yN o;have c:place[List.idxOf (b:Int) place]=(b:Int):=g1g a;obtain⟨f,s,g,k⟩:=d (List.idxOf (b:Int) place) (by rw[<-h.lpl];exact a);rw[l _ a,k]at c;have:f=b:=ω
 rw[<-g,this]
def EI.done (h:EI n n S A rest P Q place rows lower cols) (J:n<=16384) {L U:List (List D5)} (z:L.length=n) (B:U.length=n)
 (u:∀a,a<n->L.getD a []=lower.getD (ix P a) []++ [((a:Int),rc 1)])
 (v:∀a,a<n->KH (λi=>if 0<=i/\i<(n:Int)then A5 (rows.getD (ix P a) []) ((List.idxOf i place:Nat):Int)else 0) (U.getD a [])):
 Bo (P,Q,((n:Int),(n:Int),L),((n:Int),(n:Int),U)) (n:Int)/\∀i j,i<n->j<n->luM (P,Q,((n:Int),(n:Int),L),((n:Int),(n:Int),U)) n i j=A (ix P i) (ix Q j):=by
 obtain⟨_,x⟩:=h.places;have o:∀a m,a<n->el ((n:Int),(n:Int),L) a m=W3 lower (ix P a) m+if m=a then 1 else 0:=λa m d=>by
  show A5 (L.getD a []) (m:Int)=A5 (lower.getD (ix P a) []) (m:Int)+ _;rw[u a d,Cj];congr 1;by_cases l:m=a
  . rw[qR l,qR ω]
  rw[qL l,qL ω]
 have r:∀a g,a<n->g<n->el ((n:Int),(n:Int),U) a g=W3 rows (ix P a) (ix Q g):=λa g d hb=>by
  show A5 (U.getD a []) (g:Int)=A5 (rows.getD (ix P a) []) _;rw[(v a d).2, <-x g hb];exact qR ⟨qF _,ω⟩
 have pl:=h.elim.plt;have E:∀a,a<n->E3 (L.getD a []) (n:Int):=λa d=>by
  rw[u a d];obtain⟨k,s⟩:=h.lcan _ (pl a d);have y:∀e∈lower.getD (ix P a) [],e.1<(a:Int):=λe b=>by
   refine rB λG=>(k.2 e b).1 ?_
   have F:=s e b;have:=h.elim.low a e.1.toNat d ω ω;unfold W3 at this;rw[(ω:((e.1.toNat:Nat):Int)=e.1),O0 k.1 b]at this;exact this
  have w:=Gb (q:=1) k δ y;refine⟨w.1,λe b=>⟨?_,?_,(w.2 e b).1⟩⟩
  . rcases qU.1 b with b|b
    . exact(s e b).1
    rw[qJ]at b;subst b;exact qF _
  rcases qU.1 b with b|b
  . exact(s e b).2
  rw[qJ]at b;subst b;simp only;omega
 have vU:∀a,a<n->E3 (U.getD a []) (n:Int):=λa d=>by
  obtain⟨k,w⟩:=v a d;have s:∀e∈U.getD a [],0<=e.1/\e.1<(n:Int):=λe b=>rB λhh=>(k.2 e b).1 (by rw[<-O0 k.1 b,w];exact qL hh)
  exact⟨k.1,λe b=>⟨(s e b).1,(s e b).2,(k.2 e b).1⟩⟩
 refine⟨⟨A3s h.lP h.P0 h.elim.plt h.elim.pinj,A3s h.lQ h.Q0 h.elim.qlt h.elim.qinj,⟨rfl,rfl,qF _,by show(n:Int)<=16384;omega,qF _,by show(n:Int)<=16384;omega,by show(L.length:Int)=(n:Int);omega,λD t=>?_⟩,⟨rfl,rfl,qF _,by show(n:Int)<=16384;omega,qF _,by show(n:Int)<=16384;omega,by show(U.length:Int)=(n:Int);omega,λD t=>?_⟩,λi j c f=>?_⟩,λi j c f=>?_⟩
 . obtain⟨a,d,rfl⟩:=R8 [] t;exact E a (by rw[<-z];exact d)
 . obtain⟨a,d,rfl⟩:=R8 [] t;exact vU a (by rw[<-B];exact d)
 . have c:i<n:=ω
   have f:j<n:=ω
   refine⟨λH=>?_,?_,λI=>?_,?_⟩
   . show el ((n:Int),(n:Int),L) i j=0;rw[o i j c,h.elim.low i j c f ω,qL ω,rH]
   . show el ((n:Int),(n:Int),L) i i=1;rw[o i i c,h.elim.low i i c c (qV _),qR rfl,tB]
   . show el ((n:Int),(n:Int),U) i j=0;rw[r i j c f];exact h.elim.zero j (ix P i) f (pl i c) λa d e=>by have:=h.elim.pinj i a c ω e;omega
   show el ((n:Int),(n:Int),U) i i≠0;rw[r i i c c];exact h.elim.piv i c
 rw[h.elim.prod c f];unfold luM;refine B6 λm l=>?_
 show el ((n:Int),(n:Int),L) i m*el ((n:Int),(n:Int),U) m j= _;rw[o i m c,r m j l f]
def EI.sizes (h:EI n n S A rest P Q place rows lower cols) (b:∀a,1<=S a) {L U:List (List D5)}
 (d:∀a,a<n->L.getD a []=lower.getD (ix P a) []++ [((a:Int),rc 1)])
 (f:∀a,a<n->KH (λi=>if 0<=i/\i<(n:Int)then A5 (rows.getD (ix P a) []) ((List.idxOf i place:Nat):Int)else 0) (U.getD a [])) {R C:Int} {i:Nat} (hi:i<n) (j:Nat):qs (S n) (el (R,C,L) i j)/\qs (S i) (el (R,C,U) i j):=by
 constructor
 . show qs (S n) (A5 (L.getD i []) (j:Int));rw[d i hi,Cj];by_cases g:i=j
   . subst g;have c:A5 (lower.getD (ix P i) []) (i:Int)=0:=h.elim.low i i hi hi (qV _);rw[qR rfl,c,tB];exact C3x (b n)
   rw[qL ω,rH];exact h.lq _ (h.elim.plt i hi) _
 show qs (S i) (A5 (U.getD i []) (j:Int));rw[(f i hi).2];dsimp only;split
 . exact h.fin i hi _
 exact M5 (b i)
def EI.cans (h:EI n n S A rest P Q place rows lower cols) {L U:List (List D5)} (l:L.length=n) (o:U.length=n)
 (j:∀a,a<n->L.getD a []=lower.getD (ix P a) []++ [((a:Int),rc 1)])
 (k:∀a,a<n->KH (λi=>if 0<=i/\i<(n:Int)then A5 (rows.getD (ix P a) []) ((List.idxOf i place:Nat):Int)else 0) (U.getD a [])):(∀v∈L,V2 v)/\∀v∈U,V2 v:=by
 constructor
 . intro v f;obtain⟨a,b,rfl⟩:=R8 [] f;have b:a<n:=by rw[<-l];exact b
   rw[j a b];obtain⟨c,g⟩:=h.lcan _ (h.elim.plt a b);refine Gb c δ λe d=>rB λs=>(c.2 e d).1 ?_
   have r:=g e d;have:=h.elim.low a e.1.toNat b ω ω;unfold W3 at this;rw[(ω:((e.1.toNat:Nat):Int)=e.1),O0 c.1 d]at this;exact this
 intro v f;obtain⟨a,b,rfl⟩:=R8 [] f;exact(k a (by rw[<-o];exact b)).1
variable {n:Nat} {S:Nat->Nat} {rest P Q place:Wf} {rows lower:List (List D5)} {cols:List T4}
def jC (t:Int) (F:Nat->Int->Rat) (v:List D5) (j:Int) (es:T4):Prop:=(S5 es).Nodup/\∀i:Int,i∈S5 es↔(0<=i/\i<t/\F i.toNat j≠0)\/(i=t/\∃e∈v,e.1=j)
def B1z {t j:Int} {F:Nat->Int->Rat} {v:List D5} {es:T4} {b:Bool} {e:D5} (h:jC t F v j es) (d:e.1=j):jC t F (v++ [e]) j (Ev (.int .i64) t b es):=by
 obtain⟨a,c⟩:=fI t b es h.1;refine⟨a,λi=>?_⟩;rw[c,h.2];constructor
 . rintro(hh|hh| ⟨hh,x,a,c⟩)
   . exact .inr ⟨hh,e,by simp,d⟩
   . exact .inl hh
   exact .inr ⟨hh,x,sE _ a,c⟩
 rintro(hh| ⟨hh,x,a,c⟩)
 . exact .inr (.inl hh)
 exact .inl hh
def A8i {t j:Int} {F:Nat->Int->Rat} {v:List D5} {es:T4} {e:D5} (h:jC t F v j es) (b:e.1≠j):jC t F (v++ [e]) j es:=by
 refine⟨h.1,λi=>?_⟩;rw[h.2];refine g3r xX (g5f xX ⟨fun⟨x,a,hxj⟩=>⟨x,sE _ a,hxj⟩,fun⟨x,a,hxj⟩=>?_⟩);rcases qU.1 a with a|a
 . exact⟨x,a,hxj⟩
 rw[qJ]at a;subst a;exact absurd hxj b
def A8h {t j:Int} {F:Nat->Int->Rat} {v:List D5} {es:T4} {m:Int} (h:jC t F v j es) (l:0<=t) (f:E3 v m) (d:F t.toNat=A5 v):jC (t+1) F [] j es:=by
 refine⟨h.1,λi=>?_⟩;rw[h.2];constructor
 . rintro(⟨c,g,a⟩ | ⟨rfl,e,b,rfl⟩)
   . exact .inl ⟨c,ω,a⟩
   refine .inl ⟨l,ω,?_⟩;rw[d,O0 f.1 b];exact(f.2 e b).2.2
 rintro(⟨c,g,a⟩ | ⟨_,e,b,_⟩)
 . by_cases k:i=t
   . subst k;rw[d]at a;exact .inr ⟨rfl,DD a⟩
   exact .inl ⟨c,ω,a⟩
 cases b
def EI.start {F:Nat->Int->Rat} {A:Nat->Nat->Rat} (E:∀i j,i<n->j<n->A i j=F i (j:Int)) (V:rest.length=n) (G:∀i,i<n->rest.getD i 0=(i:Int))
 (M:P.length=n) (N:Q.length=n) (O:place.length=n) (H:rows.length=n) (I:lower.length=n) (J:cols.length=n)
 (w:∀i,i<n->KH (F i) (rows.getD i [])) (R:∀i (j:Int),i<n->F i j≠0->0<=j/\j<(n:Int)) (D:∀i j,i<n->qs (S 0) (F i j)) (B:∀i,i<n->lower.getD i []= [])
 (T:∀j:Int,0<=j->j<(n:Int)->jC (n:Int) F [] j (cols.getD j.toNat [])):EI n 0 S A rest P Q place rows lower cols:=by
 have d:∀a,¬a<0:=λa=>uG a
 have r:∀i (b:i<rest.length),rest[i]=(i:Int):=λi b=>by
  rw[<-G i ω,qE,qM b];rfl
 refine⟨⟨rS _,λa h=>absurd h (d a),λa h=>absurd h (d a),λa _ h=>absurd h (d a),λa _ h=>absurd h (d a),λi j b s=>?_,λa _ h=>absurd h (d a),λa h=>absurd h (d a),λa _ h=>absurd h (d a)⟩,M,N,O,H,I,J,λa h=>absurd h (d a),λa h=>absurd h (d a),λa h=>absurd h (d a),uH.2 λi j b s U e=>?_,λc=>⟨λv=>?_,λv=>?_⟩,λi b=>?_,λi b=>?_,λi b j=>?_,λa o=>absurd o (d a),λj s=>?_⟩
 . rw[B8,tB,E i j b s];exact((w i b).2 _).symm
 . rw[r i b,r j s]at e;omega
 . obtain⟨i,b,rfl⟩:=vE.1 v;rw[r i b];exact⟨qF _,ω,λa o=>absurd o (d a)⟩
 . obtain⟨f,g,_⟩:=v;have z:c.toNat<rest.length:=ω
   have:=r _ z;rw[(ω:((c.toNat:Nat):Int)=c)]at this;rw[<-this];exact wC z
 . obtain⟨l,t⟩:=w i b;exact⟨l,λe k=>R i e.1 b (by rw[<-t,O0 l.1 k];exact(l.2 e k).1),λj=>by rw[t];exact D i j b⟩
 . rw[B i b];exact⟨Ji,λe k=>by cases k⟩
 . rw[B i b,Rn];exact M5 (A3v (D i j b))
 have y:0<=j/\j<(n:Int):=by
  obtain⟨i,b,rfl⟩:=vE.1 s;rw[r i b];omega
 obtain⟨l,t⟩:=T j y.1 y.2;refine⟨l,λi=>?_⟩;rw[t];have x:∀i:Int,0<=i->i<(n:Int)->W3 rows i.toNat j.toNat=F i.toNat j:=λi f g=>by
  show A5 (rows.getD i.toNat []) ((j.toNat:Nat):Int)= _;rw[(w i.toNat ω).2,(ω:((j.toNat:Nat):Int)=j)]
 constructor
 . rintro(⟨f,g,u⟩ | ⟨_,e,k,_⟩)
   . exact⟨f,g,λa o=>absurd o (d a),by rw[x i f g];exact u⟩
   cases k
 rintro⟨f,g,_,u⟩;exact .inl ⟨f,g,by rw[x i f g]at u;exact u⟩
def nE (Bs:Int->Int->Prop) (i:Int) (vs:List D5) (j:Int) (es:T4):Prop:=(S5 es).Nodup/\∀x:Int,x∈S5 es↔Bs j x/\¬(x=i/\∃e∈vs,e.1=j)
def nD (Bs:Int->Int->Prop) (i:Int) (vs:List D5) (j:Int) (es:T4):Prop:=(S5 es).Nodup/\∀x:Int,x∈S5 es↔Bs j x\/(x=i/\∃e∈vs,e.1=j)
variable {Bs:Int->Int->Prop} {i j:Int} {vs:List D5} {es:T4} {e:D5}
def nF (h:(S5 es).Nodup/\∀x,x∈S5 es↔Bs j x):nE Bs i [] j es:=⟨h.1,λx=>by rw[h.2];exact⟨λa=>⟨a,fun⟨_,e,he,_⟩=>by cases he⟩,λa=>a.1⟩⟩
def B1w (h:(S5 es).Nodup/\∀x,x∈S5 es↔Bs j x):nD Bs i [] j es:=⟨h.1,λx=>by rw[h.2];exact⟨.inl,λa=>a.elim id fun⟨_,e,he,_⟩=>by cases he⟩⟩
def Ut (a:e.1=j):∃y∈vs++ [e],y.1=j:=⟨e,by simp,a⟩
def XP (b:e.1≠j):(∃y∈vs++ [e],y.1=j)↔∃y∈vs,y.1=j:=
 ⟨fun⟨y,a,hyj⟩=>by
  rcases qU.1 a with a|a
  . exact⟨y,a,hyj⟩
  rw[qJ]at a;subst a;exact absurd hyj b,fun⟨y,a,hyj⟩=>⟨y,sE _ a,hyj⟩⟩
def B1y (h:nE Bs i vs j es) (c:e.1=j):nE Bs i (vs++ [e]) j (Qj (.int .i64) i es):=by
 obtain⟨a,b⟩:=fH i es h.1;refine⟨a,λx=>?_⟩;rw[b,h.2];exact⟨λa=>⟨a.2.1,λb=>a.1 b.1⟩,λa=>⟨λd=>a.2 ⟨d,Ut c⟩,a.1,λb=>a.2 ⟨b.1,Ut c⟩⟩⟩
def A8g (h:nE Bs i vs j es) (a:e.1≠j):nE Bs i (vs++ [e]) j es:=⟨h.1,λx=>by rw[h.2,XP a]⟩
def B1x {b:Bool} (h:nD Bs i vs j es) (d:e.1=j):nD Bs i (vs++ [e]) j (Ev (.int .i64) i b es):=by
 obtain⟨a,c⟩:=fI i b es h.1;refine⟨a,λx=>?_⟩;rw[c,h.2];exact⟨λa=>a.elim (λc=> .inr ⟨c,Ut d⟩) λa=>a.elim .inl λc=> .inr ⟨c.1,Ut d⟩,λa=>a.elim (λa=> .inr (.inl a)) λc=> .inl c.1⟩
def A8f (h:nD Bs i vs j es) (a:e.1≠j):nD Bs i (vs++ [e]) j es:=⟨h.1,λx=>by rw[h.2,XP a]⟩
def B2a {O N:Int->Prop} {pv nw:List D5} {d:T4} (g:nD (λ_ x=>Bs j x/\¬(x=i/\∃e∈pv,e.1=j)) i nw j d)
 (l:Bs j i↔O j) (n:(∃e∈pv,e.1=j)\/(O j↔N j)) (k:(∃e∈nw,e.1=j)↔N j):(S5 d).Nodup/\∀x,x∈S5 d↔(x≠i/\Bs j x)\/(x=i/\N j):=by
 refine⟨g.1,λx=>?_⟩;rw[g.2,k];by_cases c:x=i
 . subst c;rcases n with f|f
   . exact⟨λb=>b.elim (λa=>absurd ⟨rfl,f⟩ a.2) .inr,λb=>b.elim (λa=>absurd rfl a.1) .inr⟩
   exact⟨λb=>b.elim (λa=> .inr ⟨rfl,f.1 (l.1 a.1)⟩) .inr,λb=>b.elim (λa=>absurd rfl a.1) .inr⟩
 exact⟨λb=>b.elim (λa=> .inl ⟨c,a.1⟩) λa=>absurd a.1 c,λb=>b.elim (λa=> .inl ⟨a.2,λh=>c h.1⟩) λa=>absurd a.1 c⟩
def B9l {s:Nat} {x f r c:Rat} (h:qs s x) (d:qs s f) (g:qs s r) (b:qs s c):qs (4*s+1) (x-f/r*c):=by
 have a:=B5p h (Hg (QM d g) b);rwa[(ω:s+(s+s+s)+1=4*s+1)]at a
def inC (cols:List T4) (j x:Int):Prop:=x∈S5 (cols.getD j.toNat [])
structure CI (n k s:Nat) (rest P:Wf) (rows0 lower0:List (List D5)) (r c:Int) (D:Wf) (rows lower:List (List D5)) (cols:List T4):Prop where
 lrows:rows.length=n
 llow:lower.length=n
 lcols:cols.length=n
 rd:∀i:Nat,i<n->(i:Int)∈D->V2 (rows.getD i [])/\(∀e∈rows.getD i [],0<=e.1/\e.1<(n:Int))/\(∀j,qs (4*s+1) (A5 (rows.getD i []) j))/\∀j,A5 (rows.getD i []) j=A5 (rows0.getD i []) j-Xy k (ix P) (W3 rows0) r.toNat c.toNat i*A5 (rows0.getD r.toNat []) j
 ru:∀i:Nat,i<n->(i:Int)∉D->rows.getD i []=rows0.getD i []
 lo:∀i:Nat,i<n->lower.getD i []=if(i:Int)∈D then lower0.getD i []++ [((k:Int),rc (Xy k (ix P) (W3 rows0) r.toNat c.toNat i))]else lower0.getD i []
 col:∀j:Int,j∈rest->(S5 (cols.getD j.toNat [])).Nodup/\∀x:Int,x∈S5 (cols.getD j.toNat [])↔x≠r/\0<=x/\x<(n:Int)/\(∀a,a<k->x.toNat≠ix P a)/\W3 rows x.toNat j.toNat≠0
variable {n k s:Nat} {S:Nat->Nat} {A:Nat->Nat->Rat} {rest P Q place:Wf} {rows lower rows1 lower1:List (List D5)} {cols cols1 cols2:List T4} {r c:Int}
def A5n {v:List D5} (h:V2 v) (j:Int):(∃e∈v,e.1=j)↔A5 v j≠0:=
 ⟨fun⟨e,he,hj⟩=>by rw[<-hj,O0 h.1 he];exact(h.2 e he).1,DD⟩
def EI.row (h:EI n k S A rest P Q place rows lower cols) (b:c∈rest) (d:r∈S5 (cols.getD c.toNat [])):0<=r/\r<(n:Int)/\(∀a,a<k->r.toNat≠ix P a)/\W3 rows r.toNat c.toNat≠0:=((h.col c b).2 r).1 d
def EI.crange (h:EI n k S A rest P Q place rows lower cols) (a:c∈rest):0<=c/\c<(n:Int):=⟨((h.rmem c).1 a).1,((h.rmem c).1 a).2.1⟩
def CI.init (h:EI n k S A rest P Q place rows lower cols) (u:c∈rest) (x:r∈S5 (cols.getD c.toNat [])) (z:cols1.length=n)
 (v:∀j:Int,j∈rest->nE (inC cols) r (rows.getD r.toNat []) j (cols1.getD j.toNat [])):CI n k s rest P rows lower r c [] rows lower cols1:=by
 obtain⟨F,G,H,_⟩:=h.row u x;refine⟨h.lrows,h.llow,z,λi _ w=>(by cases w),λi _ _=>rfl,λi _=>(qL (by simp)).symm,λj hj=>?_⟩;obtain⟨D,E⟩:=h.crange hj;obtain⟨l,o⟩:=v j hj;refine⟨l,λB=>?_⟩;rw[o];have t:=(h.col j hj).2 B;unfold inC;rw[t,A5n (h.can r.toNat ω).1];constructor
 . rintro⟨⟨d,f,g,a⟩,b⟩;refine⟨λe=>b ⟨e,?_⟩,d,f,g,a⟩;subst e;unfold W3 at a;rwa[(ω:((j.toNat:Nat):Int)=j)]at a
 rintro⟨y,d,f,g,a⟩;exact⟨⟨d,f,g,a⟩,λb=>y b.1⟩
def CI.next (h:EI n k S A rest P Q place rows lower cols) (hc:c∈rest) (hr:r∈S5 (cols.getD c.toNat [])) {D:Wf} (g:CI n k (S k) rest P rows lower r c D rows1 lower1 cols1) {i:Int}
 (a1:0<=i) (a2:i<(n:Int)) (W:i≠r) (B:∀a,a<k->i.toNat≠ix P a) (T:i∉D) {nw:List D5} {q:Rat}
 (Z:q=W3 rows i.toNat c.toNat/W3 rows r.toNat c.toNat)
 (u:KH (λj=>A5 (rows.getD i.toNat []) j-q*A5 (rows.getD r.toNat []) j) nw) (a7:cols2.length=n)
 (a5:∀j:Int,j∈rest->nD (λj x=>inC cols1 j x/\¬(x=i/\∃e∈rows.getD r.toNat [],e.1=j)) i nw j (cols2.getD j.toNat [])):
 CI n k (S k) rest P rows lower r c (D++ [i]) (rows1.set i.toNat nw) (lower1.set i.toNat (lower1.getD i.toNat []++ [((k:Int),rc q)])) cols2:=by
 obtain⟨ac,ad,ae,af⟩:=h.row hc hr;obtain⟨a8,c1⟩:=h.crange hc;have o:i.toNat<n:=ω
 have V:((i.toNat:Nat):Int)=i:=ω
 have U:Xy k (ix P) (W3 rows) r.toNat c.toNat i.toNat=q:=by rw[XQ ω B,Z]
 have s:∀x:Nat,(x:Int)∈D++ [i]↔(x:Int)∈D\/x=i.toNat:=λx=>by
  rw[qU,qJ];exact g3r xX ω
 have w:∀j,A5 nw j=A5 (rows.getD i.toNat []) j-q*A5 (rows.getD r.toNat []) j:=u.2;have a6:∀e∈nw,0<=e.1/\e.1<(n:Int):=λe he=>rB λb=>by
  refine(u.1.2 e he).1 ?_;rw[<-O0 u.1.1 he,w,D4 (v:=rows.getD i.toNat []) λM F G=>b (by rw[<-G];exact(h.can _ o).2.1 M F),D4 (v:=rows.getD r.toNat []) λM F G=>b (by rw[<-G];exact(h.can r.toNat ω).2.1 M F),tA,tL,wK,rH]
 refine⟨by rw[qT];exact g.lrows,by rw[qT];exact g.llow,a7,λx d f=>?_,λx d f=>?_,λx d=>?_,λj E=>?_⟩
 . by_cases l:x=i.toNat
   . subst l;rw[C1 (by rw[g.lrows];exact o),U];refine⟨u.1,a6,λj=>?_,w⟩;rw[w,Z];have:=B9l ((h.can _ o).2.2 j) ((h.can _ o).2.2 (c.toNat:Int)) ((h.can r.toNat ω).2.2 (c.toNat:Int)) ((h.can r.toNat ω).2.2 j);exact this
   rw[E5 l];exact g.rd x d (((s x).1 f).resolve_right l)
 . have l:x≠i.toNat:=λe=>f ((s x).2 (.inr e))
   rw[E5 l];exact g.ru x d λb=>f ((s x).2 (.inl b))
 . by_cases l:x=i.toNat
   . subst l;rw[C1 (by rw[g.llow];exact o),qR ((s _).2 (.inr rfl)),g.lo _ o,qL (by rw[V];exact T),U]
   rw[E5 l,g.lo x d];by_cases f:(x:Int)∈D
   . rw[qR f,qR ((s x).2 (.inl f))]
   rw[qL f,qL λb=>f (((s x).1 b).resolve_right l)]
 obtain⟨aa,ab⟩:=h.crange E;obtain⟨a9,R⟩:=g.col j E;have X:((j.toNat:Nat):Int)=j:=ω
 have a4:inC cols1 j i↔A5 (rows.getD i.toNat []) j≠0:=by
  unfold inC;rw[R];have F:W3 rows1 i.toNat j.toNat=A5 (rows.getD i.toNat []) j:=by
   unfold W3;rw[g.ru _ o (by rw[V];exact T),X]
  rw[F];exact⟨λb=>b.2.2.2.2,λb=>⟨W,a1,a2,B,b⟩⟩
 have a0:=B2a (Bs:=inC cols1) (O:=λj=>A5 (rows.getD i.toNat []) j≠0) (N:=λj=>A5 nw j≠0) (pv:=rows.getD r.toNat []) (nw:=nw) (a5 j E) a4 ?_ (A5n u.1 j)
 . refine⟨a0.1,λx=>?_⟩;rw[a0.2];unfold inC;rw[R];by_cases d:x=i
   . subst d;have:W3 (rows1.set x.toNat nw) x.toNat j.toNat=A5 nw j:=by
      unfold W3;rw[C1 (by rw[g.lrows];exact o),X]
     rw[this];exact⟨λb=>b.elim (λz=>absurd rfl z.1) λz=>⟨W,a1,a2,B,z.2⟩,λb=> .inr ⟨rfl,b.2.2.2.2⟩⟩
   constructor
   . rintro(⟨_,t,H,I,J,y⟩ | ⟨t,_⟩)
     . refine⟨t,H,I,J,?_⟩;unfold W3 at y|-;rwa[E5 ω]
     exact absurd t d
   rintro⟨t,H,I,J,y⟩;refine .inl ⟨d,t,H,I,J,?_⟩;unfold W3 at y|-;rwa[E5 ω]at y
 by_cases Y:∃e∈rows.getD r.toNat [],e.1=j
 . exact .inl Y
 refine .inr ?_;have a3:A5 (rows.getD r.toNat []) j=0:=rB λb=>Y (DD b)
 show A5 _ j≠0↔A5 nw j≠0;rw[w,a3,tA,tL,wK,rH]
def CI.done (h:EI n k S A rest P Q place rows lower cols) (z:c∈rest) (O:r∈S5 (cols.getD c.toNat [])) {D:Wf} (g:CI n k (S k) rest P rows lower r c D rows1 lower1 cols1)
 (I:S (k+1)=4*S k+1) (U:∀x:Int,x∈D↔x≠r/\0<=x/\x<(n:Int)/\(∀a,a<k->x.toNat≠ix P a)/\W3 rows x.toNat c.toNat≠0) {G:Wf} (X:G.Nodup) (R:∀x,x∈G↔x∈rest/\x≠c):
 EI n (k+1) S A G (P.set k r) (Q.set k c) (place.set c.toNat k) rows1 lower1 cols1:=by
 obtain⟨Z,a0,a1,W⟩:=h.row z O;have E:k<P.length:=by
  rw[h.lP];refine g4b h.elim.kn λE=>?_
  obtain⟨M,c1,F⟩:=(h.rmem c).1 z;obtain⟨a,l,e⟩:=Df (n:=n) (q:=ix Q) (λa l=>h.elim.qlt a ω) (λa b l hb=>h.elim.qinj a b ω ω) (ω:c.toNat<n);exact absurd e.symm (F a ω)
 have B:∀i:Nat,i<n->((i:Int)∈D↔Xy k (ix P) (W3 rows) r.toNat c.toNat i≠0):=λi d=>by
  rw[U,qQ];constructor
  . rintro⟨Y,_,_,t,u⟩;rw[XQ ω t,uQ];exact λo=>(g0s.1 o).elim u λo=>by
     have:=wP _ W;rw[o,tA]at this;exact absurd this δ
  intro M;have F:¬(i=r.toNat\/∃a,a<k/\i=ix P a):=λs=>M (qR s)
  refine⟨λe=>F (.inl ω),ω,ω,λa l e=>F (.inr ⟨a,l,e⟩),λo=>M ?_⟩;unfold Xy;rw[qL F,o,uQ,sO]
 refine h.step z O X R g.lrows g.llow g.lcols (λi d=>?_) (λi d=>?_) ω (λi d=>?_) λj V=>?_
 . rw[I];by_cases f:(i:Int)∈D
   . exact g.rd i d f
   have o:Xy k (ix P) (W3 rows) r.toNat c.toNat i=0:=rB λs=>f ((B i d).2 s)
   rw[g.ru i d f,o];obtain⟨w,y,T⟩:=h.can i d;exact⟨w,y,λj=>G3 (T j) ω,λj=>by rw[sO,tL,wK,rH]⟩
 . rw[g.lo i d];by_cases f:(i:Int)∈D
   . rw[qR f,qL ((B i d).1 f)]
   rw[qL f,qR (rB λs=>f ((B i d).2 s))]
 . have N:=(h.can i d).2.2 (c.toNat:Int);rw[I];unfold Xy;split
   . exact M5 (by have:=A3v N;omega)
   exact G3 (QM N ((h.can r.toNat ω).2.2 (c.toNat:Int))) ω
 obtain⟨w,y⟩:=g.col j ((R j).1 V).1;refine⟨w,λx=>?_⟩;rw[y];constructor
 . rintro⟨Y,t,u,v,H⟩;refine⟨t,u,λa l=>?_,H⟩;by_cases J:a=k
   . subst J;rw[Qh E];omega
   rw[Ck J];exact v a ω
 rintro⟨t,u,v,H⟩;refine⟨λe=>?_,t,u,λa l=>?_,H⟩
 . have:=v k (rR _);rw[Qh E,e]at this;exact this rfl
 have:=v a ω;rwa[Ck (tY l)]at this
def EI.two (h:EI n k S A rest P Q place rows lower cols) {i j:Nat} (b:i<n) (c:j<n) (o:i≠j) (g:∀a,a<k->i≠ix P a) (l:∀a,a<k->j≠ix P a):k+2<=n:=by
 refine rB λb=>?_
 have b:=h.elim.kn;obtain⟨a,f,c,d,b⟩:=ZP n (λa=>if a<k then ix P a else if a=k then i else j) λa _=>by
  split
  . rename_i c;exact h.elim.plt a c
  split<;>assumption
 by_cases c:a<k
 . rw[qR c]at b;by_cases d:f<k
   . rw[qR d]at b;have:=h.elim.pinj a f c d b;omega
   rw[qL d]at b;split at b
   . exact g a c b.symm
   exact l a c b.symm
 have d:¬f<k:=ω
 rw[qL c,qL d]at b;have:a=k:=ω
 rw[qR this,qL ω]at b;exact o b
def Xp.qsR {n k T:Nat} {A R Lo:Nat->Nat->Rat} {p q:Nat->Nat} (h:Xp n k A p q R Lo) (I:cR n n A T) {i j:Nat} (t:i<n) (M:j<n):qs (T+T) (R i j):=by
 have H:∀a,a<=k->a<n->(∀b,b<a->i≠p b)->(∀m,a<=m->m<k->Lo i m=0)->qs (T+T) (R i j):=λa hak han hia hlo=>by
  have O:∀b,b<a->(if b=a then i else p b)=p b:=λb d=>qL ω
  have w:∀b,b<a->(if b=a then R i else R (p b))=R (p b):=λb d=>qL ω
  have z:∀b,b<a->(if b=a then j else q b)=q b:=λb d=>qL ω
  have E:∀b,b<=a->(if b=a then j else q b)<n:=λb d=>by
   by_cases e:b=a
   . rw[qR e];exact M
   rw[qL e];exact h.qlt b ω
  have:=B6j (R:=n) (C:=n) (T:=T) (A:=A) (a:=a) (u:=λb=>if b=a then R i else R (p b)) (X:=λb=>if b=a then Lo i else Lo (p b)) (r:=λb=>if b=a then i else p b) (l:=λb=>if b=a then j else q b) I (λb d=>by
   by_cases e:b=a
   . simp only[qR e];exact t
   . simp only[qL e];exact h.plt b ω) E han han (λb d m F=>by
   have y:=E m F;generalize (if m=a then j else q m)=c at y;by_cases e:b=a
   . simp only[e,wG];rw[h.dec i c t y,Iu hak λf g o=>by rw[hlo f g o,sO]];congr 1;exact B6 λf D=>by rw[w f D]
   . simp only[qL e];rw[h.dec (p b) c (h.plt b ω) y,Iu (ω:b<=k) λf g o=>by rw[h.low b f ω o g,sO]];congr 1;exact B6 λf D=>by rw[w f ω]) (λb m F d=>by
   show(if b=a then R i else R (p b)) (if m=a then j else q m)=0;rw[z m ω];by_cases e:b=a
   . rw[qR e];exact h.zero m i ω t λv J=>hia v ω
   . rw[qL e];exact h.zero m (p b) ω (h.plt b ω) λv J x=>by have:=h.pinj b v ω ω x;omega) (λb d=>by
   show(if b=a then R i else R (p b)) (if b=a then j else q b)≠0;rw[w b d,z b d];exact h.piv b ω)
  simp only[wG]at this;exact this
 by_cases B:∃a,a<k/\i=p a
 . obtain⟨a,s,rfl⟩:=B;exact H a ω (by have:=h.kn;omega) (λb d x=>by have:=h.pinj a b s ω x;omega) λm g o=>h.low a m s o g
 have G:∀a,a<k->i≠p a:=λa s e=>B ⟨a,s,e⟩
 have N:k<n:=g4b h.kn λe=>by
  subst e;obtain⟨a,s,f⟩:=Df h.plt h.pinj t;exact G a s f.symm
 exact H k (qV _) N G λm g o=>ω
def Xp.qsL {n k T:Nat} {A R Lo:Nat->Nat->Rat} {p q:Nat->Nat} (h:Xp n k A p q R Lo) (B:cR n n A T) (F:1<=T) {i m:Nat} (t:i<n) (D:m<k):qs (T+T) (Lo i m):=by
 by_cases y:∃a,a<=m/\i=p a
 . obtain⟨a,d,rfl⟩:=y;rw[h.low a m ω D d];exact M5 ω
 have E:∀a,a<=m->i≠p a:=λa d e=>y ⟨a,d,e⟩
 have z:m<n:=by have:=h.kn;omega
 refine A4j (R:=n) (C:=n) (T:=T) (A:=A) (a:=m) (u:=λb=>R (p b)) (X:=λb=>Lo (p b)) (r:=p) (l:=q) (s:=i) (x:=Lo i) B (λb j=>h.plt b ω) t (λb j=>h.qlt b ω) z z (λb j c w=>?_) (λb c w j=>?_) (λb j=>h.piv b ω) (λc w=>?_)
 . rw[h.dec (p b) (q c) (h.plt b ω) (h.qlt c ω),Iu (ω:b<=k) λf v g=>by rw[h.low b f ω g v,sO]]
 . exact h.zero c (p b) ω (h.plt b ω) λa d o=>by have:=h.pinj b a ω ω o;omega
 rw[h.dec i (q c) t (h.qlt c ω),h.zero c i ω t λa d=>E a ω,rH,Iu (ω:m+1<=k) λf v g=>by rw[h.zero c (p f) ω (h.plt f g) λa d o=>by have:=h.pinj f a g ω o;omega,tA],B8]
variable {n k s T:Nat} {S S':Nat->Nat} {A:Nat->Nat->Rat} {rest P Q place:Wf} {rows lower rows1 lower1:List (List D5)} {cols cols1 cols2:List T4} {r c:Int}
def EI.resize (h:EI n k S A rest P Q place rows lower cols) (b:∀a,a<=k->S a=S' a):EI n k S' A rest P Q place rows lower cols:=
 { h with
   can:=λi c=>by rw[<-b k (qV _)];exact h.can i c
   lq:=λi c j=>by rw[<-b k (qV _)];exact h.lq i c j
   fin:=λa c j=>by rw[<-b a ω];exact h.fin a c j}
def EI.tight (h:EI n k S A rest P Q place rows lower cols) (d:1<=T) (b:cR n n A T):EI n k (λ_=>T+T) A rest P Q place rows lower cols:=by
 have c:∀i,i<n->∀j:Int,qs (T+T) (A5 (rows.getD i []) j):=λi a j=>by
  by_cases l:0<=j/\j<(n:Int)
  . have:=h.elim.qsR b a (ω:j.toNat<n);unfold W3 at this;rwa[(ω:((j.toNat:Nat):Int)=j)]at this
  rw[D4 λe f g=>l (by rw[<-g];exact(h.can i a).2.1 e f)];exact M5 ω
 exact {h with
  can:=λi a=>⟨(h.can i a).1,(h.can i a).2.1,c i a⟩
  lq:=λi a j=>by
   by_cases f:0<=j/\j<(k:Int)
   . have:=h.elim.qsL b d a (ω:j.toNat<k);unfold W3 at this;rwa[(ω:((j.toNat:Nat):Int)=j)]at this
   rw[D4 λe b d=>f (by rw[<-d];exact(h.lcan i a).2 e b)];exact M5 ω
  fin:=λa b j=>c _ (h.elim.plt a b) j}
def CI.doneT (h:EI n k (λ_=>T+T) A rest P Q place rows lower cols) (i:1<=T) (d:cR n n A T) (j:c∈rest) (l:r∈S5 (cols.getD c.toNat [])) {D:Wf} (g:CI n k (T+T) rest P rows lower r c D rows1 lower1 cols1)
 (f:∀x:Int,x∈D↔x≠r/\0<=x/\x<(n:Int)/\(∀a,a<k->x.toNat≠ix P a)/\W3 rows x.toNat c.toNat≠0) {b:Wf} (o:b.Nodup) (s:∀x,x∈b↔x∈rest/\x≠c):
 EI n (k+1) (λ_=>T+T) A b (P.set k r) (Q.set k c) (place.set c.toNat k) rows1 lower1 cols1:=by
 have b:=h.resize (S':=λa=>if a<=k then T+T else 4*(T+T)+1) λa ha=>(qR ha).symm
 refine(CI.done b j l (D:=D) (by simp only[qR (qV k)];exact g) ?_ f o s).tight i d;simp only[qL (Nat.not_succ_le_self k),qR (qV k)]
def B8y {R C:Nat} (a:cR R C A T) {i j:Nat} (b:i<R) (c:j<C):qs T (A i j):=by
 have:=a 1 (λ_=>i) (λ_=>j) ω ω (λ_ _=>b) (λ_ _=>c);rwa[show det 1 (λ_ _=>A i j)=A i j from by rw[det,B8,B8,det];show 0+1*A i j*1=A i j;grind]at this
end Go.Proofs.YtdbnghliccifcaaGreat
