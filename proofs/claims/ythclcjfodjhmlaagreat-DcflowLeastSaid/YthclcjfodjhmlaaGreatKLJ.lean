/- Part. -/
import Derived.Shelf.SlSortCmp.NoneTotal
import Derived.Lib.QuietBelow
import Derived.Shelf.SlGeneric
import Derived.Shelf.SlicesG.Cmp
import Derived.Ground.SlsfProg
import Derived.Ground.SlgcProg
import Derived.Test.YthclcjfodjhmlaaGreatProg
import Derived.Test.YthclcjfodjhmlaaGreatKLI
set_option linter.all false
namespace Go.Proofs.YthclcjfodjhmlaaGreat
open Go.Proofs.Tryz
open Go.IntKind (i64 u32)
def Gu (g:D3->Rat):List D3->Rat
 | []=>0
 |e::l=>g e+Gu g l
def A7t {g:D3->Rat} {l m:List D3} (h:l.Perm m):Gu g l=Gu g m:=by
 induction h with
 |nil=>rfl
 |cons x _ ih=>rw[Gu,Gu,ih]
 |swap x y l=>simp only[Gu];grind
 |trans _ _ h1 u=>exact h1.trans u
def nX {g:D3->Rat} {l m:List D3} :Gu g (l++m)=Gu g l+Gu g m:=by
 induction l with
 |nil=>rw[wG,Gu,tL]
 |cons e l u=>rw[xT,Gu,Gu,u,xR]
def A1y {g k:D3->Rat} {l:List D3} (h:∀e∈l,g e=k e):Gu g l=Gu k l:=by
 induction l with
 |nil=>rfl
 |cons e l u=>rw[Gu,Gu,h e (rF ..),u fun x hx=>h x (qL _ hx)]
def pF (ls:List Ln) (φ:Int->Rat) (e:D3):Rat:=rv e.2*(φ (Oq ls e.1).1-φ (Oq ls e.1).2)
def WS {ls:List Ln} {φ:Int->Rat} :∀ {p:List (Int×Int)} {u v:Int},AQ ls u v p->Gu (pF ls φ) (p.map JA)=φ u-φ v
 | [],u,v,h=>by cases h;rw[g0y,Gu];grind
 |e::p,u,v,⟨w,hw,h⟩=>by
  have ih:=WS (φ:=φ) h;simp only[rU,Gu,ih,pF,JA,fD];rcases hw with⟨hs,hl⟩ | ⟨hs,hl⟩<;>rw[hl,hs]
  . rw[show((1:Int):Rat)=1 from rfl];grind
  . rw[show((-1:Int):Rat)= -1 from rfl];grind
section
variable {n:Int} {ls:List Ln} {line:Int}
def B2w (u:V7 n ls) (h0:0<=line) (h1:line<(ls.length:Int)) (hl:line∉D5 n ls) (φ:Int->Rat):Gu (pF ls φ) (Ot n ls line)=0:=by
 have a0:=u.2.2 _ (Lq h0 h1);obtain⟨p,hp⟩:=way u a0.2.2.1 a0.2.2.2 a0.1 a0.2.1 (Gh u.1 u.2.2 (Lq h0 h1)).symm;rw[<-A7t (Qi u h0 h1 hl hp).1,Gu,WS hp.1];simp only[pF,fD];rw[show((1:Int):Rat)=1 from rfl];grind
def WR (u:V7 n ls) (h0:0<=line) (h1:line<(ls.length:Int)) (hl:line∉D5 n ls):∀e∈Ot n ls line,(0<=e.1/\e.1<(ls.length:Int))/\(e.2=ri 1\/e.2=ri (-1)):=by
 have a0:=u.2.2 _ (Lq h0 h1);obtain⟨p,hp⟩:=way u a0.2.2.1 a0.2.2.2 a0.1 a0.2.1 (Gh u.1 u.2.2 (Lq h0 h1)).symm;obtain⟨g1,_,g3⟩:=Qi u h0 h1 hl hp;intro e he;have a1:=g1.mem_iff.2 he;refine⟨?_,g3 e a1⟩;rcases qR.1 a1 with rfl|hm
 . exact⟨h0,h1⟩
 . obtain⟨x,hx,rfl⟩:=rZ.1 hm;exact Fy (hp.2.1 x hx).1
def B2v (line:Int):(Ot n ls line).length<=ls.length:=by
 unfold Ot;refine rA (List.length_filterMap_le _ _) ?_;rw[yK];exact rC _
end
def A7s {n:Int} {ls:List Ln} {line:Int} (h:line<0\/(ls.length:Int)<=line):Zi n ls line= []/\Zh n ls line=12:=by
 unfold Zi Zh;rw[qO (by omega),qO (by omega)];exact⟨rfl,rfl⟩
def KF {n:Int} {ls:List Ln} {line:Int} (u:0<=line) (h1:line<(ls.length:Int)) (h:line∈D5 n ls):Zi n ls line= []/\Zh n ls line=20:=by
 unfold Zi Zh;rw[qY ⟨u,h1⟩,qY h,qY ⟨u,h1⟩,qY h];exact⟨rfl,rfl⟩
def WQ {n:Int} {ls:List Ln} {line:Int} (u:0<=line) (h1:line<(ls.length:Int)) (h:line∉D5 n ls):Zi n ls line=Ot n ls line/\Zh n ls line=0:=by
 unfold Zi Zh;rw[qY ⟨u,h1⟩,qO h,qY ⟨u,h1⟩,qO h];exact⟨rfl,rfl⟩
def Vg (E:List Qx):(Jf E).length=E.length:=sD _
def C1e {N:Od} (hv:F1 N) {e:Int} (h0:0<=e) (h1:e<(N.2.length:Int)):Oq (Jf N.2) e=((Eu N.2 e.toNat:Int),(Ew N.2 e.toNat:Int)):=by
 have u:e.toNat<N.2.length:=by omega
 have:=A0x hv u;unfold Oq Jf;rw[qF,vC,qM u];have hg:N.2.getD e.toNat dB=N.2[e.toNat]:=by rw[qF,qM u];rfl
 rw[hg]at this;show(N.2[e.toNat].1,N.2[e.toNat].2.1)= _;rw[this.1,this.2]
def Co (l:List D3) (i:Nat):Rat:=Gu (fun e=>(if e.1=(i:Int)then 1 else 0)*rv e.2) l
def cO {E:List Qx} :∀ {l:List D3},(∀e∈l,0<=e.1/\e.1<(E.length:Int))->∀b,Qf E (Co l) b=Gu (fun e=>rv e.2*Yq (Eu E) (Ew E) b e.1.toNat) l
 | [],_,b=>by
  unfold Qf FG;rw[Gu];exact T4 fun i _=>by rw[Co,Gu,tZ]
 |e::l,h,b=>by
  have u:=cO (fun x hx=>h x (qL _ hx)) b;obtain⟨e0,e1⟩:=h e (rF ..);rw[Gu, <-u];unfold Qf FG;rw[<-g2l, <-B8 (f:=fun i=>Yq (Eu E) (Ew E) b i*Co l i+(if e.1.toNat=i then 1 else 0)*(Yq (Eu E) (Ew E) b i*rv e.2)) (fun i _=> ?_),Ez,XX (by omega),g0z (rv e.2)];show _=Yq (Eu E) (Ew E) b i*((if e.1=(i:Int)then 1 else 0)*rv e.2+Co l i);by_cases hi:e.1=(i:Int)
  . rw[qY hi,qY (by omega)];grind
  . rw[qO hi,qO (by omega)];grind
def B2u {N:Od} (hv:F1 N) {line:Int} (h0:0<=line) (h1:line<(N.2.length:Int)) (hl:line∉D5 N.1 (Jf N.2)) (b:Nat):Qf N.2 (Co (Ot N.1 (Jf N.2) line)) b=0:=by
 have u:line<((Jf N.2).length:Int):=by rw[Vg];exact h1
 have hm:=WR (Uw hv) h0 u hl;rw[cO fun e he=>by have:=(hm e he).1;rw[Vg]at this;exact this, <-B2w (Uw hv) h0 u hl (fun c=>if c=(b:Int)then 1 else 0)];refine A1y fun e he=> ?_
 obtain⟨⟨e0,e1⟩, -⟩:=hm e he;rw[Vg]at e1;unfold pF Yq;rw[C1e hv e0 e1];simp only[Int.ofNat_inj]
end Go.Proofs.YthclcjfodjhmlaaGreat
namespace Go.Proofs.YthclcjfodjhmlaaGreat
open Go.Proofs.Tryz
open Go.Vc Go.Gw
open Go.IntKind (i64 u32)
def PL (x:A2 Hs.args) (hw:awf Hs.args x) (hp:Hs.pre x):GB x:=by
 obtain⟨n,ls,_⟩:=x;change Int at n;change List (Int×Int)at ls;obtain⟨a3,hl⟩:V7 n ls/\ls.length<=100000:=hp;obtain⟨n0,n1,nb⟩:=id a3;simp only[GB,iB,rT7];refine⟨fun p=>0<=p.2.1/\p.2.1<=(ls.length:Int)/\p.1=(D2 n ls p.2.1.toNat).2.1,fun p=>((ls.length:Int)-p.2.1).toNat,⟨qG _,qD _,rfl⟩, ?_⟩;rintro⟨f,i,_⟩ _ ⟨h0,h1,h2⟩;change Int at i;change List Int at f;simp only at h0 h1 h2⊢;have a5:=dF a3 (k:=i.toNat) (by omega);rw[<-h2]at a5;obtain⟨t1,_⟩:=Eb a3 i.toNat (by omega);refine⟨fun hi=> ?_,fun hi=> ?_⟩
 . have hi:=qA hi;have a4:EH n (gx ((0:Int),(0:Int)) ls i):=nb _ (H1 h0 hi);have hg:=E5 (d:=((0:Int),(0:Int))) h0 hi;generalize gx ((0:Int),(0:Int)) ls i=l at a4 hg⊢;obtain⟨a,b⟩:=l;obtain⟨a0,a1,b0,b1⟩:=a4;simp only at a0 a1 b0 b1⊢;rw[show List.drop (Int.toNat 0) (List.take i.toNat ls)=ls.take i.toNat from rfl];refine⟨fun p=>p.1=(D2 n ls (i.toNat+1)).2.1,⟨⟨by omega,h0,by omega⟩,⟨n0,n1,fun l hl=>nb l (rV hl)⟩, ?_⟩, ?_⟩
   . rintro⟨r,_⟩ _ hr;simp only at hr⊢;have a6:r.length=n.toNat:=by rw[hr,W4]
     have ga:gx 0 r a=C1 (D2 n ls i.toNat).1 a:=by rw[E5 a0 (by omega),t1, <-hr];rfl
     have gb:gx 0 r b=C1 (D2 n ls i.toNat).1 b:=by rw[E5 b0 (by omega),t1, <-hr];rfl
     rw[ga,gb];refine⟨⟨h0,hi⟩,⟨by omega,by omega⟩,⟨a0,by omega⟩,⟨h0,hi⟩,⟨by omega,by omega⟩,⟨b0,by omega⟩,fun a2=>⟨⟨by simp only[qZ];omega,by simp only[qZ];omega⟩, ?_⟩,fun u=> ?_⟩
     . have a2:=qA a2;show f++ [i]= _;rw[D2];simp only[<-hg];rw[qO a2, <-h2,show((i.toNat:Nat):Int)=i from by omega]
     . have u:C1 (D2 n ls i.toNat).1 a=C1 (D2 n ls i.toNat).1 b:=by simpa using u
       show f= _;rw[D2];simp only[<-hg];rw[qY u, <-h2]
   . rintro⟨f',_⟩ _ k1;simp only at k1⊢;rw[wv (by omega),show(i+1).toNat=i.toNat+1 from by omega];exact⟨⟨by omega,by omega,k1⟩,by omega⟩
 . have hi:=qB hi;rw[show i.toNat=ls.length from by omega]at h2;exact h2
def mU {ls:List Ln} {fo used:List Int} {u v:Int} {p:List (Int×Int)} (h:free ls fo used u v p):p.length<=(fo.filter fun i=>decide (i∉used)).length:=by
 have:=Rr h.2.2 (b:=fo.filter fun i=>decide (i∉used)) fun x hx=>by
  obtain⟨e,he,rfl⟩:=rZ.1 hx;rw[vR];exact⟨(h.2.1 e he).1,rD (h.2.1 e he).2⟩
 rwa[sD]at this
def mL {u used:List Int} {i:Int} (hi:i∈u) (hu:i∉used):(u.filter fun j=>decide (j∉used++ [i])).length<(u.filter fun j=>decide (j∉used)).length:=by
 rw[<-wW, <-wW]
 induction u with
 |nil=>cases hi
 |cons a u ih=>
  rw[g4t,g4t];have a1:List.countP (fun j=>decide (j∉used++ [i])) u<=List.countP (fun j=>decide (j∉used)) u:=g2w fun x _ hx=>by
   have hx:=qA hx;exact rD fun h=>hx (qU.2 (.inl h))
  by_cases ha:a=i
  . subst ha;rw[qO (by simp),qY (by simpa using hu)];omega
  . have a0:i∈u:=by
     rcases qR.1 hi with h|h
     . exact absurd h.symm ha
     . exact h
    have:=ih a0;have e:decide (a∉used++ [i])=decide (a∉used):=by
     rw[uZ];simp[ha]
    rw[e];omega
def aJ (n:Nat) (x:A2 Jk.args) (hw:awf Jk.args x) (hp:(Gi (n+1)).pre x):Pt n x:=by
 obtain⟨ls,fo,u,v,used,_⟩:=x;have ak:fo.length<=9223372036854775807:=hw.2.1.1;change List (Int×Int)at ls;change List Int at fo used;change Int at u v;obtain⟨⟨ad,hr,aj⟩,hm⟩:(fo.Nodup/\(∀i∈fo,0<=i/\i<(ls.length:Int))/\used.length+(fo.filter fun i=>decide (i∉used)).length<=1000)/\(fo.filter fun i=>decide (i∉used)).length<n+1:=hp;simp only[Pt];refine⟨fun h=>⟨fun _=>⟨[],⟨(show u=v from qA h),by simp,by simp⟩,rfl⟩,fun h=>(by cases h)⟩,fun h=> ?_⟩;have ah:u≠v:=qB h;refine⟨fun p=>0<=p.1/\p.1<=(fo.length:Int)/\∀i∈fo.take p.1.toNat,∀s,∀p,¬free ls fo used u v ((i,s)::p),fun p=>((fo.length:Int)-p.1).toNat,⟨qG _,qD _,by simp⟩, ?_⟩;rintro⟨j,_⟩ _ ⟨h0,h1,h2⟩;change Int at j;simp only at h0 h1 h2⊢;refine⟨fun hj=>⟨⟨h0,qA hj⟩, ?_⟩,fun hj=>⟨fun h=>(by cases h),fun _ p hp=> ?_⟩⟩
 . have hj:=qA hj;have hi:gx 0 fo j∈fo:=H1 h0 hj;have ag:fo.take (j+1).toNat=fo.take j.toNat++ [gx 0 fo j]:=by
    rw[show(j+1).toNat=j.toNat+1 from by omega,rS,G9 (d:=(0:Int)) h0 hj];rfl
   generalize gx 0 fo j=i at*;obtain⟨i0,i1⟩:=hr i hi;refine⟨fun p=>0<=p.2.1/\p.2.1<=(used.length:Int)/\p.1=decide (i∈used.take p.2.1.toNat),fun p=>((used.length:Int)-p.2.1).toNat,⟨qG _,qD _,by simp⟩, ?_⟩;rintro⟨old,k,_⟩ _ ⟨k0,k1,k2⟩;change Int at k;change Bool at old;simp only at k0 k1 k2⊢;refine⟨fun hk=> ?_,fun hk=> ?_⟩
   . have hk:=qA hk;rw[wv (by omega)];refine⟨⟨k0,hk⟩,⟨by omega,by omega, ?_⟩,by omega⟩;rw[J5,k2,show(k+1).toNat=k.toNat+1 from by omega,rS,G9 (d:=(0:Int)) k0 hk];generalize gx 0 used k=y;by_cases hy:y=i
     . simp[hy]
     . simp[hy,Ne.symm hy]
   have hk:=qB hk;rw[D8 (by omega)]at k2;subst k2;refine⟨fun p=>0<=p.1/\p.1<=2/\(i∉used->(1<=p.1->∀p,¬free ls fo used u v ((i,1)::p))/\(2<=p.1->∀p,¬free ls fo used u v ((i, -1)::p))),fun p=>(2-p.1).toNat,⟨qG _,by show(0:Int)<=2;omega,fun _=>⟨fun h=>(by have h:(1:Int)<=0:=h;omega),fun h=>(by have h:(2:Int)<=0:=h;omega)⟩⟩, ?_⟩;rintro⟨d,_⟩ _ ⟨d0,d1,d2⟩;change Int at d;simp only at d0 d1 d2⊢;refine⟨fun hd=> ?_,fun hd=> ?_⟩
   . rw[I3]at hd;simp only[qC,rT,rR,rQ]at hd;obtain⟨hd,hu⟩:=hd;obtain⟨q1,q2⟩:=d2 hu;have ac:gx (0,0) ls i=Oq ls i:=E5 i0 i1;rw[ac];have aa:=mL hi hu;have hA:((0+used.length)*8<=140737488355328/\0+used.length<=9223372036854775807):=⟨by omega,by omega⟩;have hB:((used.length+ [i].length)*8<=140737488355328/\used.length+ [i].length<=9223372036854775807):=by simp only[qZ];exact⟨by omega,by omega⟩
     have hP:(fo.Nodup/\(∀i∈fo,0<=i/\i<(ls.length:Int))/\(used++ [i]).length+(fo.filter fun j=>decide (j∉used++ [i])).length<=1000)/\(fo.filter fun j=>decide (j∉used++ [i])).length<n:=⟨⟨ad,hr,by rw[rM,qZ];omega⟩,by omega⟩;have hJ:∀(w s:Int),(s=1/\Oq ls i=(u,w))\/(s= -1/\Oq ls i=(w,u))->∀(r:List D3) (ok:Bool),(ok=true->∃p,free ls fo (used++ [i]) w v p/\r=(p.map JA).reverse)->(ok=false->∀p,¬free ls fo (used++ [i]) w v p)->
      (ok=true->(r.length<=1000/\∃p,free ls fo used u v p/\r++ [(i,ri s)]=(p.map JA).reverse))/\(ok=false->∀p,¬free ls fo used u v ((i,s)::p)):=fun w s hs r ok h1 h2=>by
      refine⟨fun a4=> ?_,fun a4 p hp=> ?_⟩
      . obtain⟨p,hp,rfl⟩:=h1 a4;refine⟨?_,(i,s)::p,⟨⟨w,hs,hp.1⟩,fun e he=> ?_, ?_⟩, ?_⟩
        . rw[g3u,sD];have:=mU hp;omega
        . rcases qR.1 he with rfl|he
          . exact⟨hi,hu⟩
          . exact⟨(hp.2.1 e he).1,fun h=>(hp.2.1 e he).2 (qU.2 (.inl h))⟩
        . rw[rU,sC];refine⟨fun hm=> ?_,hp.2.2⟩;obtain⟨e,he,ab⟩:=rZ.1 hm;exact(hp.2.1 e he).2 (by rw[ab];simp)
        . rw[rU,List.reverse_cons];rfl
      . obtain⟨⟨w',af,ae⟩,a7,a5⟩:=hp;have ai:w'=w:=by
         rcases hs with⟨a1,a2⟩ | ⟨a1,a2⟩<;>rcases af with⟨b1,b2⟩ | ⟨b1,b2⟩
         . rw[a2]at b2;exact(g0q b2).2.symm
         . change s= -1 at b1;omega
         . change s=1 at b1;omega
         . rw[a2]at b2;exact(g0q b2).1.symm
        subst ai;rw[rU,sC]at a5;refine h2 a4 p ⟨ae,fun e he=>⟨(a7 e (by simp[he])).1,fun h=> ?_⟩,a5.2⟩;rcases qU.1 h with h|h
        . exact(a7 e (by simp[he])).2 h
        . rw[qP]at h;exact a5.1 (rZ.2 ⟨e,he,h⟩)
     have a6:d=0\/d=1:=by omega
     rcases a6 with rfl|rfl
     . have w1:i64.wrap (1-0)=1:=by rw[wv (by omega)];rfl
       have w2:i64.wrap (1-i64.wrap (2*0))=1:=by rw[wv (a:=2*0) (by omega),wv (by omega)];rfl
       have w3:i64.wrap (0+1)=1:=by rw[wv (by omega)];rfl
       have t0:decide ((0:Int)=0)=true:=rfl;have t1:decide ((1:Int)=0)=false:=rfl;rw[w1,w2,w3,t0,t1];refine⟨fun _=>∀p,¬free ls fo used u v ((i,1)::p),⟨⟨i0,i1⟩,⟨by decide,by decide⟩,fun a0=> ?_,fun a0=>⟨⟨i0,i1⟩,⟨by decide,by decide⟩, ?_⟩⟩, ?_⟩
       . intro p hp;have a0:=qA a0;obtain⟨⟨w,hs,_⟩,_⟩:=hp;rcases hs with⟨_,hs⟩ | ⟨hs,_⟩
         . exact a0 (by rw[hs])
         . change(1:Int)= -1 at hs;omega
       . have he:(Oq ls i).1=u:=by simpa using a0
         have hJ:=hJ (Oq ls i).2 1 (.inl ⟨rfl,by rw[<-he]⟩)
         repeat' first
          |exact hA
          |exact hB
          |exact hP
          | (rintro⟨r,ok,_⟩ _ ⟨h1,h2⟩
             obtain⟨j1,j2⟩:=hJ r ok h1 h2;refine⟨fun ht=>⟨trivial, ?_⟩,j2⟩;obtain⟨j3,p,j4,j5⟩:=j1 ht;rintro⟨q,_⟩ _ hq;simp only at hq j3 j5⊢;subst hq;exact⟨⟨by simp only[qZ];omega,by simp only[qZ];omega⟩,fun _=>⟨p,j4,j5⟩,fun h=>(by cases h)⟩)
          |refine⟨?_, ?_⟩
       . rintro _ _ a3;exact⟨⟨by decide,by decide,fun _=>⟨fun _=>a3,fun h=>(by have h:(2:Int)<=1:=h;omega)⟩⟩,by decide⟩
     . have w1:i64.wrap (1-1)=0:=by rw[wv (by omega)];rfl
       have w2:i64.wrap (1-i64.wrap (2*1))= -1:=by rw[wv (a:=2*1) (by omega),wv (by omega)];rfl
       have w3:i64.wrap (1+1)=2:=by rw[wv (by omega)];rfl
       have t0:decide ((0:Int)=0)=true:=rfl;have t1:decide ((1:Int)=0)=false:=rfl;rw[w1,w2,w3,t0,t1];refine⟨fun _=>∀p,¬free ls fo used u v ((i, -1)::p),⟨⟨i0,i1⟩,⟨by decide,by decide⟩,fun a0=> ?_,fun a0=>⟨⟨i0,i1⟩,⟨by decide,by decide⟩, ?_⟩⟩, ?_⟩
       . intro p hp;have a0:=qA a0;obtain⟨⟨w,hs,_⟩,_⟩:=hp;rcases hs with⟨hs,_⟩ | ⟨_,hs⟩
         . change(-1:Int)=1 at hs;omega
         . exact a0 (by rw[hs])
       . have he:(Oq ls i).2=u:=by simpa using a0
         have hJ:=hJ (Oq ls i).1 (-1) (.inr ⟨rfl,by rw[<-he]⟩)
         repeat' first
          |exact hA
          |exact hB
          |exact hP
          | (rintro⟨r,ok,_⟩ _ ⟨h1,h2⟩
             obtain⟨j1,j2⟩:=hJ r ok h1 h2;refine⟨fun ht=>⟨trivial, ?_⟩,j2⟩;obtain⟨j3,p,j4,j5⟩:=j1 ht;rintro⟨q,_⟩ _ hq;simp only at hq j3 j5⊢;subst hq;exact⟨⟨by simp only[qZ];omega,by simp only[qZ];omega⟩,fun _=>⟨p,j4,j5⟩,fun h=>(by cases h)⟩)
          |refine⟨?_, ?_⟩
       . rintro _ _ a3;exact⟨⟨by decide,by decide,fun hu=>⟨fun _=>q1 (by omega),fun _=>a3⟩⟩,by decide⟩
   . rw[I3]at hd;simp only[wL,rQ,zP,rT]at hd;rw[wv (by omega)];refine⟨⟨by omega,by omega, ?_⟩,by omega⟩;rw[ag];intro y hy s p hp;rcases qU.1 hy with hy|hy
     . exact h2 y hy s p hp
     . rw[qP]at hy;subst hy;have a8:y∉used:=(hp.2.1 (y,s) (by simp)).2;obtain⟨q1,q2⟩:=d2 a8;have a9:2<=d:=by
        rcases hd with hd|hd
        . omega
        . exact absurd hd a8
       obtain⟨w,hs,_⟩:=hp.1;rcases hs with⟨hs,_⟩ | ⟨hs,_⟩
       . change s=1 at hs;subst hs;exact q1 (by omega) p hp
       . change s= -1 at hs;subst hs;exact q2 a9 p hp
 . have hj:=qB hj;rw[D8 (by omega)]at h2;cases p with
   |nil=>exact ah hp.1
   |cons e p=>exact h2 e.1 (hp.2.1 e (by simp)).1 e.2 p hp
def aH (x:A2 Nl.args) (hw:awf Nl.args x) (hp:Nl.pre x):RK x:=by
 obtain⟨n,ls,line,_⟩:=x;change Int at n line;change List (Int×Int)at ls;obtain⟨u,hl⟩:V7 n ls/\ls.length<=9:=hp;simp only[RK,iB,G4,rT6,rT7];refine⟨fun hr=> ?_,fun hr=>⟨⟨u,by omega⟩, ?_⟩⟩
 . rw[J5]at hr;simp only[uO,rT]at hr;obtain⟨e1,e2⟩:=A7s (n:=n) hr;exact⟨e1.symm,e2.symm⟩
 rw[J5]at hr;simp only[rL,rQ]at hr;have l0:0<=line:=by omega
 have l1:line<(ls.length:Int):=by omega
 rintro⟨F,_⟩ _ hF;simp only at hF⊢;subst hF;have a9:(D5 n ls).length<=16384:=dF u (k:=ls.length) (rC _);refine⟨fun p=>0<=p.1/\p.1<=((D5 n ls).length:Int)/\line∉(D5 n ls).take p.1.toNat,fun p=>(((D5 n ls).length:Int)-p.1).toNat,⟨qG _,qD _,by simp⟩, ?_⟩;rintro⟨j,_⟩ _ ⟨h0,h1,h2⟩;change Int at j;simp only at h0 h1 h2⊢;refine⟨fun hj=> ?_,fun hj=> ?_⟩
 . have hj:=qA hj;refine⟨⟨h0,hj⟩,fun he=> ?_,fun he=> ?_⟩
   . have he:=qA he;obtain⟨e1,e2⟩:=KF (n:=n) l0 l1 (he▸H1 (d:=(0:Int)) h0 hj);exact⟨e1.symm,e2.symm⟩
   . have he:=qB he;rw[wv (by omega)];refine⟨⟨by omega,by omega, ?_⟩,by omega⟩;rw[show(j+1).toNat=j.toNat+1 from by omega,rS,G9 (d:=(0:Int)) h0 hj];intro hm;rcases qU.1 hm with hm|hm
     . exact h2 hm
     . simp only[zU,qP]at hm;exact he hm.symm
 have hj:=qB hj;rw[D8 (by omega)]at h2;have a1:=u.2.2 _ (Lq l0 l1);have a5:=way u a1.2.2.1 a1.2.2.2 a1.1 a1.2.1 (Gh u.1 u.2.2 (Lq l0 l1)).symm;have a7:gx (0,0) ls line=Oq ls line:=E5 l0 l1;rw[a7];have a6:(D5 n ls).length<=9:=by
  have:=Rr (Uk n ls) (b:=(List.range ls.length).map Int.ofNat) fun x hx=>by
   have:=Fy hx;exact rZ.2 ⟨x.toNat,uV.2 (by omega),by show((x.toNat:Nat):Int)=x;omega⟩
  rw[sD,yK]at this;omega
 refine⟨⟨l0,l1⟩,⟨by decide,by decide⟩,⟨l0,l1⟩,⟨by decide,by decide⟩,⟨Uk n ls,fun i hi=>Fy hi, ?_⟩, ?_⟩
 . have:=g0d (fun i:Int=>decide (i∉([]:List Int))) (D5 n ls);omega
 rintro⟨v,ok,_⟩ _ ⟨hT,hF⟩;simp only at hT hF⊢;have a3:ok=true:=by
  cases ok with
  |true=>rfl
  |false=>
   obtain⟨p,hp⟩:=a5;exact absurd hp (hF rfl p)
 obtain⟨p,hp,hv⟩:=hT a3;obtain⟨g1,g2,g3⟩:=Qi u l0 l1 h2 hp;refine⟨trivial, ?_⟩;rintro⟨r,_⟩ _ hr;simp only at hr⊢;subst hr;have aa:=mU hp;have a8:=g0d (fun i:Int=>decide (i∉([]:List Int))) (D5 n ls);have ab:v.length<=9:=by rw[hv,g3u,sD];omega
 have a0:(v++ [(line,ri 1)]).Perm ((line,ri 1)::p.map JA):=by
  rw[hv];exact(List.perm_append_singleton _ _).trans (List.Perm.cons _ (List.reverse_perm _))
 have a4:∀e∈v++ [(line,ri 1)],e.2=ri 1\/e.2=ri (-1):=fun e he=>g3 e (a0.mem_iff.1 he)
 have a2:Ct (Ot n ls line):=by
  refine⟨WP n ls line,fun e he=> ?_⟩;rcases(WR u l0 l1 h2 e he).2 with h|h<;>rw[h,fD]<;>exact⟨by decide,Jy _⟩
 refine⟨⟨by simp only[qZ];omega,by simp only[qZ];omega⟩, .inr ⟨by rw[rM,qZ];omega,fun e he=> ?_⟩, ?_⟩
 . rcases a4 e he with h|h<;>rw[h,Jy]<;>exact Pe (D7 (OO (by decide)) (by decide))
 rintro⟨s,_⟩ _ hs;simp only at hs⊢;obtain⟨e1,e2⟩:=WQ (n:=n) l0 l1 h2;exact⟨by rw[e1];exact lN hs.1 a2 fun i=>by rw[hs.2,cS (a0.trans g1)],e2.symm⟩
def RX:An:= {loop:= [(3,⟨[1,4,5,11,12],[1],[(13,false,vI)],[(2,45,[.val .bool, .val (.sl (.int .u32)), .val (.sl (.int .u32))])],[]⟩)],plan:= [(5,[3,6],[10],true,(pZ9 0 3 (.q 3 (.p 5 (.q 6 (.or 4 (.or 7 (.or 8 (.e 9 (.e 10 .done)) (.e 9 (.e 8 (.e 10 .done)))) (.e 9 (.e 7 (.e 8 (.e 10 .done))))) (.e 9 (.e 4 (.e 7 (.e 8 (.e 10 .done))))))))))),(6,[0,4,5,7],[11],true,(.q 0 (pZ9 1 3 (.q 4 (.q 5 (.p 6 (.q 7 (.e 8 (.e 9 (.e 10 (.e 11 .done)))))))))))]}
def Yk:An:= {join:= [(18,⟨[7,9,11,12,13,15,16,69,70,71],[0,3,4,7],[],[],[(6, .row tQ 45)]⟩)],loop:= [(14,⟨[7,9,11,12,13,15,16,69,70],[0,3,4,7],[(71,false,vI)],[],[(6, .row tQ 45)]⟩),(9,⟨[7,9,11,12],[0,3],[(13,false,vI)],[(4,61,[.val (.sl (.int .i64)), .val (.int .i64)])],[(6, .row tQ 45)]⟩)],plan:= [(2,[2],[4],true,(.p 0 (.q 2 (.e 1 (.e 3 (.e 4 (.p 5 .done))))))),(11,[1,2],[],true,(.p 0 (.q 1 (.q 2 (.p 4 (.e 3 (.e 5 (pZ9 6 5 .done)))))))),(17,[2,5,7,8,10],[14],true,(.p 0 (.p 1 (.q 2 (.p 3 (.p 4 (.q 5 (.p 6 (.q 7 (.q 8 (.p 9 (.q 10 (.e 11 (.e 12 (.p 13 (.e 14 .done)))))))))))))))),(19,[0,3],[],true,(.q 0 (.p 1 (.q 3 (.p 4 (.e 2 (.e 5 (.e 6 (.p 7 (.p 8 .done))))))))))]}
def Wq:A2 Dr.args->Prop:=fun(x:B8k)=>let m:=(1:Int);let j:=(0:Int);let i:=(x.1.2.length:Int);True/\G4 fun r=>r.1=rc (0:Rat)->∃(I:pL->Prop),∃(μ: _->Nat),I (j,r.1.1.1,r.1.1.2,r.1.2,())/\∀(p:pL),let d:Prop:=(j<=p.1/\p.1<(x.2.1.length:Int));let c:=(gx dQ x.2.1 p.1);let b:=((p.2.1,p.2.2.1),p.2.2.2.1);let a:=(gx (j,j,dQ,(false,[]),[]) x.1.2 p.1);(Ty.int i64).wf p.1/\Ty.bool.wf p.2.1/\(Ty.int u32).sl.wf p.2.2.1/\(Ty.int u32).sl.wf p.2.2.2.1/\True->I p->(iB (decide (p.1<i)) ((j<=p.1/\p.1<i)/\d/\(True/\G4 fun r=>let l:Prop:=(D1 r.1/\D1 a.2.2.1);let k:=(rv r.1*rv a.2.2.1);r.1=ri (2:Int)->(l/\G4 fun o=>o.1=rc k->((D1 c/\D1 o.1)/\G4 fun r=>(rv o.1≠(0:Rat)->r.1=rc (rv c/rv o.1))->d/\(D1 r.1/\D1 a.2.2.2)/\G4 fun q=>q.1=rc (rv r.1-rv a.2.2.2)->(D1 c/\D1 q.1)/\G4 fun r=>r.1=rc (rv c*rv q.1)->(D1 b/\D1 r.1)/\G4 fun n=>let e:=(i64.wrap (p.1+m),n.1.1.1,n.1.1.2,n.1.2,());n.1=rc (rv b+rv r.1)->I e/\μ e<μ p)/\(D1 c/\D1 o.1)/\G4 fun r=>(rv o.1≠(0:Rat)->r.1=rc (rv c/rv o.1))->d/\(D1 r.1/\D1 a.2.2.2)/\G4 fun q=>q.1=rc (rv r.1-rv a.2.2.2)->(D1 c/\D1 q.1)/\G4 fun r=>r.1=rc (rv c*rv q.1)->(D1 b/\D1 r.1)/\G4 fun n=>let f:=(i64.wrap (p.1+m),n.1.1.1,n.1.1.2,n.1.2,());n.1=rc (rv b+rv r.1)->I f/\μ f<μ p)/\l/\G4 fun o=>o.1=rc k->(D1 c/\D1 o.1)/\G4 fun r=>(rv o.1≠(0:Rat)->r.1=rc (rv c/rv o.1))->d/\(D1 r.1/\D1 a.2.2.2)/\G4 fun q=>q.1=rc (rv r.1-rv a.2.2.2)->(D1 c/\D1 q.1)/\G4 fun r=>r.1=rc (rv c*rv q.1)->(D1 b/\D1 r.1)/\G4 fun n=>let g:=(i64.wrap (p.1+m),n.1.1.1,n.1.1.2,n.1.2,());n.1=rc (rv b+rv r.1)->I g/\μ g<μ p)/\True/\G4 fun r=>r.1=ri (2:Int)->(D1 r.1/\D1 a.2.2.1)/\G4 fun o=>o.1=rc (rv r.1*rv a.2.2.1)->(D1 c/\D1 o.1)/\G4 fun r=>(rv o.1≠(0:Rat)->r.1=rc (rv c/rv o.1))->d/\(D1 r.1/\D1 a.2.2.2)/\G4 fun q=>q.1=rc (rv r.1-rv a.2.2.2)->(D1 c/\D1 q.1)/\G4 fun r=>r.1=rc (rv c*rv q.1)->(D1 b/\D1 r.1)/\G4 fun n=>let h:=(i64.wrap (p.1+m),n.1.1.1,n.1.1.2,n.1.2,());n.1=rc (rv b+rv r.1)->I h/\μ h<μ p) (b=rc (enN x.1.2 (L8 x.2.1))/\qs K4 (enN x.1.2 (L8 x.2.1))))
abbrev C4v:=Int×List Int×Int×List QQ×Unit
def Kj:A2 J3.args->Prop:=fun(x:C1w)=>let h:=(549755813888:Nat);let c:=(0:Int);True/\∀(r:jX),let w:=r.1.2.length;let v:=(G1 r.1.1 (Jf r.1.2));let d:=(↑w:Int);(H8 r.1.1/\List.length r.1.2<=9223372036854775807/\∀(x:Int×Int×QQ×(Bool×List Int)×List Int),x∈r.1.2->H8 x.1/\H8 x.2.1/\Qb x.2.2.1/\Qb x.2.2.2)/\True->B6n r.1->True/\∀(D:Nn),let n:=(D.1.1.length:Int);(TZ D.1.1/\H8 D.1.2)/\True->D.1=(x.2.1,c)->F1 r.1/\rT7 fun F=>F.1=G1 r.1.1 (Jf r.1.2)->(List.length F.1<=7/\(∀(b:Int),b∈F.1->c<=b/\b<(F.1.length:Int)/\List.getD F.1 b.toNat c=b)/\c<=D.1.2/\D.1.2<=n)/\∀(C:pN) (o:Nn),let u:=(C.1.length:Int);MQ C.1/\True->((Ty.int i64).sl.pair (Ty.int i64)).wf o.1/\True->(C.1.length=List.length F.1/\V9 F.1 C.1/\∀(e:QQ),e∈C.1->∃(q:Rat),qs (64:Nat) q/\e=rc q)->o.1.1=D.1.1/\c<=o.1.2/\o.1.2<=n->(F1 r.1->R1 r.1/\Gj (128:Nat) C.1)/\∀(y:PC),let k:=(decide ((y.1.length:Int)≠d));MQ y.1/\H8 y.2.1/\True->(¬F1 r.1->y.1= []/\y.2.1=1)/\(F1 r.1->(u≠r.1.1->y.1= []/\y.2.1=4)/\(u=r.1.1->(¬V9 v C.1->y.1= []/\y.2.1=14)/\(V9 v C.1->y.2.1=c/\Gj K2 y.1/\∃(t:Nat->Rat),(∀(b:Nat),b<Int.toNat r.1.1->Qf r.1.2 (Qz r.1.2 t) b=L8 C.1 b)/\y.1=DB w (Qz r.1.2 t))))->True/\Tv fun K=>let j:=(L7 (!K.1) true (decide (y.2.1≠c)));K.1=true->(iB (L7 j true k) (false=true) (True/\∀(G:Nn),(TZ G.1.1/\H8 G.1.2)/\True->G.1=(x.2.2.1,c)->(((0:Nat)+List.length y.1)*(56:Nat)<=(140737488355328:Nat)/\(0:Nat)+List.length y.1<=9223372036854775807)/\∃(I:C4v->Prop),∃(μ: _->Nat),I (c,G.1.1,G.1.2,y.1,())/\∀(p:C4v),let s:=(p.2.1.length:Int);(Ty.int i64).wf p.1/\(Ty.int i64).sl.wf p.2.1/\(Ty.int i64).wf p.2.2.1/\MQ p.2.2.2.1/\True->I p->(iB (decide (p.1<d)) (List.length r.1.2<=100000/\∀(A:List (Int×Int)×Unit),(List.length A.1<=9223372036854775807/\∀(x:Int×Int),x∈A.1->H8 x.1/\H8 x.2)/\True->A.1=Jf r.1.2->(V7 r.1.1 A.1/\List.length A.1<=9)/\∀(B:bL),let g:=(B.1.length:Int);Qa B.1/\H8 B.2.1/\True->B.1=Zi r.1.1 A.1 p.1/\B.2.1=Zh r.1.1 A.1 p.1->(c<=p.2.2.1/\p.2.2.1<=s)/\∀(r:C9) (o:Nn),Qb r.1/\True->((Ty.int i64).sl.pair (Ty.int i64)).wf o.1/\True->Mf r.1->o.1.1=p.2.1/\c<=o.1.2/\o.1.2<=s->∃(I_1:Oi->Prop),∃(a0: _->Nat),I_1 (c,p.2.2.2.1,())/\∀(z:Oi),let f:=(i64.wrap (p.1+1),o.1.1,o.1.2,z.2.1,());let a:=(gx F5 B.1 z.1);let l:=(List.getD z.2.1 a.1.toNat dQ);let i:Prop:=(c<=a.1/\a.1<(z.2.1.length:Int));(Ty.int i64).wf z.1/\MQ z.2.1/\True->I_1 z->(iB (decide (z.1<g)) (∃(J:pN->Prop),((c<=z.1/\z.1<g)/\(iB (decide (B.2.1=c)) (i/\(D1 r.1/\D1 a.2)/\G4 fun H=>H.1=rc (rv r.1*rv a.2)->(D1 l/\D1 H.1)/\G4 fun r=>r.1=rc (rv l+rv H.1)->i/\J (List.set z.2.1 a.1.toNat r.1,())) (J (z.2.1,()))))/\rT8 fun p=>let m:=(i64.wrap (z.1+1),p);J p->I_1 m/\a0 m<a0 z) (I f/\μ f<μ p))) ((F1 r.1/\R1 r.1/\List.length y.1=List.length r.1.2/\Gj K3 y.1)/\G4 fun A=>A.1=rc (enN r.1.2 (L8 y.1))/\qs K4 (enN r.1.2 (L8 y.1))->(F1 r.1/\R1 r.1/\List.length p.2.2.2.1=List.length r.1.2/\Gj K3 p.2.2.2.1)/\G4 fun B=>B.1=rc (enN r.1.2 (L8 p.2.2.2.1))/\qs K4 (enN r.1.2 (L8 p.2.2.2.1))->((List.length A.1.1.2<=h/\List.length A.1.2<=h)/\List.length B.1.1.2<=h/\List.length B.1.2<=h)/\Bq fun r=>r.1=Yu (rv A.1) (rv B.1)->decide (r.1<=c)=true))))
def enT (E:List Qx) (f:Nat->Rat) (k:Nat):Rat:=f k*(f k/(2*CM E k)-aY E k)
def C0e {N:Od} (hs:R1 N) (h1:∀e∈N.2,Y7 e.2.2.1/\Y7 e.2.2.2) {f:Nat->Rat} {k:Nat} (hk:k<N.2.length) (u:qs K3 (f k)):qs (K3+(K3+(1+2)+2+1)) (enT N.2 f k):=by
 obtain⟨q1,q2⟩:=DL hs h1 hk;have q0:qs 1 (2:Rat):=OO (a:=2) (by decide);exact D7 (Jg u (Vi (ON u (Jg q0 q1)) q2)) (by decide)
def C2q {N:Od} (hs:R1 N) (h1:∀e∈N.2,Y7 e.2.2.1/\Y7 e.2.2.2) {f:Nat->Rat} (hf:∀k,k<N.2.length->qs K3 (f k)):∀j,j<=N.2.length->qs K4 (C4 j (enT N.2 f)):=by
 have key:∀j,j<=N.2.length->qs ((K3+(K3+(1+2)+2+1)+1)*j+1) (C4 j (enT N.2 f)):=by
  intro j
  induction j with
  |zero=>intro _;exact Ab (by omega)
  |succ j ih=>
   intro u;rw[C4];refine D7 (Vh (ih (by omega)) (C0e hs h1 (by omega) (hf j (by omega)))) ?_;rw[Nat.mul_succ];omega
 intro j u;refine D7 (key j u) ?_;have h9:=hs.2.1;have:j<=9:=by omega
 have:=sU (K3+(K3+(1+2)+2+1)+1) this;show(K3+(K3+(1+2)+2+1)+1)*j+1<=100000000000;have e:(K3+(K3+(1+2)+2+1)+1)*9=77309429391:=by decide
 omega
def A3z {n:Int} {E:List Qx} {i:Nat} (u:F1 (n,E)) (hi:i<E.length):0<CM E i:=(u.2.2.2 _ (B9 (d:=dB) hi)).2.2.2.2.2
def B7p {F:List B7} (hl:∀y∈F,Y7 y) {s:Nat} (hs:Gj s F) (h1:1<=s) {k:Nat} (u:k<F.length):qs s (L8 F k):=Bg (hl _ (B9 u)) (hs _ (B9 u)) h1
def IM (x:A2 Dr.args) (hw:awf Dr.args x) (hp:Dr.pre x):Wq x:=by
 obtain⟨⟨n,E⟩,F,_⟩:=x;have a7:∀e∈E,Y7 e.2.2.1/\Y7 e.2.2.2:=fun e he=>⟨M6 (hw.1.2.2 e he).2.2.1,M6 (hw.1.2.2 e he).2.2.2⟩
 have aa:∀y∈F,Y7 y:=fun y hy=>M6 (hw.2.1.2 y hy)
 change Int at n;change List Qx at E;change List B7 at F;obtain⟨hv,u,ac,a2⟩:F1 (n,E)/\R1 (n,E)/\F.length=E.length/\Gj K3 F:=hp;have ad:E.length<=9:=u.2.1;have hq:∀k,k<E.length->qs K3 (L8 F k):=fun k hk=>B7p aa a2 (by decide) (by omega)
 have a1:=C2q u a7 hq;simp only at a1;simp only[Wq,iB,G4,and_self];refine⟨trivial, ?_⟩;rintro⟨z,_⟩ _ hz;change B7 at z;simp only at hz⊢;refine⟨fun p=>0<=p.1/\p.1<=(E.length:Int)/\((p.2.1,p.2.2.1),p.2.2.2.1)=rc (C4 p.1.toNat (enT E (L8 F))),fun p=>((E.length:Int)-p.1).toNat,⟨qG _,qD _,hz⟩, ?_⟩;rintro⟨i,b,mm,d,_⟩ _ ⟨h0,h1,h2⟩;change Int at i;simp only at h0 h1 h2⊢;refine⟨fun h=> ?_,fun h=> ?_⟩
 . have h:=qA h;have hi:i.toNat<E.length:=by omega
   have eE:gx (0,0,dQ,(false,[]),[]) E i=E.getD i.toNat dB:=E5 h0 h;have eF:gx dQ F i=F.getD i.toNat zr:=E5 h0 (by omega);have a8:E.getD i.toNat dB∈E:=B9 hi;have a9:F.getD i.toNat zr∈F:=B9 (by omega);obtain⟨q1,q2⟩:=DL (N:=(n,E)) u a7 hi;have qf:=hq _ hi;have hs:=A3z hv hi;rw[eE,eF];refine⟨⟨h0,h⟩,⟨h0,by omega⟩,trivial, ?_⟩;rintro⟨two,_⟩ _ a3;change B7 at two;simp only at a3⊢;subst a3;have q0:qs 1 (2:Rat):=OO (a:=2) (by decide);have q3:qs 3 (2*CM E i.toNat):=D7 (Jg q0 q1) (by decide);have ab:(2:Rat)*CM E i.toNat≠0:=fun e=>by
    rcases zN.1 e with e|e
    . exact absurd e (by decide)
    . rw[e]at hs;exact absurd hs g0n
   refine⟨⟨H7 (oR (by decide)).1 (by decide),H7 (u.2.2 _ a8).1 (by decide)⟩, ?_⟩;rintro⟨t,_⟩ _ ht;change B7 at t;simp only at ht⊢;rw[fD,show((2:Int):Rat)=2 from rfl]at ht;subst ht;refine⟨⟨H7 (a2 _ a9) (by decide),N0 q3 (by decide)⟩, ?_⟩;rintro⟨h3,_⟩ _ a0;change B7 at h3;simp only[F9]at a0⊢;have a0:=a0 ab;subst a0;have q4:qs (K3+3) (L8 F i.toNat/(2*CM E i.toNat)):=D7 (ON qf q3) (by decide);refine⟨⟨h0,by omega⟩,⟨N0 q4 (by decide),H7 (u.2.2 _ a8).2 (by decide)⟩, ?_⟩;rintro⟨h4,_⟩ _ a4;change B7 at h4;simp only[F9]at a4⊢;subst a4;have q5:qs (K3+3+2+1) (L8 F i.toNat/(2*CM E i.toNat)-aY E i.toNat):=D7 (Vi q4 q2) (by decide);refine⟨⟨H7 (a2 _ a9) (by decide),N0 q5 (by decide)⟩, ?_⟩;rintro⟨h5,_⟩ _ a5;change B7 at h5;simp only[F9]at a5⊢;subst a5;rw[h2,F9];refine⟨⟨N0 (a1 _ (by omega)) (by decide),N0 (Jg qf q5) (by decide)⟩, ?_⟩;rintro⟨h6,_⟩ _ a6;change B7 at h6;simp only[F9]at a6⊢;rw[wv (by omega)];refine⟨⟨by omega,by omega, ?_⟩,by omega⟩;show h6= _;rw[a6,show(i+1).toNat=i.toNat+1 from by omega,C4];rfl
 . have h:=qB h;have hi:i.toNat=E.length:=by omega
   rw[h2,hi];exact⟨rfl,a1 _ (rC _)⟩
def A7u {g:D3->Rat} {l:List D3} {e:D3} :Gu g (l++ [e])=Gu g l+g e:=by
 rw[nX,Gu,Gu,rO]
section
variable {E:List Qx} {k:Nat} {h:B7} {n:Int}
end
def iU {n i:Nat} (f:Nat->Rat) (hi:i<n):(DB n f).getD i zr=rc (f i):=by
 unfold DB;rw[qF,vC,zB hi];rfl
def B7a {n k:Nat} (f g:Nat->Rat) (h:∀i,i<n->i≠k->f i=g i) (hk:k<n):(DB n f).set k (rc (g k))=DB n g:=by
 refine g0h (by rw[qJ,Fu,Fu]) fun i h1 h2=> ?_
 have hi:i<n:=by rw[Fu]at h2;exact h2
 rw[g1v];by_cases u:k=i
 . subst u;rw[qY rfl];have:=iU g hi;rw[qF,qM h2]at this;exact this.symm
 . rw[qO u];have e1:=iU f hi;have e2:=iU g hi;rw[qF,qM (by rw[Fu];exact hi)]at e1 e2;exact e1.trans ((tN rc (h i hi (Ne.symm u))).trans e2.symm)
def UY {l:List D3} {e:D3} (k:Nat):Co (l++ [e]) k=Co l k+(if e.1=(k:Int)then 1 else 0)*rv e.2:=by
 unfold Co;rw[A7u]
def NG (k:Nat):Co [] k=0:=rfl
def Tk (x:A2 J3.args) (hw:awf J3.args x) (hp:J3.pre x):Kj x:=by
 obtain⟨d1,d2,d3,_⟩:=x;simp only[Kj,iB,Bq,G4,Tv,rT7,rT8];refine⟨by trivial, ?_⟩;rintro⟨⟨n,E⟩,_⟩ bf hg;have bz:∀e∈E,Y7 e.2.2.1/\Y7 e.2.2.2:=fun e he=>⟨M6 (bf.1.2.2 e he).2.2.1,M6 (bf.1.2.2 e he).2.2.2⟩
 change Int at n;change List Qx at E;have hg:B6n (n,E):=hg;have ak:=A7c hg;obtain⟨hv,n1,n6,ac, -⟩:=id hg;simp only at n1 n6 ac hv⊢;refine⟨by trivial, ?_⟩;rintro⟨⟨tl,ti⟩,_⟩ _ ht;simp only at ht⊢;have c0:tl=d2:=tN Prod.fst ht;have b8:ti=0:=tN Prod.snd ht;refine⟨hv, ?_⟩;rintro⟨s,_⟩ _ hs;change List Int at s;simp only at hs⊢;obtain⟨b7,a9⟩:=Jb hv;rw[<-hs]at b7 a9;simp only at b7 a9;have bt:∀b∈s,0<=b/\b<(s.length:Int)/\s.getD b.toNat 0=b:=fun b hb=>by
  obtain⟨i,hi,rfl⟩:=P3 (0:Int) hb;obtain⟨h1,h2,h3⟩:=a9 i (by omega);obtain⟨h4, -, -⟩:=a9 (Y6 (n,E) i) (by omega);rw[h1,qK,h4,h3];exact⟨by omega,by omega,rfl⟩
 refine⟨⟨by omega,bt,by rw[b8];exact qG _,by rw[b8];exact qD _⟩, ?_⟩;rintro⟨X,_⟩ ⟨o,_⟩ _ _ ⟨bi,aq,ar⟩ _;change List B7 at X;simp only at bi aq ar⊢;have bj:Gj 128 X:=fun e he=>by
  obtain⟨q,h1,rfl⟩:=ar e he;exact Pe (D7 h1 (by decide))
 refine⟨fun _=>⟨ak,bj⟩, ?_⟩;rintro⟨F,bg,_⟩ _ ⟨-,am⟩;change Int at bg;obtain⟨-,ao⟩:=am hv;obtain⟨-,ap⟩:=ao (by omega);obtain⟨av,ae,t,bu,a3⟩:=ap (hs▸aq);simp only at av ae a3 bu⊢;clear am ao ap;have ad:F.length=E.length:=by rw[a3,Fu]
 have bh:∀k,k<E.length->qs K2 (Qz E t k):=fun k hk=>by
  have:=ae _ (B9 (d:=zr) (by omega:k<F.length));rw[a3,Zj hk]at this;exact this
 refine⟨by trivial, ?_⟩;rintro⟨aw,_⟩ _ au;change Bool at aw;simp only at au⊢;subst au;subst av;rw[show decide ((F.length:Int)≠(E.length:Int))=false from rI (by omega)];refine⟨fun h=>(by cases h),fun _=>⟨by trivial, ?_⟩⟩;rintro⟨⟨ul,ui⟩,_⟩ _ hu;simp only at hu⊢;have ba:ui=0:=tN Prod.snd hu;refine⟨⟨by omega,by omega⟩, ?_⟩;refine⟨fun p=>0<=p.1/\p.1<=(E.length:Int)/\0<=p.2.2.1/\p.2.2.1<=(p.2.1.length:Int)/\∃f:Nat->Rat,p.2.2.2.1=DB E.length f/\(∀k,k<E.length->qs (K2+27*p.1.toNat) (f k))/\∀b,b<n.toNat->Qf E f b=Qf E (Qz E t) b,fun p=>((E.length:Int)-p.1).toNat,⟨qG _,qD _,by rw[ba];exact qG _,by rw[ba];exact qD _,Qz E t,a3,bh,fun _ _=>rfl⟩, ?_⟩;rintro⟨i,ul,ui,g,_⟩ _ ⟨i0,i1,u0,u1,f,a4,ag,a6⟩;change Int at i;change Int at ui;change List B7 at g;simp only at i0 i1 u0 u1 a4 ag a6⊢;refine⟨fun hi=> ?_,fun hi=> ?_⟩
 . have hi:=qA hi;refine⟨by omega, ?_⟩;rintro⟨Q,_⟩ _ hQ;simp only at hQ⊢;subst hQ;have ah:i<((Jf E).length:Int):=by rw[Vg];exact hi
   refine⟨⟨Uw hv,by rw[Vg];exact ac⟩, ?_⟩;rintro⟨lp,le,_⟩ _ ⟨a0,a7⟩;change List D3 at lp;change Int at le;simp only at a0 a7⊢;refine⟨⟨u0,u1⟩, ?_⟩;rintro⟨c,_⟩ ⟨⟨vl,vi⟩,_⟩ _ _ ⟨q,af,hc⟩ ⟨bb,bc,bd⟩;change B7 at c;change Int at vi;simp only at hc bb bc bd⊢;have ai:(lp= []\/le=0)/\(∀e∈lp,(0<=e.1/\e.1<(E.length:Int))/\(e.2=ri 1\/e.2=ri (-1)))/\lp.length<=9/\∀b,Qf E (Co lp) b=0:=by
    by_cases a8:i∈D5 n (Jf E)
    . obtain⟨e1, -⟩:=KF (n:=n) (ls:=Jf E) i0 ah a8;rw[e1]at a0;subst a0;refine⟨.inl rfl,fun e he=>(by cases he),by simp,fun b=> ?_⟩;unfold Qf FG;exact T4 fun k _=>by rw[NG,tZ]
    . obtain⟨e1,e2⟩:=WQ (n:=n) (ls:=Jf E) i0 ah a8;rw[e1]at a0;rw[e2]at a7;have a5:=WR (Uw hv) i0 ah a8;rw[<-a0]at a5;simp only[Vg]at a5;have hd:=B2u hv i0 hi a8;simp only at hd;rw[<-a0]at hd;exact⟨.inr a7,a5,by rw[a0];exact rA (B2v i) (by rw[Vg];exact ac),hd⟩
   obtain⟨bn,bp,bx,b1⟩:=ai;have bw:i.toNat<=9:=by omega
   refine⟨fun p=>0<=p.1/\p.1<=(lp.length:Int)/\p.2.1=DB E.length (fun k=>f k+q*Co (lp.take p.1.toNat) k)/\∀k,k<E.length->qs (K2+27*i.toNat+3*p.1.toNat) (f k+q*Co (lp.take p.1.toNat) k),fun p=>((lp.length:Int)-p.1).toNat,⟨qG _,qD _, ?_,fun k hk=> ?_⟩, ?_⟩
   . show g=DB E.length fun k=>f k+q*Co [] k
     rw[a4,show(fun k=>f k+q*Co [] k)=f from funext fun k=>by rw[NG,tZ,rO]]
   . rw[show((0:Int).toNat)=0 from rfl,g0b,NG,tZ,rO];exact ag k hk
   rintro⟨j,g',_⟩ _ ⟨j0,j1,a1,a2⟩;change Int at j;change List B7 at g';simp only at j0 j1 a1 a2⊢;have bv:g'.length=E.length:=by rw[a1,Fu]
   refine⟨fun hj=> ?_,fun hj=> ?_⟩
   . have hj:=qA hj;have b2:le=0:=by
      rcases bn with h|h
      . rw[h]at hj;simp only[wX]at hj;omega
      . exact h
     have bq:gx F5 lp j∈lp:=H1 j0 hj;have b9:lp.take (j+1).toNat=lp.take j.toNat++ [gx F5 lp j]:=by
      rw[show(j+1).toNat=j.toNat+1 from by omega,rS,G9 (d:=F5) j0 hj];rfl
     obtain⟨⟨e0,e1⟩,b4⟩:=bp _ bq;generalize gx F5 lp j=e at*;have hk:e.1.toNat<E.length:=by omega
     have ax:∀k:Nat,(e.1=(k:Int))↔k=e.1.toNat:=fun k=>by omega
     have be:qs 1 (rv e.2):=by rcases b4 with h|h<;>rw[h,fD]<;>exact OO (by decide)
     have bk:D1 e.2:=by
      rcases b4 with h|h<;>rw[h]<;>exact H7 (oR (by decide)).1 (by decide)
     have b3:g'.getD e.1.toNat dQ=rc (f e.1.toNat+q*Co (lp.take j.toNat) e.1.toNat):=by rw[a1];exact Zj hk
     have ab:f e.1.toNat+q*Co (lp.take (j+1).toNat) e.1.toNat=f e.1.toNat+q*Co (lp.take j.toNat) e.1.toNat+q*rv e.2:=by
      rw[b9,UY,qY ((ax _).2 rfl)];grind
     have aa:∀k,k≠e.1.toNat->f k+q*Co (lp.take (j+1).toNat) k=f k+q*Co (lp.take j.toNat) k:=fun k aj=>by
      rw[b9,UY,qO (fun h=>aj ((ax k).1 h))];grind
     have bs:∀k,k<E.length->qs (K2+27*i.toNat+3*(j+1).toNat) (f k+q*Co (lp.take (j+1).toNat) k):=fun k hkk=>by
      by_cases az:k=e.1.toNat
      . subst az;rw[ab];refine D7 (Vh (a2 _ hk) (Jg af be)) ?_;omega
      . rw[aa k az];exact D7 (a2 k hkk) (by omega)
     refine⟨fun p=>p.1=DB E.length (fun k=>f k+q*Co (lp.take (j+1).toNat) k),⟨⟨j0,hj⟩,fun _=> ?_,fun h=>absurd b2 (qB h)⟩, ?_⟩
     . rw[hc];refine⟨⟨e0,by omega⟩,⟨N0 af (by decide),bk⟩, ?_⟩;rintro⟨u,_⟩ _ hu;change B7 at u;simp only[F9]at hu⊢;subst hu;rw[b3,F9];refine⟨⟨N0 (D7 (a2 _ hk) (show K2+27*i.toNat+3*j.toNat<=K3 by show 4294967296+27*i.toNat+3*j.toNat<=4294968296;omega)) (by decide),N0 (Jg af be) (by decide)⟩, ?_⟩;rintro⟨u,_⟩ _ hu;change B7 at u;simp only[F9]at hu⊢;subst hu;refine⟨⟨e0,by omega⟩, ?_⟩;rw[<-ab,a1];exact B7a _ (fun k=>f k+q*Co (lp.take (j+1).toNat) k) (fun k _ aj=>(aa k aj).symm) hk
     . rintro⟨g2,_⟩ _ ay;change List B7 at g2;simp only at ay⊢;rw[wv (by omega)];exact⟨⟨by omega,by omega,ay,bs⟩,by omega⟩
   . have hj:=qB hj;rw[D8 (by omega)]at a1 a2;rw[wv (by omega)];refine⟨⟨by omega,by omega,bc,by rw[bb];exact bd,fun k=>f k+q*Co lp k,a1,fun k hk=>D7 (a2 k hk) (by omega),fun b hb=> ?_⟩,by omega⟩;have:=A4f (m:=E.length) (fr:=Eu E) (to:=Ew E) f (Co lp) q b;unfold Qf at a6 b1⊢;rw[this,b1,a6 b hb,tZ,rO]
 . have hi:=qB hi;have bm:Gj K3 g:=fun e he=>by
    rw[a4]at he;obtain⟨k,hk,rfl⟩:=iV he;exact Pe (D7 (ag k hk) (show K2+27*i.toNat<=K3 by show 4294967296+27*i.toNat<=4294968296;omega))
   refine⟨⟨hv,ak,ad,fun e he=>G6 (ae e he) (by decide)⟩, ?_⟩;rintro⟨a,_⟩ _ ⟨ha,b5⟩;change B7 at a;simp only at ha b5⊢;refine⟨⟨hv,ak,by rw[a4,Fu],bm⟩, ?_⟩;rintro⟨b,_⟩ _ ⟨hb,b6⟩;change B7 at b;simp only at hb b6⊢;rw[ha,hb];refine⟨⟨Pe (D7 b5 (by decide)),Pe (D7 b6 (by decide))⟩, ?_⟩;rintro⟨r,_⟩ _ hr;change Int at r;simp only[F9]at hr⊢;have e1:enN E (L8 F)=enN E (Qz E t):=B8 fun k hk=>by rw[a3,iW hk]
   have e2:enN E (L8 g)=enN E f:=B8 fun k hk=>by rw[a4,iW hk]
   have a7:enN E (Qz E t)<=enN E f:=iS (n:=n.toNat) (fun k hk=>by
    obtain⟨a,b,c,d, -, -⟩:=hv.2.2.2 _ (B9 (d:=dB) hk);unfold Eu Ew;simp only at a b c d;omega) (fun k hk=>A3z hv hk) a6
   rw[e1,e2]at hr;refine rD ?_;rw[hr];unfold Yu
   repeat' split
   all_goals first|decide| (exfalso;grind)
def B8b (p q:Rat):(p-q).num.sign=Yu p q:=by
 unfold Yu;have e:(p-q).num=0↔p-q=0:=zO;have f:0<=(p-q).num↔0<=p-q:=Rat.num_nonneg;by_cases h:p<q
 . rw[qY h];refine vZ ?_;have:¬0<=p-q:=by grind
   rw[<-f]at this;omega
 . rw[qO h];by_cases u:q<p
   . rw[qY u];refine uA ?_;have a:0<=p-q:=by grind
     have b:p-q≠0:=by grind
     rw[<-f]at a;have:=mt e.1 b;omega
   . rw[qO u];have:p-q=0:=by grind
     rw[e.2 this];rfl
def MB (x:A2 Fm.args) (hw:awf Fm.args x) (hp:Fm.pre x):BR x:=by
 obtain⟨p,q,_⟩:=x;have l1:Y7 p:=M6 hw.1;have l2:Y7 q:=M6 hw.2.1;change B7 at p q;obtain⟨h1,u⟩:sz K1 p/\sz K1 q:=hp;simp only[BR,Bq,G4];refine⟨⟨H7 h1 (by decide),H7 u (by decide)⟩, ?_⟩;rintro⟨r,_⟩ _ hr;change B7 at r;simp only at hr⊢;subst hr;refine⟨N0 (Vi (Bg l1 h1 (by decide)) (Bg l2 u (by decide))) (by decide), ?_⟩;rintro⟨s,_⟩ _ hs;simp only[F9]at hs⊢;rw[hs];exact B8b _ _
end Go.Proofs.YthclcjfodjhmlaaGreat
namespace Go.Vc
open Go Go.RowKit Go.Gw Go.Shelf
open Go.IntKind (i64 u32)
structure El (t:Ty) (w:World) (Z:Nat->Prop) where
 c:List Value
 v:t.den
 h:C7 t w Z c v
def mD {t:Ty} {w:World} {Z:Nat->Prop} :∀ {l:List t.den} {xs:List Value},G5 (C7 t w Z) xs l->∃L:List (El t w Z),L.flatMap El.c=xs/\L.map El.v=l
 | [],_,h=>⟨[],h.symm,rfl⟩
 |x::l,_,⟨c1,c2,e,h1,u⟩=>by
  obtain⟨L,i1,i2⟩:=mD u;exact⟨⟨c1,x,h1⟩::L,by rw[yI,i1,e],by rw[rU,i2]⟩
def mE {t:Ty} {w w':World} {Z Z':Nat->Prop} (u:∀c x,C7 t w Z c x->C7 t w' Z' c x):∀L:List (El t w Z),G5 (C7 t w' Z') (L.flatMap El.c) (L.map El.v)
 | []=>rfl
 |p::L=>⟨p.c,L.flatMap El.c,rfl,u _ _ p.h,mE u L⟩
def mP {α:Type} {enc:α->List Value} {k:Nat} (u:∀x,(enc x).length=k):∀(L:List α) (i r:Nat) {x:α},L[i]? =some x->r<k->(L.flatMap enc)[i*k+r]? =(enc x)[r]?
 | [],_,_,_,h,_=>by cases h
 |y::L,0,r,x,h,hr=>by
  simp only[g1u,rE]at h;subst h;rw[yI,yA,sP,vJ (by rw[u];exact hr)]
 |y::L,i+1,r,x,h,hr=>by
  rw[uJ]at h;have e:(i+1)*k+r-k=i*k+r:=by rw[uR];omega
  rw[yI,uU (by rw[u,uR];omega),u,e];exact mP u L i r h hr
def mQ {α:Type} {enc:α->List Value} {k:Nat} (u:∀x,(enc x).length=k):∀L:List α,(L.flatMap enc).length=L.length*k
 | []=>by simp
 |x::L=>by rw[yI,rM,mQ u L,u,rH,uR];omega
def mO {α:Type} [Inhabited α] {enc:α->List Value} {k:Nat} (hk:∀x,(enc x).length=k) (d:Array α) {j:Nat} (hj:j<d.size*k):(d.toList.flatMap enc)[j]? =some (Go.Sort.flatK enc k d)[j]!:=by
 have u:0<k:=by
  rcases vF k with h|h
  . rw[h,wQ]at hj;omega
  . exact h
 have hi:j/k<d.size:=(tP u).2 hj;have hr:j%k<k:=wE _ u;have e:j=j/k*k+j%k:=by rw[tI];exact(wY j k).symm
 rw[Go.Sort.get_flatK enc k d j hj];have hx:d.toList[j/k]? =some d[j/k]!:=by
  rw[wK,uM hi,g1a d _ hi]
 have:=mP hk d.toList (j/k) (j%k) hx hr;rw[<-e]at this;have hl:j%k<(enc d[j/k]!).length:=by rw[hk];exact hr
 rw[this,qM hl,g1a (enc d[j/k]!) (j%k) hl]
def A8j {F cur:Array Value} {n:Nat} {xs:List Value} (hx:xs.length=n) (hF:F.size=n) (hn:n<=cur.size) (h:∀j,j<n->xs[j]? =some F[j]!):(Go.Sort.putCells id 0 F cur).size=cur.size/\(Go.Sort.putCells id 0 F cur).toList.take n=xs:=by
 refine⟨by simp[Go.Sort.putCells], ?_⟩;apply wA;intro j;by_cases u:j<n
 . rw[rY u,h j u,wK];unfold Go.Sort.putCells;rw[Array.getElem?_mapIdx,uM (by omega)];simp only[vS];rw[qY ⟨rP _,by omega⟩];rfl
 . rw[rW (by simp;omega),rW (by omega)]
def B3z {α:Type} [Inhabited α] {d u:Array α} (h:Go.Sort.PermIn 0 d.size d u):u.toList.Perm d.toList:=by
 obtain⟨h1,_,h3⟩:=h;rw[g3a,g3a]at h3;simpa[List.extract_eq_take_drop,qX,h1]using h3
def A3c {α:Type} [Inhabited α] {lt:α->α->Bool} {u:Array α} {n:Nat} (hn:u.size=n) (h:Go.Sort.SortedIn lt 0 n u):u.toList.Pairwise fun a b=>lt b a=false:=by
 rw[uN];intro i j hi hj a1;have a0:i<u.size:=by simpa using hi
 have a2:j<u.size:=by simpa using hj
 have:=h i j (rP _) a1 (by omega);rw[g1a u i a0,g1a u j a2]at this;simpa using this
def B8h {w:World} {b m:Nat} {f:Array Value->Array Value} {os:Array Obj} :w.heap.size<=(Go.Sort.grow (Go.Sort.mapBlock (Go.Sort.ahead w m) b f) os).heap.size:=by
 simp[Go.Sort.grow,Go.Sort.mapBlock,Go.Sort.ahead]
def pH {w:World} {b m j:Nat} {f:Array Value->Array Value} {os:Array Obj} (hj:j<w.heap.size) (u:j≠b):(Go.Sort.grow (Go.Sort.mapBlock (Go.Sort.ahead w m) b f) os).heap[j]? =w.heap[j]?:=by
 rw[Go.Sort.heap_grow_old _ _ (by simpa[Go.Sort.mapBlock,Go.Sort.ahead]using hj)];unfold Go.Sort.mapBlock;simp only;rw[g2u,qO (Ne.symm u)];rfl
def B8g {w:World} {b m:Nat} {f:Array Value->Array Value} {os:Array Obj} {cur:Array Value} {e:TypeId} (hh:w.heap[b]? =some (.cells cur e (0,0))):(Go.Sort.grow (Go.Sort.mapBlock (Go.Sort.ahead w m) b f) os).heap[b]? =some (.cells (f cur) e (0,0)):=by
 have u:b<w.heap.size:=(sA.1 hh).1;rw[Go.Sort.heap_grow_old _ _ (by simpa[Go.Sort.mapBlock,Go.Sort.ahead]using u)];unfold Go.Sort.mapBlock;simp only;rw[g2u,qY rfl];have:(Go.Sort.ahead w m).heap[b]? =some (.cells cur e (0,0)):=hh;rw[this];rfl
def GW {P:Program} {f:FuncId} (u:Gz P f=true) (args:Array Value) (w:World):(callFunc f args).run P w= .ok (.enter f args) w:=by
 unfold Gz at u;split at u
 . rename_i fn a0;simp only[qC,rR]at u;have h2:¬fn.body=none:=by intro hb;rw[hb]at u;simp at u
   have h1:¬fn.name= "runtime.NumGoroutine" :=by simpa using u.1
   simp[callFunc,a0,h1,h2,go_sem]
 . cases u
def B8i {α β:Type} {φ:α->α->Int} (v:β->α) (h1:∀a,¬φ a a<0) (h2:∀a b c,φ a b<0->φ b c<0->φ a c<0) (h3:∀a b c,¬φ a b<0->¬φ b c<0->¬φ a c<0):
 Go.Sort.SWO (Go.Proofs.ltOf fun x y:β=>φ (v x) (v y)):=by
 refine⟨fun x=> ?_,fun x y z h u=> ?_,fun x y z h u=> ?_⟩
 . exact rI (h1 _)
 . exact rD (h2 _ _ _ (qA h) (qA u))
 . exact rI (h3 _ _ _ (qB h) (qB u))
def A8w {t:Ty} {φ:t.den->t.den->Int} {e:TypeId} {w w':World} {Z:Nat->Prop} {fv:Value} {g a0:Nat} {cur F:Array Value} {k:Nat} {x:List t.den} {L L':List (El t w Z)}
 (hZ:∀b,Z b->b<w.heap.size) (ab:¬Z g) (hk:t.size=k)
 (ac:w.heap[g]? =some (.cells cur e (0,0))) (a2:L.length<=a0) (a6:a0<=maxLen) (a5:cur.size=a0*k) (aa:L.map El.v=x)
 (hp:L'.Perm L) (hs:L'.Pairwise fun a b=>¬φ b.v a.v<0)
 (hF:F.size=L.length*k) (a9:∀j,j<L.length*k->(L'.flatMap El.c)[j]? =some F[j]!)
 (ad:w'.os=w.os) (a4:w'.tape=w.tape) (a7:w'.output=w.output) (ae:w.heap.size<=w'.heap.size)
 (a1:∀j,j<w.heap.size->j≠g->w'.heap[j]? =w.heap[j]?) (hg:w'.heap[g]? =some (.cells (Go.Sort.putCells id 0 F cur) e (0,0))):
 Ix (oA w (Cc t e φ).args [.slice (some ⟨g,0,none⟩) L.length a0,fv]) w w'/\∃(r:Br (Cc t e φ).res) (o:Og (Cc t e φ).args) (us:List Value) (Zn:Nat->Prop),(Cc t e φ).post (x,()) r/\(O9 (Cc t e φ).args=true->(Cc t e φ).mpost (x,()) r o)/\Value.tuple #[]=AS us/\(∀b,Zn b->(w.heap.size<=b/\b<w'.heap.size)\/((Cc t e φ).shared=true/\Z b))/\Om w.heap.size w' Zn (Cc t e φ).res us r/\Xd w w' Zn (Cc t e φ).args [.slice (some ⟨g,0,none⟩) L.length a0,fv] o:=by
 have u:L'.length=L.length:=hp.length_eq;have hc:∀p:El t w Z,p.c.length=k:=fun p=>by rw[<-hk];exact C7.length p.h
 have a8:(L'.flatMap El.c).length=L.length*k:=by rw[mQ hc,u]
 obtain⟨p1,p2⟩:=A8j a8 hF (by rw[a5];exact rN _ a2) a9;have a3:O6 Z w w':=fun b hb=>a1 b (hZ b hb) (fun e=>ab (e▸hb))
 refine⟨⟨ad,a4,a7,ae,fun j hj hm=>a1 j hj (fun ej=>hm ?_),trivial⟩,(),(L'.map El.v,()),[],Z,trivial,fun _=>⟨?_, ?_⟩,rfl,fun b hb=> .inr ⟨rfl,hb⟩,rfl, ?_⟩
 . subst ej;refine⟨(.row t e, .slice (some ⟨j,0,none⟩) L.length a0),rF, ?_⟩;rfl
 . rw[<-aa];exact hp.map _
 . exact wU.2 hs
 . refine⟨⟨L'.flatMap El.c,⟨?_, .inr ⟨g,a0,Go.Sort.putCells id 0 F cur, ?_,rP _,hg, ?_,a6, ?_, ?_⟩⟩, ?_⟩,trivial⟩
   . simp only[sD];rw[a8,u,hk]
   . simp only[sD,u]
   . simp only[sD,u];exact a2
   . rw[p1,a5,hk]
   . simp only[sD,u,hk];exact p2
   . refine mE (fun c y hy=> ?_) L';exact C7.mono (fun b hb=>hb) a3 hy
def A9u (P:Program) (g:FuncId) (t:Ty) (φ:t.den->t.den->Int):Prop:=
 ∀(w:World) (Z:Nat->Prop) (c1 u:List Value) (x y:t.den),C7 t w Z c1 x->C7 t w Z u y->Calls P g #[.agg c1.toArray, .agg u.toArray] w fun e w'=>e= .returned (.int .i64 (φ x y))/\∃q os,w'=Go.Sort.grow (w.drewN q) os
def pD {P:Program} {ρ:Ren} (LL:Go.Proofs.SlLaysF0.n6 P ρ) {t:Ty} {e:TypeId} {g:FuncId} {φ:t.den->t.den->Int} (aE:∀w,(isAgg (ρ.t 24)).run P w= .ok true w) (zE:∀w,(Go.sizeOf (ρ.t 24)).run P w= .ok t.size w)
 (h1:∀a,¬φ a a<0) (h2:∀a b c,φ a b<0->φ b c<0->φ a c<0) (h3:∀a b c,¬φ a b<0->¬φ b c<0->¬φ a c<0) (am:Gz P g=true) (aj:A9u P g t φ):A3v P (ρ.f 6) g t e φ:=by
 rintro w Z v l hZ ⟨xs,a8,ak,ah⟩ ag;obtain⟨L,rfl,rfl⟩:=mD ak;have hL:(L.map El.v).length=L.length:=sD ..;rw[hL]at a8 ag;obtain⟨ar,hv⟩:=a8;have a2:∀(p:Option Addr) (a1:Nat),L= []->Gw.cG P (ρ.f 6) [.slice p 0 a1, .func (.func g) #[] #[]] w fun u w'=>u= .tuple #[]/\w'=w:=fun p a1 _=>
  Calls.mono (Go.Proofs.AnyF.slices_SortFunc_none LL p a1 (.func (.func g) #[] #[]) w) fun _ _ ⟨he,hw⟩=>⟨_,he,rfl,hw⟩
 rcases hv with⟨rfl,hn⟩ | ⟨b,a1,cur,rfl,_,a0,a6,a7,ae,ab⟩
 . have a5:L= []:=qQ hn;subst a5;refine(a2 none 0 rfl).mono ?_;rintro _ _ ⟨rfl,rfl⟩;refine⟨Ix.of (S7.refl _),(),([],()),[],(fun _=>False),trivial,fun _=>⟨wS _,List.Pairwise.nil⟩,rfl,fun _ hb=>hb.elim,rfl,⟨⟨[],World.ownsRow_nil _ _ _ _,rfl⟩,trivial⟩⟩
 . have ac:¬Z b:=ah b rfl;have hc:∀p:El t w Z,p.c.length=t.size:=fun p=>C7.length p.h
   have ai:b<w.heap.size:=(sA.1 a0).1;rcases a5:L with _ | ⟨p0,L0⟩
   . subst a5;refine(a2 _ a1 rfl).mono ?_;rintro _ _ ⟨rfl,rfl⟩;refine⟨Ix.of (S7.refl _),(),([],()),[],(fun _=>False),trivial,fun _=>⟨wS _,List.Pairwise.nil⟩,rfl,fun _ hb=>hb.elim,rfl,⟨⟨[],⟨by simp, .inr ⟨b,a1,cur,rfl,rP _,a0,a6,a7,ae,by simp⟩⟩,rfl⟩,trivial⟩⟩
   . rw[<-a5];clear a2
     haveI:Inhabited (El t w Z):=⟨p0⟩
     have hH:Go.Sort.HoldsK El.c t.size w b 0 L.toArray:=by
      intro j hj;rw[Go.Sort.size_flatK]at hj;have ao:j<L.length*t.size:=by simpa using hj
      have h5:=mO hc L.toArray hj;rw[sP];refine⟨?_, ?_⟩
      . have h6:cur[j]? =some (Go.Sort.flatK El.c t.size L.toArray)[j]!:=by
         rw[<-h5];simp only;rw[<-ab,rY ao,wK]
        simp only[World.cell?,a0];exact h6
      . simp[World.frozen?,a0]
     have ad:Go.Proofs.CmpLays P g #[] El.c t.size (fun x y:El t w Z=>φ x.v y.v) b 0 L.toArray.size w:=by
      intro m os dk aq x y;have a4:O6 Z w (Go.Proofs.sortWorldK El.c t.size w b 0 m dk os):=by
       intro i hi;have:i≠b:=fun e=>ac (e▸hi)
       exact pH (hZ i hi) this
      exact aj _ Z x.c y.c x.v y.v (C7.mono (fun _ h=>h) a4 x.h) (C7.mono (fun _ h=>h) a4 y.h)
     have a9:=Go.Proofs.AnyQ.slices_SortFunc LL t.size aE zE El.c hc (fun x=>C7.oneCell x.h) (fun x y:El t w Z=>φ x.v y.v) (B8i El.v h1 h2 h3) g #[] b 0 a1 L.toArray w (GW am) ad hH ai (by simp;omega);refine Calls.mono a9 ?_;rintro _ w' ⟨rfl,d',n,os,a3,aa,rfl⟩;refine⟨_,rfl, ?_⟩;have hp:=B3z a3;have hs:=A3c a3.1 aa;have af:d'.size=L.length:=by rw[a3.1];simp
     refine A8w (k:=t.size) (F:=Go.Sort.flatK El.c t.size d') (L:=L) (L':=d'.toList) (cur:=cur) (x:=L.map El.v) hZ ac rfl a0 a6 a7 ae rfl hp ?_ ?_ ?_ rfl rfl rfl ?_ ?_ ?_
     . exact hs.imp fun h=>qB h
     . rw[Go.Sort.size_flatK,af]
     . intro j hj;exact mO hc d' (by rw[af];exact hj)
     . exact B8h
     . intro i hi ap;exact pH hi ap
     . exact B8g a0
end Go.Vc
namespace Go.Proofs
open Go.Proofs.Tryz
open Go.Shelf
open Go.IntKind (i64 u32)
def Tryz.sortEnt_ren:Go.Shelf.Ren:=⟨fun|6=>119|15=>144|14=>143|28=>169|29=>170|20=>161|21=>162|22=>163|23=>164|24=>165|25=>166|26=>167|27=>168|46=>177|47=>178|48=>179|49=>180|50=>181|57=>185|n=>n,fun|22=>36|24=>48|25=>140|3=>3|39=>127|0=>0|53=>80|55=>106|4=>4|46=>181|45=>180|50=>185|5=>5|9=>9|66=>192|70=>196|76=>200|77=>201|n=>n,fun|n=>n⟩
def Tryz.sortEnt:Go.Proofs.SlLaysF0.n6 prog sortEnt_ren:= {
 mixed:=by kernel_rfl
 f6:=⟨f119.name,by decide,func119.trans (tN some (by kernel_rfl))⟩
 f14:=⟨f143.name,by decide,func143.trans (tN some (by kernel_rfl))⟩
 f15:=func144.trans (tN some (by kernel_rfl))
 f20:=⟨f161.name,by decide,func161.trans (tN some (by kernel_rfl))⟩
 f21:=⟨f162.name,by decide,func162.trans (tN some (by kernel_rfl))⟩
 f22:=⟨f163.name,by decide,func163.trans (tN some (by kernel_rfl))⟩
 f23:=⟨f164.name,by decide,func164.trans (tN some (by kernel_rfl))⟩
 f24:=⟨f165.name,by decide,func165.trans (tN some (by kernel_rfl))⟩
 f25:=⟨f166.name,by decide,func166.trans (tN some (by kernel_rfl))⟩
 f26:=⟨f167.name,by decide,func167.trans (tN some (by kernel_rfl))⟩
 f27:=⟨f168.name,by decide,func168.trans (tN some (by kernel_rfl))⟩
 f28:=func169.trans (tN some (by kernel_rfl))
 f29:=func170.trans (tN some (by kernel_rfl))
 f46:=⟨f177.name,by decide,func177.trans (tN some (by kernel_rfl))⟩
 f47:=func178.trans (tN some (by kernel_rfl))
 f48:=func179.trans (tN some (by kernel_rfl))
 f49:=⟨f180.name,by decide,func180.trans (tN some (by kernel_rfl))⟩
 f50:=⟨f181.name,by decide,func181.trans (tN some (by kernel_rfl))⟩
 f57:=⟨f185.name,by decide,func185.trans (tN some (by kernel_rfl))⟩
 t0:=underlying0
 a0:=isAgg0
 z0:=sizeOf0
 v0:=zeroValue0
 t3:=underlying3
 a3:=isAgg3
 z3:=sizeOf3
 v3:=zeroValue3
 t4:=underlying4
 a4:=isAgg4
 z4:=sizeOf4
 v4:=zeroValue4
 t5:=underlying5
 a5:=isAgg5
 z5:=sizeOf5
 v5:=zeroValue5
 t9:=underlying9
 a9:=isAgg9
 z9:=sizeOf9
 v9:=zeroValue9
 t22:=underlying36
 a22:=isAgg36
 z22:=sizeOf36
 v22:=zeroValue36
 t25:=underlying140
 a25:=isAgg140
 z25:=sizeOf140
 v25:=zeroValue140
 t39:=underlying127
 a39:=isAgg127
 z39:=sizeOf127
 v39:=zeroValue127
 t45:=underlying180
 a45:=isAgg180
 z45:=sizeOf180
 v45:=zeroValue180
 t46:=underlying181
 a46:=isAgg181
 z46:=sizeOf181
 v46:=zeroValue181
 t50:=underlying185
 a50:=isAgg185
 z50:=sizeOf185
 v50:=zeroValue185
 t53:=underlying80
 a53:=isAgg80
 z53:=sizeOf80
 v53:=zeroValue80
 t55:=underlying106
 a55:=isAgg106
 z55:=sizeOf106
 v55:=zeroValue106
 t66:=underlying192
 a66:=isAgg192
 z66:=sizeOf192
 v66:=zeroValue192
 t70:=underlying196
 a70:=isAgg196
 z70:=sizeOf196
 v70:=zeroValue196
 t76:=underlying200
 a76:=isAgg200
 z76:=sizeOf200
 v76:=zeroValue200
 t77:=underlying201
 a77:=isAgg201
 z77:=sizeOf201
 v77:=zeroValue201}
def Tryz.cmpInt_ren:Go.Shelf.Ren:=⟨fun|5=>121|7=>145|n=>n,fun|22=>3|3=>3|4=>4|n=>n,fun|n=>n⟩
def Tryz.cmpInt:Go.Proofs.SlLaysC2.n5 prog cmpInt_ren:= {
 mixed:=by kernel_rfl
 f5:=⟨f121.name,by decide,func121.trans (tN some (by kernel_rfl))⟩
 f7:=⟨f145.name,by decide,func145.trans (tN some (by kernel_rfl))⟩
 t3:=underlying3
 a3:=isAgg3
 z3:=sizeOf3
 v3:=zeroValue3
 t4:=underlying4
 a4:=isAgg4
 z4:=sizeOf4
 v4:=zeroValue4
 t22:=underlying3
 a22:=isAgg3
 z22:=sizeOf3
 v22:=zeroValue3}
end Go.Proofs
namespace Go.Proofs.YthclcjfodjhmlaaGreat
open Go.Proofs.Tryz
open Go.Vc Go.Gw Go.Lib Go.Shelf
open Go.IntKind (i64 u32)
def Yg (w:World) (o:Obj):w.alloc o= {w with heap:=w.heap.push o} :=rfl
def B0o (a b:Int) (r1 r2:List Value) (w:World):Calls prog 120 #[.agg (.int .i64 a::r1).toArray, .agg (.int .i64 b::r2).toArray] w fun e w'=>e= .returned (.int .i64 (Lib.compareInt a b))/\∃q os,w'=Go.Sort.grow (w.drewN q) os:=by
 have u:∀args w,(callFunc 121 args).run prog w= .ok (.enter 121 args) w:=Go.Vc.GW (by kernel_rfl);have hc:=fun(w:World)=>AnyG.cmp_Compare_int cmpInt a b w
 go_enter func120,ntmps120
 go_wp2_with (go_at_fn (121);refine(hc _).mono ?_;rintro e w' ⟨rfl,hw⟩;rw[hw])
 go_ret
 refine⟨rfl,0, #[.cells (Value.int .i64 a::r1).toArray 48, .cells (Value.int .i64 b::r2).toArray 48], ?_⟩;rw[Yg,Yg];simp[Go.Sort.grow,World.drewN];apply g0f.1;simp
def B0n (a b:Int):Lib.compareInt a b=K8 a b:=by
 unfold Lib.compareInt K8
 (repeat' split)<;>first|rfl|omega
def B9y:A9u prog 120 tE (fun a b:D3=>K8 a.1 b.1):=by
 rintro w Z c1 c2 x y ⟨u1,u,rfl,⟨rfl,_⟩,_⟩ ⟨u2,r2,rfl,⟨rfl,_⟩,_⟩;have:=B0o x.1 y.1 u r2 w;rw[B0n]at this;exact this
def B8c:PN prog 119 (TS 120 tE 48 (fun a b=>K8 a.1 b.1)):=by
 refine YO (tys:= []) (pD (ρ:=sortEnt_ren) sortEnt (t:=tE) (e:=48) (g:=120) (φ:=fun a b:D3=>K8 a.1 b.1) isAgg48 sizeOf48 (fun a=> ?_) (fun a b c=> ?_) (fun a b c=> ?_) (by kernel_rfl) B9y);all_goals (simp only[K8];(repeat' split)<;>omega)
def A6p (a b:Int) (r1 r2:List Value) (w:World):Calls prog 152 #[.agg (.int .i64 a::r1).toArray, .agg (.int .i64 b::r2).toArray] w fun e w'=>e= .returned (.int .i64 (Lib.compareInt a b))/\∃q os,w'=Go.Sort.grow (w.drewN q) os:=by
 have u:∀args w,(callFunc 121 args).run prog w= .ok (.enter 121 args) w:=Go.Vc.GW (by kernel_rfl);have hc:=fun(w:World)=>AnyG.cmp_Compare_int cmpInt a b w
 go_enter func152,ntmps152
 go_wp2_with (go_at_fn (121);refine(hc _).mono ?_;rintro e w' ⟨rfl,hw⟩;rw[hw])
 go_ret
 refine⟨rfl,0, #[.cells (Value.int .i64 a::r1).toArray 48, .cells (Value.int .i64 b::r2).toArray 48], ?_⟩;rw[Yg,Yg];simp[Go.Sort.grow,World.drewN];apply g0f.1;simp
def B6a:A9u prog 152 tE (fun a b:D3=>K8 a.1 b.1):=by
 rintro w Z c1 c2 x y ⟨u1,u,rfl,⟨rfl,_⟩,_⟩ ⟨u2,r2,rfl,⟨rfl,_⟩,_⟩;have:=A6p x.1 y.1 u r2 w;rw[B0n]at this;exact this
def B4r:PN prog 119 (TS 152 tE 48 (fun a b=>K8 a.1 b.1)):=by
 refine YO (tys:= []) (pD (ρ:=sortEnt_ren) sortEnt (t:=tE) (e:=48) (g:=152) (φ:=fun a b:D3=>K8 a.1 b.1) isAgg48 sizeOf48 (fun a=> ?_) (fun a b c=> ?_) (fun a b c=> ?_) (by kernel_rfl) B6a);all_goals (simp only[K8];(repeat' split)<;>omega)
def B3u (n:Int) (w:World):Calls prog 114 #[.int .i64 n] w fun e w'=>e= .returned (.func (.func 115) #[] #[.pointer (some ⟨w.heap.size,0,none⟩)])/\w'=w.alloc (.cells #[.int .i64 n] 3):=by
 go_enter func114,ntmps114
 go_wp2
 go_ret
 exact⟨rfl,rfl⟩
def C1b (hm:A7 prog 115 J4):PN prog 114 (B1o prog [(false, .int .i64)] false .bool (.int .i64) (fun n x=>decide (x.1<0\/n<=x.1))):=by
 refine B1p ?_;rintro w Z v n ⟨hv,hn⟩;obtain rfl:v= .int .i64 n:=by simpa using hv
 refine Calls.mono (B3u _ w) ?_;rintro _ _ ⟨rfl,rfl⟩;have a3:(w.alloc (.cells #[Value.int .i64 n] 3)).heap.size=w.heap.size+1:=by simp
 refine⟨_,rfl,S7.alloc w _,(fun b=>b=w.heap.size),fun b hb=> .inr ⟨by omega,by rw[a3,hb];omega⟩,115,[.pointer (some ⟨w.heap.size,0,none⟩)],rfl,by kernel_rfl, ?_⟩;rintro w1 Z1 vs ⟨i,_⟩ hs h0 hz ⟨v1,a8,rfl,a4,rfl⟩ _;have hc:(w.alloc (.cells #[Value.int .i64 n] 3)).heap[w.heap.size]? =some (.cells #[Value.int .i64 n] 3 (0,0)):=by rw[Yg];simp
 have a2:w1.heap[w.heap.size]? =some (.cells #[Value.int .i64 n] 3 (0,0)):=(hs _ rfl).trans hc;have a1:Ac prog w1 (fun b=>Z1 b\/b=w.heap.size) J4.args [v1, .pointer (some ⟨w.heap.size,0,none⟩)] (i,n,()):=by
  refine⟨_,_,rfl, ?_,_,_,rfl, ?_,rfl⟩
  . exact a4
  . exact⟨w.heap.size,0,[Value.int .i64 n],rfl, .inr rfl,fun j u hj=>by
     rcases j with _ |j
     . simp only[g1u,rE]at hj;subst hj;rw[K7];simp[World.cell?,a2]
     . simp at hj,rfl,hn⟩
 have:=hm w1 (fun b=>Z1 b\/b=w.heap.size) [v1, .pointer (some ⟨w.heap.size,0,none⟩)] (i,n,()) (fun b hb=>hb.elim (hz b) fun e=>h0 b e) a1 trivial trivial;refine Gw.cG.mono this ?_;rintro u w2 ⟨hx,⟨r,_⟩,o,us,Zn,a0,_,rfl,a6,⟨v2,a7,rfl,a5,_,rfl⟩,_⟩;refine⟨hx.ext fun b hb=> ?_,Zn,fun b hb=> ?_, ?_⟩
 . obtain⟨p,hp,_⟩:=hb;cases hp
 . rcases a6 b hb with h| ⟨h,_⟩
   . exact .inl h
   . cases h
 . have hr:r=decide (i<0\/n<=i):=a0;show Bm false .bool w2 Zn v2 (decide (i<0\/n<=i));rw[<-hr];exact a5
end Go.Proofs.YthclcjfodjhmlaaGreat
namespace Go.Proofs.YthclcjfodjhmlaaGreat
open Go.Proofs.Tryz
open Go.Vc Go.Gw
open Go.IntKind (i64 u32)
def H4 {P:Program} {tys:List (Nat×TI)} {sp:I5} {f:FuncId} {fn:Func} {s:A5} {vc:A2 s.args->Prop} (an:An) (hf:P.funcs[f]? =some fn) (hv:∀x,awf s.args x->s.pre x->vc x) (hty:H6 P tys=true) (hsp:Rb P sp) (he:∀x,C1m P tys sp an s fn x=vc x:=by intro x;kernel_rfl) (hb:fn.body.isSome=true:=by kernel_rfl) (hn:Nat.ble s.args.length fn.ntmps=true:=by kernel_rfl) (u:Cl fn.ntmps (fn.body.getD .skip)=true:=by kernel_rfl):A7 P f s:=
 B3b hf hb hn u hty hsp he hv
def Zv:A7 prog 115 J4:=H4 Yl func115 Tn A4 (A1)
def QI:A7 prog 6 Mx:=H4 kQ func6 ZB A4 (A1)
def oF:A7 prog 52 Mw:=H4 kP func52 ZA A4 (A1)
def Hh:A7 prog 25 Aj:=H4 JH func25 BC A4 (A0 oF (A1))
def Jw:A7 prog 21 Nj:=H4 lC func21 aC A4 (A1)
def S5:A7 prog 104 Mz:=H4 kS func104 ZH A4 (A1)
def Bf:A7 prog 75 Na:=H4 kT func75 ZM A4 (A0 S5 (A1))
def QJ:A7 prog 71 Nb:=H4 kU func71 ZP A4 (A0 Bf (A1))
def QK:A7 prog 51 Nc:=H4 kV func51 ZQ A4 (A0 QJ (A1))
def HS:A7 prog 53 Sq:=H4 A0m func53 bV A4 (A0 Bf (A1))
def Va:A7 prog 72 Jz:=H4 fV func72 SY A4 (A1)
def XK:A7 prog 76 Sh:=H4 A0d func76 bM A4 (A0 S5 (A1))
def XL:A7 prog 105 Fk:=H4 UM func105 LX A4 (A0 S5 (A1))
def XM:A7 prog 77 Sk:=H4 A0g func77 bP A4 (A0 S5 (A0 XL (A1)))
def Oz:A7 prog 99 Ap:=H4 JN func99 BP A4 (A0 S5 (A1))
def bF:A7 prog 134 Hq:=H4 aT func134 PJ A4 (A0 S5 (A1))
def oG:A7 prog 135 My:=H4 kR func135 ZD A4 (A0 S5 (A1))
def A2i:A7 prog 136 Sl:=H4 A0h func136 bQ A4 (A1)
def FL:A7 prog 101 Hp:=H4 aS func101 PH A4 (A0 XK (A0 XM (A0 Oz (A0 S5 (A0 bF (A0 oG (A0 A2i (A1))))))))
def A2g:A7 prog 100 Si:=H4 A0e func100 bN A4 (A0 FL (A0 S5 (A1)))
def A2k:A7 prog 73 So:=H4 A0k func73 bT A4 (A0 Bf (A0 A2g (A1)))
def HQ:A7 prog 43 Sn:=H4 A0j func43 bS A4 (A0 Bf (A0 XK (A0 XM (A1))))
def Mk:A7 prog 70 Fl:=H4 UN func70 MA A4 (A0 Bf (A0 Oz (A1)))
def A2j:A7 prog 102 Sm:=H4 A0i func102 bR A4 (A0 Bf (A1))
def A2l:A7 prog 103 Sr:=H4 A0n func103 bW A4 (A0 HQ (A0 HS (A1)))
def bG:A7 prog 74 Hr:=H4 aU func74 PK A4 (A0 HQ (A0 Mk (A0 Bf (A0 FL (A0 A2j (A0 A2l (A1)))))))
def Dd:A7 prog 42 Nd:=H4 kW func42 ZU A4 (A0 Jw (A0 QK (A0 HS (A0 QJ (A0 Va (A0 A2k (A0 bG (A1))))))))
def eN:A7 prog 40 AJ:=H4 A6h func40 kC A4 (A0 Dd (A0 Mk (A1)))
def Jc:A7 prog 13 Bw:=H4 MX func13 FA A4 (A0 Hh (A0 eN (A1)))
def Xn:A7 prog 26 P6:=H4 Xf func26 Qq A4 (A0 Hh (A0 eN (A1)))
def SQ:A7 prog 5 Ds:=H4 RY func5 IN A4 (A0 QI (A0 Jc (A0 Jw (A0 Hh (A0 Xn (A1))))))
def De:A7 prog 41 Nf:=H4 kX func41 ZX A4 (A0 Dd (A1))
def A2h:A7 prog 78 Sj:=H4 A0f func78 bO A4 (A0 S5 (A1))
def HR:A7 prog 44 Sp:=H4 A0l func44 bU A4 (A0 Bf (A0 A2h (A1)))
def Vb:A7 prog 45 Sy:=H4 A0t func45 cC A4 (A0 De (A1))
def Ml:A7 prog 14 Ss:=H4 A0o func14 bX A4 (A0 De (A0 Dd (A0 HQ (A0 HR (A0 Vb (A1))))))
def XP:A7 prog 28 Sw:=H4 A0r func28 cA A4 (A0 De (A0 Dd (A0 Vb (A0 HS (A1)))))
def HT:A7 prog 22 Sx:=H4 A0s func22 cB A4 (A0 Ml (A0 XP (A1)))
def KK:A7 prog 27 Ak:=H4 JI func27 BD A4 (A0 Jc (A1))
def Xm:A7 prog 7 P5:=H4 Xe func7 Qp A4 (A0 Ml (A0 Jw (A0 HT (A0 KK (A0 XP (A1))))))
def KO:A7 prog 12 Kc:=H4 fY func12 TB A4 (A1)
def Zy:A7 prog 29 Fp:=H4 UR func29 MF A4 (A1)
def jI:A7 prog 8 Kd:=H4 fZ func8 TC A4 (A0 KO (A0 Zy (A1)))
def H2:A7 prog 91 Ci:=H4 UL func91 LW A4 (A1)
def L3:A7 prog 63 X8:=H4 GK func63 Xz A4 (A0 H2 (A1))
def W8:A7 prog 62 Av:=H4 JO func62 BV A4 (A0 L3 (A1))
def Wg:A7 prog 88 Dq:=H4 RV func88 IL A4 (A0 L3 (A1))
def H5:A7 prog 58 Ca:=H4 NC func58 FE A4 (A0 W8 (A0 Wg (A1)))
def Kv:A7 prog 129 Du:=H4 SB func129 IR A4 (A1)
def KL:A7 prog 89 Am:=H4 JL func89 BL A4 (A0 H2 (A0 Kv (A1)))
def Cp:A7 prog 60 Aw:=H4 JP func60 BY A4 (A0 KL (A1))
def J9:A7 prog 90 P7:=H4 Xg func90 Qr A4 (A0 H2 (A1))
def Df:A7 prog 61 R7:=H4 Ym func61 Ts A4 (A0 J9 (A1))
def Bp:A7 prog 93 Dt:=H4 SA func93 IQ A4 (A0 H2 (A1))
def W7:A7 prog 96 Ah:=H4 JF func96 AZ A4 (A1)
def SO:A7 prog 92 Dp:=H4 RU func92 IK A4 (A0 Bp (A0 W7 (A1)))
def Ry:A7 prog 132 M8:=H4 Rf func132 Nw A4 (A0 J9 (A0 H2 (A1)))
def bD:A7 prog 169 Hn:=H4 aQ func169 PE A4 (A1)
def Hg:A7 prog 154 K5:=H4 Tw func154 Oj A4 (A0 bD (A1))
def HP:A7 prog 156 Q5:=H4 GN func156 Yc A4 (A1)
def Xo:A7 prog 158 L6:=H4 Xh func158 Qs A4 (A0 H2 (A1))
def Xp:A7 prog 133 P8:=H4 (sp:=Xs) Xi func133 Qt A4 (A0 H2 (A0 Hg (A0 HP (A0 Xo (Fq (HA (cx:=⟨prog,tys⟩) (fn:=f157) (c:=f157.body.getD .skip) func157 (by kernel_rfl) (by kernel_rfl) A4 (T8 (A1) (Iy))) (A1))))))
def Oy:A7 prog 95 Al:=H4 JK func95 BG A4 (A0 L3 (A0 J9 (A0 H2 (A0 Bp (A0 Kv (A0 Ry (A0 Xp (A1))))))))
def EL:A7 prog 175 U8:=H4 DZ func175 Vx A4 (A1)
def KM:A7 prog 155 Ao:=H4 JM func155 BN A4 (A0 EL (A1))
def HO:A7 prog 130 Y0:=H4 GM func130 Yb A4 (A0 Hg (A0 KM (A1)))
def Hi:A7 prog 67 Fi:=H4 UJ func67 LU A4 (A0 H2 (A1))
def Zw:A7 prog 98 Fj:=H4 UK func98 LV A4 (A0 L3 (A0 H2 (A1)))
def HN:A7 prog 131 X9:=H4 GL func131 Ya A4 (A0 Hi (A0 J9 (A0 Zw (A1))))
def XJ:A7 prog 94 Fh:=H4 UI func94 LS A4 (A0 L3 (A0 J9 (A0 H2 (A0 Bp (A0 Oy (A0 Kv (A0 HO (A0 HN (A1)))))))))
def Ga:A7 prog 64 Y4:=H4 GO func64 Yd A4 (A0 SO (A0 Bp (A0 XJ (A0 Oy (A1)))))
def S9:A7 prog 59 W3:=H4 NA func59 FD A4 (A0 Cp (A0 Df (A0 W8 (A0 Ga (A1)))))
def XI:A7 prog 97 Fg:=H4 UH func97 LR A4 (A0 H2 (A1))
def XF:A7 prog 65 Fc:=H4 UC func65 LN A4 (A0 W7 (A0 XI (A0 Zw (A1))))
def Mj:A7 prog 66 Fd:=H4 UD func66 LO A4 (A0 Hi (A0 W7 (A1)))
def Q9:A7 prog 31 Dv:=H4 SC func31 IS A4 (A0 H5 (A0 S9 (A0 Cp (A0 Df (A0 W8 (A0 L3 (A0 Ga (A0 XF (A0 Mj (A0 Hi (A1)))))))))))
def Fw:A7 prog 32 Dx:=H4 SH func32 IX A4 (A0 Q9 (A1))
def W2:A7 prog 33 Ar:=H4 SF func33 IV A4 (A0 Cp (A0 Df (A0 W8 (A0 Ga (A0 Mj (A0 Hi (A1)))))))
def Wf:A7 prog 46 Dl:=H4 RP func46 IH A4 (A0 H5 (A1))
def HM:A7 prog 87 X7:=H4 GJ func87 Xy A4 (A0 J9 (A0 W7 (A1)))
def R3:A7 prog 57 O3:=H4 EB func57 Vz A4 (A0 HM (A1))
def XD:A7 prog 47 Fa:=H4 UA func47 LK A4 (A0 Q9 (A0 Fw (A0 R3 (A1))))
def KP:A7 prog 106 Ax:=H4 JQ func106 BZ A4 (A1)
def Zz:A7 prog 107 R8:=H4 Yn func107 Tt A4 (A1)
def Hj:A7 prog 109 O1:=H4 Ue func109 Ol A4 (A1)
def Xq:A7 prog 108 P9:=H4 Xj func108 Qu A4 (A0 Hj (A1))
def EN:A7 prog 80 V2:=H4 EC func80 Wa A4 (A0 KP (A0 Zz (A0 Xq (A0 Hj (A1)))))
def OI:A7 prog 54 Bv:=H4 MW func54 EX A4 (A0 EN (A1))
def Kw:A7 prog 110 I1:=H4 Ko func110 Ij A4 (A1)
def Ig:A7 prog 81 G8:=H4 Ib func81 Gc A4 (A0 Kw (A1))
def Zs:A7 prog 82 R5:=H4 Yi func82 Th A4 (A0 H5 (A1))
def HK:A7 prog 55 X5:=H4 GH func55 Xw A4 (A0 Q9 (A0 Ig (A0 Zs (A1))))
def XG:A7 prog 137 Fe:=H4 UE func137 LP A4 (A0 Bp (A0 W7 (A1)))
def Wh:A7 prog 111 Au:=H4 SG func111 IW A4 (A0 S9 (A0 XG (A1)))
def Wi:A7 prog 138 Dz:=H4 SJ func138 IZ A4 (A0 H5 (A1))
def OH:A7 prog 145 Bt:=H4 MT func145 EV A4 (A1)
def Mi:A7 prog 121 X0:=H4 GF func121 Xu A4 (A0 OH (A1))
def KR:A7 prog 152 Az:=H4 JT func152 CD A4 (A0 Mi (A1))
def La:A7 prog 159 V3:=H4 EF func159 Wc A4 (A1)
def Ev:A7 prog 161 F3:=H4 Et func161 Cv A4 (A1)
def Ii:A7 prog 184 Jl:=QB fun _ h=>h
def Jx:A7 prog 176 H3:=H4 Js func176 Hx A4 (A0 Ev (A0 Ii (A1)))
def Em:A7 prog 160 E8:=H4 Ef func160 Cn A4 (A0 Jx (A1))
def Pa:A7 prog 139 Ay:=H4 JS func139 CC A4 (A0 Q9 (A0 KR (A0 La (A0 Em (A1)))))
def OM:A7 prog 140 Cb:=H4 ND func140 FF A4 (A0 S9 (A1))
def Mm:A7 prog 112 Ck:=H4 US func112 MI A4 (A0 Wi (A0 Pa (A0 OM (A1))))
def EK:A7 prog 83 U6:=H4 DT func83 Vw jZ (A0 Wf (A0 Wh (A0 Mm (A1))))
def Ox:A7 prog 117 T5:=H4 JJ func117 BE A4 (A1)
def ST:A7 prog 141 Dy:=H4 SI func141 IY A4 (A0 H5 (A0 La (A1)))
def Ku:A7 prog 113 U7:=H4 RZ func113 IP A4 (A0 Ox (A0 ST (A1)))
def Kx:A7 prog 142 I2:=H4 Kp func142 Ik A4 (A1)
def Ih:A7 prog 116 F4:=H4 Ic func116 Gd A4 (A0 Kx (A1))
def OK:A7 prog 84 Bx:=H4 (sp:=OX) MY func84 FB jZ (A0 S9 (A0 Ku (Fq (C1b Zv) (A0 Ih (A0 Ox (Fq B8c (Fq (HA (cx:=⟨prog,C1y⟩) (fn:=f118) (c:=f118.body.getD .skip) func118 (by kernel_rfl) (by kernel_rfl) jZ (T8 (A1) (Iy))) (A1))))))))
def Rz:A7 prog 151 M9:=H4 Rg func151 Ob A4 (A1)
def KQ:A7 prog 125 T6:=H4 JR func125 CB A4 (A0 Mm (Fq B4r (A0 Rz (A1))))
def SS:A7 prog 148 Aq:=H4 SE func148 IU A4 (A0 H5 (A0 S9 (A1)))
def bI:A7 prog 149 Ep:=H4 aW func149 PM A4 (A0 Q9 (A0 R3 (A1)))
def Xr:A7 prog 171 Q3:=H4 Xk func171 Qv A4 (A0 Q9 (A0 W2 (A0 H5 (A0 S9 (A1)))))
def EO:A7 prog 150 O4:=H4 ED func150 Wb A4 (A0 Wi (A0 Pa (A0 Xr (A1))))
def OJ:A7 prog 85 R0:=H4 (sp:=Tb) Rc func85 EZ DR (A0 R3 (A0 Ku (A0 KQ (Fq (HA (cx:=⟨prog,SW⟩) (fn:=f122) (c:=f122.body.getD .skip) func122 (by kernel_rfl) (by kernel_rfl) DR (T8 (A0 Mm (A1)) (Iy))) (Fq (HA (cx:=⟨prog,SW⟩) (fn:=f123) (c:=f123.body.getD .skip) func123 (by kernel_rfl) (by kernel_rfl) DR (T8 (Fq (HA (cx:=⟨prog,SW⟩) (fn:=f146) (c:=f146.body.getD .skip) func146 (by kernel_rfl) (by kernel_rfl) DR (T8 (A1) (T8 (A1) (T8 (A1) (T8 (A1) (Iy)))))) (A1)) (Iy))) (Fq (HA (cx:=⟨prog,SW⟩) (fn:=f124) (c:=f124.body.getD .skip) func124 (by kernel_rfl) (by kernel_rfl) DR (T8 (A0 W2 (A0 Wh (A0 SS (A0 bI (A0 EO (Fq (HA (cx:=⟨prog,SW⟩) (fn:=f147) (c:=f147.body.getD .skip) func147 (by kernel_rfl) (by kernel_rfl) DR (T8 (A1) (T8 (A1) (Iy)))) (A1))))))) (Iy))) (A1))))))) EY
def Rx:A7 prog 172 M7:=H4 Re func172 Nr A4 (A1)
def Uz:A7 prog 173 O0:=H4 Ud func173 Ok A4 (A0 Ku (A1))
def HJ:A7 prog 186 X4:=H4 GG func186 Xv A4 (A1)
def Zr:A7 prog 182 R4:=H4 Yh func182 Tf A4 (A0 HJ (A1))
def HL:A7 prog 183 X6:=H4 GI func183 Xx A4 (A0 L3 (A0 Wg (A1)))
def EM:A7 prog 174 U9:=H4 EA func174 Vy A4 (A0 H5 (A0 Cp (A0 W8 (A0 Mj (A0 Mi (A0 Zr (A0 HL (A1))))))))
def Zt:A7 prog 153 R6:=H4 Yj func153 Tj A4 (A0 R3 (A0 Rx (A0 Uz (A0 EM (A1)))))
def KI:A7 prog 126 Ag:=H4 JE func126 AU A4 (A0 Zt (A1))
def XE:A7 prog 127 Fb:=H4 UB func127 LM A4 (A0 Fw (A0 W2 (A0 H5 (A1))))
def SR:A7 prog 128 Dw:=H4 SD func128 IT A4 (A0 W2 (A0 H5 (A1)))
def SN:A7 prog 86 Dn:=H4 RR func86 IJ A4 (A0 KI (A0 XE (A0 SR (A1))))
def SM:A7 prog 56 Dm:=H4 RQ func56 II A4 (A0 EK (A0 OK (A0 OJ (A0 SN (A1)))))
def Rw:A7 prog 30 Bu:=H4 MV func30 EW A4 (A0 Fw (A0 W2 (A0 Wf (A0 XD (A0 OI (A0 HK (A0 SM (A0 R3 (A1)))))))))
def We:A7 prog 9 Dk:=H4 RO func9 IG A4 (A0 Rw (A0 Q9 (A0 Fw (A0 W2 (A1)))))
def jH:A7 prog 79 Ka:=H4 fW func79 SZ A4 (A0 Va (A1))
def KN:A7 prog 49 Kb:=H4 fX func49 TA A4 (A0 Va (A0 jH (A1)))
def OL:A7 prog 48 Bz:=H4 MZ func48 FC A4 (A0 De (A0 KN (A1)))
def oI:A7 prog 19 Nh:=H4 kZ func19 ZZ A4 (A0 OL (A0 KN (A1)))
def Dc:A7 prog 39 Cj:=H4 UP func39 MD A4 (A0 Dd (A0 Mk (A1)))
def KJ:A7 prog 34 Ai:=H4 JG func34 BB A4 (A0 Dc (A1))
def bE:A7 prog 35 Ho:=H4 aR func35 PG A4 (A0 Dc (A1))
def XH:A7 prog 10 Ff:=H4 UG func10 LQ A4 (A0 We (A0 oI (A0 Rw (A0 KJ (A0 bE (A1))))))
def bH:A7 prog 36 Hs:=H4 aV func36 PL A4 (A0 Zy (A1))
def oL:A7 prog 37 Jk:=A7y (fun x=>((x.2.1.filter fun i=>decide (i∉x.2.2.2.2.1)).length:Nat)) fun n u=>A1z n (A0 u (A0 Dc (A1))) (aJ n)
def Zx:A7 prog 24 Ni:=H4 lA func24 aA A4 (A0 De (A0 QK (A1)))
def XQ:A7 prog 68 Fo:=H4 UQ func68 ME A4 (A1)
def A2n:A7 prog 69 Sz:=H4 A0u func69 cD A4 (A0 Ml (A0 Jw (A1)))
def oJ:A7 prog 38 Nk:=H4 lD func38 aG A4 (A0 Zx (A0 XQ (A0 A2n (A1))))
def oK:A7 prog 11 Nl:=H4 lE func11 aH A4 (A0 bH (A0 oL (A0 oJ (A0 Dc (A1)))))
def XO:A7 prog 15 Sv:=H4 A0q func15 bZ A4 (A0 De (A0 Dd (A0 HR (A0 Vb (A1)))))
def XN:A7 prog 16 Fm:=H4 UO func16 MB A4 (A0 HT (A0 Zx (A1)))
def A2m:A7 prog 50 Su:=H4 A0p func50 bY A4 (A0 Zx (A0 De (A0 Dd (A0 HR (A0 Vb (A1))))))
def oH:A7 prog 23 Ng:=H4 kY func23 ZY A4 (A0 A2m (A1))
def SP:A7 prog 17 Dr:=H4 RX func17 IM A4 (A0 Ml (A0 XO (A0 Jw (A0 HT (A0 oH (A0 Dc (A1)))))))
def Zu:A7 prog 3 J3:=H4 Yk func3 Tk A4 (A0 SQ (A0 QI (A0 Xm (A0 jI (A0 We (A0 XH (A0 oK (A0 KO (A0 Jc (A0 Ml (A0 XO (A0 XN (A0 SP (A1))))))))))))))
end Go.Proofs.YthclcjfodjhmlaaGreat
