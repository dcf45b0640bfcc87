/- Part. -/
import Derived.Shelf.SlSortCmp.NoneTotal
import Derived.Lib.QuietBelow
import Derived.Shelf.SlGeneric
import Derived.Shelf.SlIterI.Sorted
import Derived.Shelf.SortM.Plain
import Derived.Shelf.SortM.SortNone
import Derived.Shelf.SlicesG.Cmp
import Derived.Ground.GgzProg
import Derived.Ground.SlsfProg
import Derived.Ground.SlgmProg
import Derived.Ground.SlgcProg
import Derived.Test.YtdlnpbmmdnmkaaaGreatProg
import Derived.Test.YtdlnpbmmdnmkaaaGreatKMH
set_option linter.all false
namespace Go.Proofs.YtdlnpbmmdnmkaaaGreat
open Go.Vc Go.Gw
theorem aR {a b:List F8} (h:a.Perm b) (j:Int):C5 a j=C5 b j:=by
 induction h with
 |nil=>rfl
 |cons e _ ih=>rw[C5,C5,ih]
 |swap e f l=>simp only[C5];rw[<-Rat.add_assoc, <-Rat.add_assoc,Rat.add_comm (if f.1=j then rv f.2 else 0)]
 |trans _ _ h1 h2=>rw[h1,h2]
theorem IP (e:F8) (j:Int):C5 [e] j=if e.1=j then rv e.2 else 0:=by
 simp only[C5,Rat.add_zero]
structure BM (o:List F8) (n i:Int) (c:List F8):Prop where
 n0:0<=n
 ni:n<=i
 il:i<=(o.length:Int)
 cl:c.length=o.length
 rest:∀j:Nat,i.toNat<=j->c.getD j C8=o.getD j C8
 ord:Ex (c.take n.toNat)
 cm:∀j,C5 (c.take n.toNat) j=C5 (o.take i.toNat) j
 le:∀e∈c.take n.toNat,∃y∈o.take i.toNat,y.1=e.1
 szs:∀e∈c.take n.toNat,sz (65537*i.toNat) e.2/\bL e.2
theorem BM.init (o:List F8):BM o 0 0 o:=⟨Int.le_refl _,Int.le_refl _,Int.natCast_nonneg _,rfl,fun _ _=>rfl,List.Pairwise.nil,fun _=>rfl,fun e he=>(by cases he),fun e he=>(by cases he)⟩
theorem Vz {α:Type} {l:List α} {k:Nat} {x:α} (h:k<l.length):(l.set k x).take (k+1)=l.take k++ [x]:=by
 rw[List.take_add_one,List.take_set_of_le (Nat.le_refl k),List.getElem?_set_self h];rfl
theorem Ny {α:Type} {l:List α} {k:Nat} (d:α) (h:k<l.length):l.take (k+1)=l.take k++ [l.getD k d]:=by
 rw[List.take_add_one,List.getElem?_eq_getElem h,Tu _ _ h];rfl
variable {o c:List F8} {n i:Int}
theorem BM.bound (h:BM o n i c) (hs:o.Pairwise fun a b=>a.1<=b.1) (hi:i<(o.length:Int)):∀e∈c.take n.toNat,e.1<=(o.getD i.toNat C8).1:=fun e he=>by
 obtain⟨y,hy,hye⟩:=h.le e he;obtain⟨k,hk,rfl⟩:=List.mem_iff_getElem.1 hy;rw[List.length_take]at hk;rw[List.getElem_take]at hye;have hn:=h.n0;have hni:=h.ni;have:=List.pairwise_iff_getElem.1 hs k i.toNat (by omega) (by omega) (by omega);rw[Tu _ _ (show i.toNat<o.length by omega), <-hye];exact this
theorem BM.push (h:BM o n i c) (hs:o.Pairwise fun a b=>a.1<=b.1) (hz:EJ 65536 o) (hl:Xe o) (hi:i<(o.length:Int)) (hne:0<n->(c.getD (n-1).toNat C8).1≠(o.getD i.toNat C8).1):BM o (n+1) (i+1) (c.set n.toNat (o.getD i.toNat C8)):=by
 have hn:=h.n0;have hni:=h.ni;have hcl:=h.cl;have hb:=h.bound hs hi;have ht:(c.set n.toNat (o.getD i.toNat C8)).take (n+1).toNat=c.take n.toNat++ [o.getD i.toNat C8]:=by
  rw[show(n+1).toNat=n.toNat+1 from by omega];exact Vz (by omega)
 have ho:o.take (i+1).toNat=o.take i.toNat++ [o.getD i.toNat C8]:=by
  rw[show(i+1).toNat=i.toNat+1 from by omega];exact Ny C8 (by omega)
 have hlt:∀e∈c.take n.toNat,e.1<(o.getD i.toNat C8).1:=fun e he=>by
  have h1:=hb e he;have hn0:0<n:=by
   rcases Int.lt_or_eq_of_le hn with h2|h2
   . exact h2
   . rw[<-h2]at he;cases he
  have hk:(n-1).toNat<c.length:=by omega
  have hsp:c.take n.toNat=c.take (n-1).toNat++ [c.getD (n-1).toNat C8]:=by
   rw[show n.toNat=(n-1).toNat+1 from by omega];exact Ny C8 hk
  have hlast:=hb (c.getD (n-1).toNat C8) (by rw[hsp];simp);have hne:=hne hn0;have has:=h.ord;rw[hsp]at he has;rcases List.mem_append.1 he with he|he
  . have:=(List.pairwise_append.1 has).2.2 e he _ (List.mem_singleton.2 rfl);omega
  . rw[List.mem_singleton]at he;subst he;omega
 have hmo:o.getD i.toNat C8∈o:=K4 (by omega);refine⟨by omega,by omega,by omega,by rw[List.length_set];exact hcl,fun j hj=> ?_, ?_,fun j=> ?_,fun e he=> ?_,fun e he=> ?_⟩
 . rw[List.getD_eq_getElem?_getD,List.getElem?_set_ne (by omega), <-List.getD_eq_getElem?_getD];exact h.rest j (by omega)
 . rw[ht];exact WA h.ord hlt
 . rw[ht,ho,M5,M5,h.cm]
 . rw[ht]at he;rw[ho];rcases List.mem_append.1 he with he|he
   . obtain⟨y,hy,hye⟩:=h.le e he;exact⟨y,List.mem_append_left _ hy,hye⟩
   . rw[List.mem_singleton]at he;subst he;exact⟨_,List.mem_append_right _ (List.mem_singleton.2 rfl),rfl⟩
 . rw[ht]at he;rcases List.mem_append.1 he with he|he
   . exact⟨Nw (h.szs e he).1 (by omega),(h.szs e he).2⟩
   . rw[List.mem_singleton]at he;subst he;exact⟨Nw (hz _ hmo) (by omega),hl _ hmo⟩
theorem BM.add (h:BM o n i c) (hz:EJ 65536 o) (hl:Xe o) (hi:i<(o.length:Int)) (hn0:0<n) (he:(c.getD (n-1).toNat C8).1=(o.getD i.toNat C8).1):sz (65537*i.toNat) (c.getD (n-1).toNat C8).2/\sz 65536 (o.getD i.toNat C8).2/\BM o n (i+1) (c.set (n-1).toNat ((c.getD (n-1).toNat C8).1,rc (rv (c.getD (n-1).toNat C8).2+rv (o.getD i.toNat C8).2))):=by
 have hni:=h.ni;have hcl:=h.cl;have hk:(n-1).toNat<c.length:=by omega
 have hsp:c.take n.toNat=c.take (n-1).toNat++ [c.getD (n-1).toNat C8]:=by
  rw[show n.toNat=(n-1).toNat+1 from by omega];exact Ny C8 hk
 have ho:o.take (i+1).toNat=o.take i.toNat++ [o.getD i.toNat C8]:=by
  rw[show(i+1).toNat=i.toNat+1 from by omega];exact Ny C8 (by omega)
 have hlm:c.getD (n-1).toNat C8∈c.take n.toNat:=by rw[hsp];simp
 have hmo:o.getD i.toNat C8∈o:=K4 (by omega);obtain⟨z1,z2⟩:=h.szs _ hlm;have z3:=hz _ hmo;have z4:=hl _ hmo;refine⟨z1,z3, ?_⟩;have has:=h.ord;have hcm:=h.cm;have hle:=h.le;have hsz:=h.szs;rw[hsp]at has hcm hle hsz;have hrs:=h.rest;generalize hla:c.getD (n-1).toNat C8=la at*;generalize o.getD i.toNat C8=e0 at*;have ht:∀x:F8,(c.set (n-1).toNat x).take n.toNat=c.take (n-1).toNat++ [x]:=fun x=>by
  rw[show n.toNat=(n-1).toNat+1 from by omega];exact Vz hk
 obtain⟨p1,p2,p3⟩:=List.pairwise_append.1 has;have hqs:qs (65537*(i+1).toNat) (rv la.2+rv e0.2):=by
  have h1:1<=i.toNat:=by omega
  exact Gk (UR (Vw z2 z1 (by omega)) (Vw z4 z3 (by decide))) (by omega)
 refine⟨h.n0,by omega,by omega,by rw[List.length_set];exact hcl,fun j hj=> ?_, ?_,fun j=> ?_,fun e he'=> ?_,fun e he'=> ?_⟩
 . rw[List.getD_eq_getElem?_getD,List.getElem?_set_ne (by omega), <-List.getD_eq_getElem?_getD];exact hrs j (by omega)
 . rw[ht];exact List.pairwise_append.2 ⟨p1,List.pairwise_singleton _ _,fun a ha b hb=>by rw[List.mem_singleton]at hb;subst hb;exact p3 a ha la (List.mem_singleton.2 rfl)⟩
 . rw[ht,ho,M5,M5, <-hcm,M5,IP,IP,IP];simp only;rw[W5,he,Rat.add_assoc];congr 1;split
   . rfl
   . rw[Rat.add_zero]
 . rw[ht]at he';rw[ho];rcases List.mem_append.1 he' with h1|h1
   . obtain⟨y,hy,hye⟩:=hle e (List.mem_append_left _ h1);exact⟨y,List.mem_append_left _ hy,hye⟩
   . rw[List.mem_singleton]at h1;subst h1;exact⟨e0,List.mem_append_right _ (List.mem_singleton.2 rfl),he.symm⟩
 . rw[ht]at he';rcases List.mem_append.1 he' with h1|h1
   . exact⟨Nw (hsz e (List.mem_append_left _ h1)).1 (by omega),(hsz e (List.mem_append_left _ h1)).2⟩
   . rw[List.mem_singleton]at h1;subst h1;exact⟨A5l hqs,pP _⟩
theorem Y5 (x:A5 E9.args) (hw:awf E9.args x) (hp:E9.pre x):N6 x:=by
 obtain⟨l,a,b,⟨ok,φ⟩,_⟩:=x;change List (Int×(Bool×List Int)×List Int)at l;change Int at a b;obtain⟨⟨hok,htr,has⟩,a0,ab,bl,hl⟩:Re ok φ/\0<=a/\a<=b/\b<=(l.length:Int)/\l.length<=100000:=hp;simp only[N6];have hq:∀x y z:F8,¬φ (y,x,())<0->¬φ (z,y,())<0->¬φ (z,x,())<0:=fun x y z h1 h2=>htr z y x h2 h1
 refine⟨fun p=>a+1<=p.1/\(p.1<=b\/p.1=a+1)/\p.2.1.Perm l/\p.2.1.take a.toNat=l.take a.toNat/\p.2.1.drop b.toNat=l.drop b.toNat/\(∀s t,a.toNat<=s->s<t->t<p.1.toNat->t<b.toNat->¬φ (p.2.1.getD t C8,p.2.1.getD s C8,())<0),fun p=>(b-p.1).toNat, ?_, ?_⟩
 . rw[wr (by omega) (by omega)];refine⟨Int.le_refl _, .inr rfl,List.Perm.refl _,rfl,rfl,fun s t h1 h2 h3 h4=> ?_⟩;change t<(a+1).toNat at h3;omega
 rintro⟨i,m,_⟩ _ ⟨h0,h1,h2,h3,h4,h5⟩;change Int at i;change List (Int×(Bool×List Int)×List Int)at m;simp only at h0 h1 h2 h3 h4 h5⊢;have hml:=h2.length_eq;refine⟨fun h=> ?_,fun h=> ?_⟩
 . have h:=of_decide_eq_true h;refine⟨fun p=>a<=p.1/\p.1<=i/\p.2.1.Perm l/\p.2.1.take a.toNat=l.take a.toNat/\p.2.1.drop b.toNat=l.drop b.toNat/\lK (fun x y=>¬φ (y,x,())<0) C8 p.2.1 a.toNat i.toNat p.1.toNat,fun p=>(p.1-a).toNat,⟨by show a<=i;omega,Int.le_refl _,h2,h3,h4,bE fun s t q1 q2 q3=>h5 s t q1 q2 q3 (by omega)⟩, ?_⟩;rintro⟨j,y,_⟩ _ ⟨g0,g1,g2,g3,g4,g5⟩;change Int at j;change List (Int×(Bool×List Int)×List Int)at y;simp only at g0 g1 g2 g3 g4 g5⊢;have hyl:=g2.length_eq;have ew:IntKind.i64.wrap (j-1)=j-1:=wr (by omega) (by omega);rw[ew];have et:(j-1).toNat=j.toNat-1:=by omega
   rw[et];refine⟨fun hj=>⟨by omega,by omega⟩,fun hj=> ?_,trivial,fun _=>hok _ _,fun _=>⟨fun hs=> ?_,fun hs=> ?_⟩⟩
   . have hj:=of_decide_eq_true hj;exact⟨by omega,by omega⟩
   . rw[J1]at hs;simp only[Bool.and_eq_true,decide_eq_true_eq]at hs;obtain⟨s1,s2⟩:=hs;refine⟨⟨by omega,by omega⟩,⟨by omega,by omega⟩,⟨by omega,by omega⟩,⟨by omega,by rw[List.length_set];omega⟩,⟨by omega,by omega, ?_, ?_, ?_, ?_⟩,by omega⟩
     . exact(cS (d:=C8) (l:=y) (j:=j.toNat) (by omega)).trans g2
     . exact(cT (d:=C8) (l:=y) (by omega)).trans g3
     . exact(cR (d:=C8) (l:=y) (by omega)).trans g4
     . exact gG g5 (by omega) (by omega) (by omega) (has _ _ s2)
   . rw[J1]at hs;simp only[Bool.and_eq_false_iff,decide_eq_false_iff_not]at hs;rw[wr (by omega) (by omega)];refine⟨⟨by omega, .inl (by omega),g2,g3,g4,fun s t q1 q2 q3 q4=> ?_⟩,by omega⟩;refine lL g5 hq (by omega) (fun hh=> ?_) s t q1 q2 (by change t<(i+1).toNat at q3;omega);rcases hs with hs|hs
     . omega
     . exact hs
 . have h:=of_decide_eq_false h;refine⟨trivial,h2,h3,h4, ?_⟩;unfold Pu;have:=KY (q:=fun x y=>¬φ (y,x,())<0) (d:=C8) (l:=m) (a:=a.toNat) (b:=b.toNat) (by omega) fun s t q1 q2 q3=>h5 s t q1 q2 (by omega) q3
   exact this
theorem Ds (x:A5 G5.args) (hw:awf G5.args x) (hp:G5.pre x):V3 x:=by
 obtain⟨l,n,⟨ok,φ⟩,_⟩:=x;change List (Int×(Bool×List Int)×List Int)at l;change Int at n;obtain⟨hok,hn,hl⟩:Re ok φ/\n=(l.length:Int)/\l.length<=20:=hp;simp only[V3];refine⟨fun p=>(p.1=0/\p.2.1=20/\p.2.2.1=l)\/(p.1=20/\p.2.1=40/\n=20/\p.2.2.1.Perm l/\Pu φ p.2.2.1),fun p=>(40-p.2.1).toNat, .inl ⟨rfl,rfl,rfl⟩, ?_⟩;rintro⟨a,b,m,_⟩ _ hI;change Int at a b;change List (Int×(Bool×List Int)×List Int)at m;simp only at hI⊢;refine⟨fun h=> ?_,fun h=> ?_⟩
 . have h:=of_decide_eq_true h;obtain⟨rfl,rfl,rfl⟩:a=0/\b=20/\m=l:=by
    rcases hI with h1| ⟨_,h1,_⟩
    . exact h1
    . omega
   refine⟨trivial,trivial,⟨hok,Int.le_refl _,by omega,by omega,by omega⟩, ?_⟩;rintro r ⟨o,_⟩ _ _ _ ⟨o1,o2,o3,o4⟩;simp only at o1 o2 o3 o4⊢;rw[wr (by omega) (by omega)];refine⟨.inr ⟨by trivial,by trivial,by omega,o1, ?_⟩,by simp⟩;have hol:=o1.length_eq;change Pu φ ((o.drop 0).take (20-0))at o4;rw[List.drop_zero,List.take_of_length_le (by omega)]at o4;exact o4
 . have h:=of_decide_eq_false h;have hm:0<=a/\a<=n/\m.Perm l/\(a=0\/a=n/\Pu φ m):=by
    rcases hI with⟨rfl,rfl,rfl⟩ | ⟨rfl,rfl,h20,hp,hs⟩
    . exact⟨Int.le_refl _,by omega,List.Perm.refl _, .inl rfl⟩
    . exact⟨by decide,by omega,hp, .inr ⟨by omega,hs⟩⟩
   obtain⟨m1,m2,m3,m4⟩:=hm;have hml:=m3.length_eq;refine⟨trivial,trivial,⟨hok,m1,m2,by omega,by omega⟩, ?_⟩;rintro r ⟨o,_⟩ _ _ _ ⟨o1,o2,o3,o4⟩;simp only at o1 o2 o3 o4⊢;have hol:=o1.length_eq;have hso:Pu φ o:=by
    rcases m4 with m4| ⟨m4,m5⟩
    . change Pu φ ((o.drop a.toNat).take (n.toNat-a.toNat))at o4;rw[m4]at o4;change Pu φ ((o.drop 0).take (n.toNat-0))at o4;rw[List.drop_zero,List.take_of_length_le (by omega)]at o4;exact o4
    . rw[List.take_of_length_le (by omega),List.take_of_length_le (by omega)]at o2;rw[o2];exact m5
   refine⟨fun p=>p.1=20/\p.2.1.Perm l/\Pu φ p.2.1,fun _=>0,⟨rfl,o1.trans m3,hso⟩, ?_⟩;rintro⟨k,z,_⟩ _ ⟨k1,k2,k3⟩;simp only at k1 k2 k3⊢;subst k1;refine⟨fun hk=> ?_,fun _=>⟨trivial,k2,k3⟩⟩;have hk:=of_decide_eq_true hk;omega
theorem X6 (x:A5 E7.args) (hw:awf E7.args x) (hp:E7.pre x):N3 x:=by
 obtain⟨l,⟨ok,φ⟩,_⟩:=x;obtain⟨hok,hl⟩:Re ok φ/\l.length<=20:=hp;simp only[N3];refine⟨trivial,trivial,⟨hok,trivial,hl⟩, ?_⟩;rintro r ⟨o,_⟩ _ _ _ h;exact⟨trivial,h⟩
theorem YJ:Re (fun _=>True) (fun z=>Cb z.1.1 z.2.1.1):=by
 refine⟨fun _ _=>trivial,fun a b c=> ?_,fun a b=> ?_⟩
 . simp only[Cb];split<;>split<;>split<;>(try split)<;>(try split)<;>(try split)<;>omega
 . simp only[Cb];split<;>split<;>(try split)<;>(try split)<;>omega
theorem jS {a b:Int} :¬Cb a b<0↔b<=a:=by
 unfold Cb;split
 . omega
 . split<;>omega
theorem Sz (x:A5 U5.args) (hw:awf U5.args x) (hp:U5.pre x):Jv x:=by
 obtain⟨l,_⟩:=x;have hlm:Xe l:=Nc hw.1.2;change List F8 at l;have hp:dF l:=hp;simp only[Jv];refine⟨trivial, ?_⟩;rintro⟨r,_⟩ _ hr;simp only at hr⊢;subst hr;refine⟨fun h=>⟨fun _=>by trivial,fun h2=>absurd (of_decide_eq_true h) h2⟩,fun h=> ?_⟩;have hna:=of_decide_eq_false h;obtain⟨hl,hz⟩:=hp.resolve_left hna;refine⟨⟨by omega,by omega,by omega,by omega⟩,fun _=>True,fun z=>Cb z.1.1 z.2.1.1, ?_,⟨YJ, ?_⟩, ?_⟩
 . rintro⟨a,b,_⟩ _ _;refine⟨trivial, ?_⟩;rintro⟨z,_⟩ _ hz;exact⟨(by trivial),hz⟩
 . rw[CI];exact hl
 rintro r ⟨o,_⟩ _ _ _ ⟨o1,o2⟩;change List F8 at o;simp only[CI]at o1 o2⊢;have hol:=o1.length_eq;have hso:o.Pairwise fun a b=>a.1<=b.1:=o2.imp fun {a b} hh=>jS.1 hh
 have hzo:EJ 65536 o:=fun e he=>hz e (o1.mem_iff.1 he)
 have hlo:Xe o:=fun e he=>hlm e (o1.mem_iff.1 he)
 refine⟨fun p=>BM o p.1 p.2.1 p.2.2.1,fun p=>((o.length:Int)-p.2.1).toNat,BM.init o, ?_⟩;rintro⟨n,i,c,_⟩ _ hI;change Int at n i;change List F8 at c;simp only at hI⊢;have h0:=hI.n0;have h1:=hI.ni;have h2:=hI.il;have hcl:=hI.cl;have hclI:(c.length:Int)=(o.length:Int):=by rw[hcl]
 refine⟨fun hi=> ?_,fun hi=> ?_⟩
 . have hi:=of_decide_eq_true hi;have hce:c.getD i.toNat C8=o.getD i.toNat C8:=hI.rest _ (Nat.le_refl _);have hic:0<=i/\i<(c.length:Int):=⟨by omega,by rw[hclI];exact hi⟩;have hn1:IntKind.i64.wrap (n-1)=n-1:=wr (by omega) (by omega);rw[hn1,hce];refine⟨fun p=>BM o p.1 (i+1) p.2.1,⟨hic,fun hh=> ?_,fun hh=> ?_,fun hh=> ?_⟩, ?_⟩
   . have hh:=of_decide_eq_true hh;exact⟨by omega,by rw[hclI];omega⟩
   . rw[J1]at hh;simp only[Bool.and_eq_true,decide_eq_true_eq]at hh;obtain⟨g1,g2⟩:=hh;have hnr:0<=n-1/\n-1<(c.length:Int):=⟨by omega,by rw[hclI];omega⟩;obtain⟨z1,z2,z3⟩:=hI.add hzo hlo hi g1 g2;refine⟨hnr,⟨Er (Nw z1 (show 65537*i.toNat<=2199023255552 by omega)) (Nat.le_refl _),Er z2 (by decide)⟩, ?_⟩;rintro⟨q,_⟩ _ hq;change G3 at q;simp only at hq⊢;rw[hq];exact⟨hnr,z3⟩
   . have hne:0<n->(c.getD (n-1).toNat C8).1≠(o.getD i.toNat C8).1:=fun hn he=>by
      rw[J1,decide_eq_true hn,decide_eq_true he]at hh;cases hh
     rw[wr (by omega) (by omega)];exact⟨⟨by omega,by rw[hclI];omega⟩,hI.push hso hzo hlo hi hne⟩
   . rintro⟨n',c',_⟩ _ hI';simp only;rw[wr (by omega) (by omega)];exact⟨hI',by omega⟩
 . have hi:=of_decide_eq_false hi;have hio:i=(o.length:Int):=by omega
   refine⟨⟨Int.le_refl _,h0,by rw[hclI];omega⟩,fun h=>absurd h hna,fun _=> ?_⟩;have e1:List.drop (Int.toNat 0) (List.take n.toNat c)=c.take n.toNat:=rfl;rw[e1];refine⟨hI.ord,fun j=> ?_, ?_,fun e he=>Nw (hI.szs e he).1 (by omega)⟩
   . rw[hI.cm,F6 (by omega)];exact aR o1 j
   . rw[List.length_take];omega
def Mp:An:= {loop:= [(6,⟨[1,2,7,8],[1],[(9,false,[.own (.int .i64) 3]),(10,false,[.own (.int .i64) 3]),(11,false,[.val (.int .i64)])],[(0,63,[.val (.sl (.int .i64)), .val (.int .i64)])],[]⟩)]}
def Dr:A5 G6.args->Prop:=fun(x:List Int×List Int×List Int×Unit)=>True/\∀(r:(List Int×Int)×Unit),(WfI r.1.1/\L4 r.1.2)/\True->r.1=(x.1,(0:Int))->((0:Int)<(6:Int)/\0<=r.1.2/\r.1.2<=(r.1.1.length:Int))/\∀(k:Int×Unit) (o:(List Int×Int)×Unit),L4 k.1/\True->((Ty.int IntKind.i64).sl.pair (Ty.int IntKind.i64)).wf o.1/\True->0<=k.1/\k.1<6->o.1.1=r.1.1/\0<=o.1.2/\o.1.2<=(r.1.1.length:Int)->((0:Int)<(6:Int)/\0<=o.1.2/\o.1.2<=(o.1.1.length:Int))/\∀(r:Int×Unit) (g:(List Int×Int)×Unit),L4 r.1/\True->((Ty.int IntKind.i64).sl.pair (Ty.int IntKind.i64)).wf g.1/\True->0<=r.1/\r.1<6->g.1.1=o.1.1/\0<=g.1.2/\g.1.2<=(o.1.1.length:Int)->(0<=k.1/\k.1<=20/\0<=r.1/\r.1<=20/\0<=g.1.2/\g.1.2<=(g.1.1.length:Int))/\∀(a:MM×Unit) (o:(List Int×Int)×Unit),SF a.1/\True->((Ty.int IntKind.i64).sl.pair (Ty.int IntKind.i64)).wf o.1/\True->A2n (Int.toNat k.1) (Int.toNat r.1) a.1->o.1.1=g.1.1/\0<=o.1.2/\o.1.2<=(g.1.1.length:Int)->(0:Int)<=(20:Int)/\∀(r:List Int×Unit),WfI r.1/\True->r.1=List.take (Int.toNat (20:Int)) x.2.1->(0:Int)<=(20:Int)/\∀(c:List Int×Unit),WfI c.1/\True->c.1=List.take (Int.toNat (20:Int)) x.2.2.1->((0:Int)<(7:Int)/\0<=o.1.2/\o.1.2<=(o.1.1.length:Int))/\∀(n:Int×Unit) (l:(List Int×Int)×Unit),L4 n.1/\True->((Ty.int IntKind.i64).sl.pair (Ty.int IntKind.i64)).wf l.1/\True->0<=n.1/\n.1<7->l.1.1=o.1.1/\0<=l.1.2/\l.1.2<=(o.1.1.length:Int)->∃(I:List Int×List Int×Int×List Int×Int×Unit->Prop),∃(μ:List Int×List Int×Int×List Int×Int×Unit->Nat),I ([],[],n.1,l.1.1,l.1.2,())/\∀(p:List Int×List Int×Int×List Int×Int×Unit),(Ty.int IntKind.i64).sl.wf p.1/\(Ty.int IntKind.i64).sl.wf p.2.1/\(Ty.int IntKind.i64).wf p.2.2.1/\(Ty.int IntKind.i64).sl.wf p.2.2.2.1/\(Ty.int IntKind.i64).wf p.2.2.2.2.1/\True->I p->(decide (0<p.2.2.1)=true->((0:Int)<(6:Int)/\0<=p.2.2.2.2.1/\p.2.2.2.2.1<=(p.2.2.2.1.length:Int))/\∀(r:Int×Unit) (o:(List Int×Int)×Unit),L4 r.1/\True->((Ty.int IntKind.i64).sl.pair (Ty.int IntKind.i64)).wf o.1/\True->0<=r.1/\r.1<6->o.1.1=p.2.2.2.1/\0<=o.1.2/\o.1.2<=(p.2.2.2.1.length:Int)->((p.1.length+ [r.1].length)*(8:Nat)<=(140737488355328:Nat)/\p.1.length+ [r.1].length<=9223372036854775807)/\((0:Int)<(7:Int)/\0<=o.1.2/\o.1.2<=(o.1.1.length:Int))/\∀(b:Int×Unit) (h:(List Int×Int)×Unit),L4 b.1/\True->((Ty.int IntKind.i64).sl.pair (Ty.int IntKind.i64)).wf h.1/\True->0<=b.1/\b.1<7->h.1.1=o.1.1/\0<=h.1.2/\h.1.2<=(o.1.1.length:Int)->((p.2.1.length+ [b.1].length)*(8:Nat)<=(140737488355328:Nat)/\p.2.1.length+ [b.1].length<=9223372036854775807)/\I (p.1++ [r.1],p.2.1++ [b.1],IntKind.i64.wrap (p.2.2.1-1),h.1.1,h.1.2,())/\μ (p.1++ [r.1],p.2.1++ [b.1],IntKind.i64.wrap (p.2.2.1-1),h.1.1,h.1.2,())<μ p)/\(decide (0<p.2.2.1)=false->(Gu K1 a.1/\List.length r.1<=1000/\List.length c.1<=1000)/\∀(b:MM×Int×Unit),SF b.1/\L4 b.2.1/\True->(¬C3 a.1->b.1=zm/\b.2.1=1)/\(C3 a.1->(((∃(i:Int),i∈r.1/\(i<(0:Int)\/a.1.1<=i))\/∃(i:Int),i∈c.1/\(i<(0:Int)\/a.1.2.1<=i))->b.1=zm/\b.2.1=3)/\(¬((∃(i:Int),i∈r.1/\(i<(0:Int)\/a.1.1<=i))\/∃(i:Int),i∈c.1/\(i<(0:Int)\/a.1.2.1<=i))->((16384:Nat)<List.length r.1\/(16384:Nat)<List.length c.1->b.1=zm/\b.2.1=8)/\(List.length r.1<=16384/\List.length c.1<=16384->Em (List.length r.1) (List.length c.1) (fun(i j:Nat)=>el a.1 (List.getD r.1 i (0:Int)).toNat (List.getD c.1 j (0:Int)).toNat) b.1/\b.2.1=0)))->(Gu K1 a.1/\List.length r.1<=1000/\List.length c.1<=1000)/\∀(d:MM×Int×Unit),SF d.1/\L4 d.2.1/\True->(¬C3 a.1->d.1=zm/\d.2.1=1)/\(C3 a.1->(((∃(i:Int),i∈r.1/\(i<(0:Int)\/a.1.1<=i))\/∃(i:Int),i∈c.1/\(i<(0:Int)\/a.1.2.1<=i))->d.1=zm/\d.2.1=3)/\(¬((∃(i:Int),i∈r.1/\(i<(0:Int)\/a.1.1<=i))\/∃(i:Int),i∈c.1/\(i<(0:Int)\/a.1.2.1<=i))->((16384:Nat)<List.length r.1\/(16384:Nat)<List.length c.1->d.1=zm/\d.2.1=8)/\(List.length r.1<=16384/\List.length c.1<=16384->Em (List.length r.1) (List.length c.1) (fun(i j:Nat)=>el a.1 (List.getD r.1 i (0:Int)).toNat (List.getD c.1 j (0:Int)).toNat) d.1/\d.2.1=0)))->(Gu K1 a.1/\p.1.length<=(1000:Nat)/\p.2.1.length<=(1000:Nat))/\∀(r:MM×Int×Unit),SF r.1/\L4 r.2.1/\True->(¬C3 a.1->r.1=zm/\r.2.1=1)/\(C3 a.1->(((∃(i:Int),i∈p.1/\(i<(0:Int)\/a.1.1<=i))\/∃(i:Int),i∈p.2.1/\(i<(0:Int)\/a.1.2.1<=i))->r.1=zm/\r.2.1=3)/\(¬((∃(i:Int),i∈p.1/\(i<(0:Int)\/a.1.1<=i))\/∃(i:Int),i∈p.2.1/\(i<(0:Int)\/a.1.2.1<=i))->(16384<p.1.length\/16384<p.2.1.length->r.1=zm/\r.2.1=8)/\(p.1.length<=(16384:Nat)/\p.2.1.length<=(16384:Nat)->Em p.1.length p.2.1.length (fun(i j:Nat)=>el a.1 (p.1.getD i (0:Int)).toNat (p.2.1.getD j (0:Int)).toNat) r.1/\r.2.1=0)))->(Gu K1 a.1/\p.1.length<=(1000:Nat)/\p.2.1.length<=(1000:Nat))/\∀(f:MM×Int×Unit),SF f.1/\L4 f.2.1/\True->(¬C3 a.1->f.1=zm/\f.2.1=1)/\(C3 a.1->(((∃(i:Int),i∈p.1/\(i<(0:Int)\/a.1.1<=i))\/∃(i:Int),i∈p.2.1/\(i<(0:Int)\/a.1.2.1<=i))->f.1=zm/\f.2.1=3)/\(¬((∃(i:Int),i∈p.1/\(i<(0:Int)\/a.1.1<=i))\/∃(i:Int),i∈p.2.1/\(i<(0:Int)\/a.1.2.1<=i))->(16384<p.1.length\/16384<p.2.1.length->f.1=zm/\f.2.1=8)/\(p.1.length<=(16384:Nat)/\p.2.1.length<=(16384:Nat)->Em p.1.length p.2.1.length (fun(i j:Nat)=>el a.1 (p.1.getD i (0:Int)).toNat (p.2.1.getD j (0:Int)).toNat) f.1/\f.2.1=0)))->True/\∀(m:Bool×Unit),True/\True->m.1=true->(m.1=true->Gu K1 b.1)/\∀(q:Bool×Unit),(m.1=true->(True/\True)/\(q.1=true↔b.2.1=d.2.1/\b.1=d.1/\∀(v:List EE),v∈b.1.2.2->∀(e:EE),e∈v->e.2=rc (rv e.2)))->(E5 m.1 q.1 false=true->Gu K1 r.1)/\∀(s:Bool×Unit),(E5 m.1 q.1 false=true->(True/\True)/\(s.1=true↔r.2.1=f.2.1/\r.1=f.1/\∀(v:List EE),v∈r.1.2.2->∀(e:EE),e∈v->e.2=rc (rv e.2)))->E5 (E5 m.1 q.1 false) s.1 false=true)
theorem ZA {m:Bc} {a b:List Int} (hv:C3 m) (hq:∀i j,i<m.1.toNat->j<m.2.1.toNat->qs K1 (el m i j)) (ha:a.length<=1000) (hb:b.length<=1000) {X Y:Bc} {e f:Int}
 (hX:(((∃i,i∈a/\(i<0\/m.1<=i))\/∃i,i∈b/\(i<0\/m.2.1<=i))->X=zm/\e=3)/\(¬((∃i,i∈a/\(i<0\/m.1<=i))\/∃i,i∈b/\(i<0\/m.2.1<=i))->((16384<a.length\/16384<b.length)->X=zm/\e=8)/\(a.length<=16384/\b.length<=16384->Em a.length b.length (fun i j=>el m (a.getD i 0).toNat (b.getD j 0).toNat) X/\e=0)))
 (hY:(((∃i,i∈a/\(i<0\/m.1<=i))\/∃i,i∈b/\(i<0\/m.2.1<=i))->Y=zm/\f=3)/\(¬((∃i,i∈a/\(i<0\/m.1<=i))\/∃i,i∈b/\(i<0\/m.2.1<=i))->((16384<a.length\/16384<b.length)->Y=zm/\f=8)/\(a.length<=16384/\b.length<=16384->Em a.length b.length (fun i j=>el m (a.getD i 0).toNat (b.getD j 0).toNat) Y/\f=0))):
 Gu K1 X/\e=f/\X=Y/\∀v∈X.2.2,∀g∈v,g.2=rc (rv g.2):=by
 have rng:∀ {l:List Int} {n:Int} {i:Nat},i<l.length->¬(∃i,i∈l/\(i<0\/n<=i))->(l.getD i 0).toNat<n.toNat:=fun {l n i} hi hn=>by
  have hm:l.getD i 0∈l:=K4 hi;have:¬(l.getD i 0<0\/n<=l.getD i 0):=fun hh=>hn ⟨_,hm,hh⟩
  omega
 by_cases h:(∃i,i∈a/\(i<0\/m.1<=i))\/∃i,i∈b/\(i<0\/m.2.1<=i)
 . obtain⟨rfl,rfl⟩:=hX.1 h;obtain⟨rfl,rfl⟩:=hY.1 h;exact⟨fun v hv=>(by cases hv),rfl,rfl,fun v hv=>(by cases hv)⟩
 . obtain⟨x1,rfl⟩:=(hX.2 h).2 ⟨by omega,by omega⟩;obtain⟨y1,rfl⟩:=(hY.2 h).2 ⟨by omega,by omega⟩;refine⟨bG x1 (by decide) fun i j hi hj=>hq _ _ (rng hi fun hh=>h (.inl hh)) (rng hj fun hh=>h (.inr hh)),rfl,HH x1 y1 fun _ _ _ _=>rfl,fun v hv g hg=> ?_⟩;obtain⟨i,hi,rfl⟩:=Qy [] hv;rw[x1.2.2.1]at hi;exact((x1.2.2.2 i hi).1.2 g hg).2
theorem Iw (x:A5 G6.args) (hw:awf G6.args x) (hp:G6.pre x):Dr x:=by
 obtain⟨ch,a,b,_⟩:=x;have hcl:ch.length<=9223372036854775807:=hw.1.1;change List Int at ch a b;simp only[Dr];refine⟨trivial, ?_⟩;rintro⟨⟨tl,tp⟩,_⟩ _ ht;cases ht;simp only;refine⟨⟨by decide,Int.le_refl _,Int.natCast_nonneg _⟩, ?_⟩;rintro⟨R,_⟩ ⟨⟨l1,p1⟩,_⟩ _ _ ⟨R0,R1⟩ ⟨h1,h2,h3⟩;change Int at R;change Int at p1;change List Int at l1;simp only at R0 R1 h1 h2 h3⊢;subst h1;refine⟨⟨by decide,h2,h3⟩, ?_⟩;rintro⟨C,_⟩ ⟨⟨l2,p2⟩,_⟩ _ _ ⟨C0,C1⟩ ⟨h1,h2,h3⟩;change Int at C;change Int at p2;change List Int at l2;simp only at C0 C1 h1 h2 h3⊢;subst h1;refine⟨⟨R0,by omega,C0,by omega,h2,h3⟩, ?_⟩;rintro⟨m,_⟩ ⟨⟨l3,p3⟩,_⟩ _ _ hm ⟨h1,h2,h3⟩;change Bc at m;change Int at p3;change List Int at l3;simp only at hm h1 h2 h3⊢;subst h1;obtain⟨φ,hφ,hmM⟩:=hm;have hv:C3 m:=La hmM (by omega) (by omega);have hok:Gu K1 m:=bG hmM (by decide) fun i j _ _=>Gk (hφ i j) (by decide)
 have hq:∀i j,i<m.1.toNat->j<m.2.1.toNat->qs K1 (el m i j):=fun i j hi hj=>by
  rw[Ka hmM (by rw[hmM.1]at hi;omega) (by rw[hmM.2.1]at hj;omega)];exact Gk (hφ i j) (by decide)
 refine⟨by decide, ?_⟩;rintro⟨a',_⟩ _ ha;change List Int at a';simp only at ha⊢;have hal:a'.length<=1000:=by rw[ha,List.length_take];exact Nat.le_trans (Nat.min_le_left _ _) (by decide)
 refine⟨by decide, ?_⟩;rintro⟨b',_⟩ _ hb;change List Int at b';simp only at hb⊢;have hbl:b'.length<=1000:=by rw[hb,List.length_take];exact Nat.le_trans (Nat.min_le_left _ _) (by decide)
 clear ha hb;refine⟨⟨by decide,h2,h3⟩, ?_⟩;rintro⟨n,_⟩ ⟨⟨l4,p4⟩,_⟩ _ _ ⟨n0,n1⟩ ⟨h1,h2,h3⟩;change Int at n;change Int at p4;change List Int at l4;simp only at n0 n1 h1 h2 h3⊢;subst h1;refine⟨fun p=>0<=p.2.2.1/\(p.1.length:Int)+p.2.2.1<=7/\p.2.1.length=p.1.length/\p.2.2.2.1=l4/\0<=p.2.2.2.2.1/\p.2.2.2.2.1<=(l4.length:Int),fun p=>p.2.2.1.toNat,⟨n0,by simp only[List.length_nil];omega,rfl,rfl,h2,h3⟩, ?_⟩;rintro⟨r,c,i,l5,p5,_⟩ _ ⟨i0,i1,hrc,h1,h2,h3⟩;change List Int at r c;change Int at i p5;change List Int at l5;simp only at i0 i1 hrc h1 h2 h3⊢;subst h1;refine⟨fun hi=> ?_,fun hi=> ?_⟩
 . have hi:=of_decide_eq_true hi;refine⟨⟨by decide,h2,h3⟩, ?_⟩;rintro⟨u,_⟩ ⟨⟨l6,p6⟩,_⟩ _ _ _ ⟨h1,h2,h3⟩;change Int at p6;change List Int at l6;simp only at h1 h2 h3⊢;subst h1;refine⟨⟨by simp only[List.length_singleton];omega,by simp only[List.length_singleton];omega⟩,⟨by decide,h2,h3⟩, ?_⟩;rintro⟨u',_⟩ ⟨⟨l7,p7⟩,_⟩ _ _ _ ⟨h1,h2,h3⟩;change Int at p7;change List Int at l7;simp only at h1 h2 h3⊢;subst h1;rw[wr (by omega) (by omega)];refine⟨⟨by simp only[List.length_singleton];omega,by simp only[List.length_singleton];omega⟩,⟨by omega, ?_, ?_,rfl,h2,h3⟩,by omega⟩
   . simp only[List.length_append,List.length_singleton];omega
   . simp only[List.length_append,List.length_singleton];omega
 have hi:=of_decide_eq_false hi;have hrl:r.length<=1000:=by omega
 have hcl2:c.length<=1000:=by omega
 refine⟨⟨hok,hal,hbl⟩, ?_⟩;rintro⟨X,e,_⟩ _ ⟨_,hX⟩;change Bc at X;change Int at e;simp only at hX⊢;refine⟨⟨hok,hal,hbl⟩, ?_⟩;rintro⟨Y,f,_⟩ _ ⟨_,hY⟩;change Bc at Y;change Int at f;simp only at hY⊢;refine⟨⟨hok,hrl,hcl2⟩, ?_⟩;rintro⟨U,g,_⟩ _ ⟨_,hU⟩;change Bc at U;change Int at g;simp only at hU⊢;refine⟨⟨hok,hrl,hcl2⟩, ?_⟩;rintro⟨V,h,_⟩ _ ⟨_,hV⟩;change Bc at V;change Int at h;simp only at hV⊢;obtain⟨s1,s2⟩:=ZA hv hq hal hbl (hX hv) (hY hv);obtain⟨t1,t2⟩:=ZA hv hq hrl hcl2 (hU hv) (hV hv);refine⟨trivial, ?_⟩;rintro⟨w,_⟩ _ hww;change Bool at w;simp only at hww⊢;subst hww;refine⟨fun _=>s1, ?_⟩;rintro⟨y,_⟩ hy;change Bool at y;simp only at hy⊢;have hy:y=true:=(hy trivial).2.2 s2;subst hy;refine⟨fun _=>t1, ?_⟩;rintro⟨z,_⟩ hz;change Bool at z;simp only at hz⊢;have hz:z=true:=(hz (by decide)).2.2 t2;subst hz;decide
end Go.Proofs.YtdlnpbmmdnmkaaaGreat
namespace Go.Vc
open Go Go.RowKit Go.Gw Go.Shelf
structure El (t:Ty) (w:World) (Z:Nat->Prop) where
 c:List Value
 v:t.den
 h:C7 t w Z c v
theorem WL {t:Ty} {w:World} {Z:Nat->Prop} :∀ {l:List t.den} {xs:List Value},F2 (C7 t w Z) xs l->∃L:List (El t w Z),L.flatMap El.c=xs/\L.map El.v=l
 | [],_,h=>⟨[],h.symm,rfl⟩
 |x::l,_,⟨c1,c2,e,h1,h2⟩=>by
  obtain⟨L,i1,i2⟩:=WL h2;exact⟨⟨c1,x,h1⟩::L,by rw[List.flatMap_cons,i1,e],by rw[List.map_cons,i2]⟩
theorem WM {t:Ty} {w w':World} {Z Z':Nat->Prop} (hm:∀c x,C7 t w Z c x->C7 t w' Z' c x):∀L:List (El t w Z),F2 (C7 t w' Z') (L.flatMap El.c) (L.map El.v)
 | []=>rfl
 |p::L=>⟨p.c,L.flatMap El.c,rfl,hm _ _ p.h,WM hm L⟩
theorem WV {α:Type} {enc:α->List Value} {k:Nat} (hk:∀x,(enc x).length=k):∀(L:List α) (i r:Nat) {x:α},L[i]? =some x->r<k->(L.flatMap enc)[i*k+r]? =(enc x)[r]?
 | [],_,_,_,h,_=>by cases h
 |y::L,0,r,x,h,hr=>by
  simp only[List.getElem?_cons_zero,Option.some.injEq]at h;subst h;rw[List.flatMap_cons,Nat.zero_mul,Nat.zero_add,List.getElem?_append_left (by rw[hk];exact hr)]
 |y::L,i+1,r,x,h,hr=>by
  rw[List.getElem?_cons_succ]at h;have e:(i+1)*k+r-k=i*k+r:=by rw[Nat.succ_mul];omega
  rw[List.flatMap_cons,List.getElem?_append_right (by rw[hk,Nat.succ_mul];omega),hk,e];exact WV hk L i r h hr
theorem WW {α:Type} {enc:α->List Value} {k:Nat} (hk:∀x,(enc x).length=k):∀L:List α,(L.flatMap enc).length=L.length*k
 | []=>by simp
 |x::L=>by rw[List.flatMap_cons,List.length_append,WW hk L,hk,List.length_cons,Nat.succ_mul];omega
theorem WU {α:Type} [Inhabited α] {enc:α->List Value} {k:Nat} (hk:∀x,(enc x).length=k) (d:Array α) {j:Nat} (hj:j<d.size*k):(d.toList.flatMap enc)[j]? =some (Go.Sort.flatK enc k d)[j]!:=by
 have hk0:0<k:=by
  rcases Nat.eq_zero_or_pos k with h|h
  . rw[h,Nat.mul_zero]at hj;omega
  . exact h
 have hi:j/k<d.size:=(Nat.div_lt_iff_lt_mul hk0).2 hj;have hr:j%k<k:=Nat.mod_lt _ hk0;have e:j=j/k*k+j%k:=by rw[Nat.mul_comm];exact(Nat.div_add_mod j k).symm
 rw[Go.Sort.get_flatK enc k d j hj];have hx:d.toList[j/k]? =some d[j/k]!:=by
  rw[Array.getElem?_toList,Array.getElem?_eq_getElem hi,getElem!_pos d _ hi]
 have:=WV hk d.toList (j/k) (j%k) hx hr;rw[<-e]at this;have hl:j%k<(enc d[j/k]!).length:=by rw[hk];exact hr
 rw[this,List.getElem?_eq_getElem hl,getElem!_pos (enc d[j/k]!) (j%k) hl]
theorem hO {F cur:Array Value} {n:Nat} {xs:List Value} (hx:xs.length=n) (hF:F.size=n) (hn:n<=cur.size) (h:∀j,j<n->xs[j]? =some F[j]!):(Go.Sort.putCells id 0 F cur).size=cur.size/\(Go.Sort.putCells id 0 F cur).toList.take n=xs:=by
 refine⟨by simp[Go.Sort.putCells], ?_⟩;apply List.ext_getElem?;intro j;by_cases hj:j<n
 . rw[List.getElem?_take_of_lt hj,h j hj,Array.getElem?_toList];unfold Go.Sort.putCells;rw[Array.getElem?_mapIdx,Array.getElem?_eq_getElem (by omega)];simp only[Option.map_some];rw[if_pos ⟨Nat.zero_le _,by omega⟩];rfl
 . rw[List.getElem?_eq_none (by simp;omega),List.getElem?_eq_none (by omega)]
theorem nA {α:Type} [Inhabited α] {d d':Array α} (h:Go.Sort.PermIn 0 d.size d d'):d'.toList.Perm d.toList:=by
 obtain⟨h1,_,h3⟩:=h;rw[Array.toList_extract,Array.toList_extract]at h3;simpa[List.extract_eq_take_drop,List.take_of_length_le,h1]using h3
theorem cO {α:Type} [Inhabited α] {lt:α->α->Bool} {d':Array α} {n:Nat} (hn:d'.size=n) (h:Go.Sort.SortedIn lt 0 n d'):d'.toList.Pairwise fun a b=>lt b a=false:=by
 rw[List.pairwise_iff_getElem];intro i j hi hj hij;have hi':i<d'.size:=by simpa using hi
 have hj':j<d'.size:=by simpa using hj
 have:=h i j (Nat.zero_le _) hij (by omega);rw[getElem!_pos d' i hi',getElem!_pos d' j hj']at this;simpa using this
theorem A0o {w:World} {b m:Nat} {f:Array Value->Array Value} {os:Array Obj} :w.heap.size<=(Go.Sort.grow (Go.Sort.mapBlock (Go.Sort.ahead w m) b f) os).heap.size:=by
 simp[Go.Sort.grow,Go.Sort.mapBlock,Go.Sort.ahead]
theorem ZH {w:World} {b m j:Nat} {f:Array Value->Array Value} {os:Array Obj} (hj:j<w.heap.size) (hne:j≠b):(Go.Sort.grow (Go.Sort.mapBlock (Go.Sort.ahead w m) b f) os).heap[j]? =w.heap[j]?:=by
 rw[Go.Sort.heap_grow_old _ _ (by simpa[Go.Sort.mapBlock,Go.Sort.ahead]using hj)];unfold Go.Sort.mapBlock;simp only;rw[Array.getElem?_modify,if_neg (Ne.symm hne)];rfl
theorem A0n {w:World} {b m:Nat} {f:Array Value->Array Value} {os:Array Obj} {cur:Array Value} {e:TypeId} (hh:w.heap[b]? =some (.cells cur e (0,0))):(Go.Sort.grow (Go.Sort.mapBlock (Go.Sort.ahead w m) b f) os).heap[b]? =some (.cells (f cur) e (0,0)):=by
 have hj:b<w.heap.size:=(Array.getElem?_eq_some_iff.1 hh).1;rw[Go.Sort.heap_grow_old _ _ (by simpa[Go.Sort.mapBlock,Go.Sort.ahead]using hj)];unfold Go.Sort.mapBlock;simp only;rw[Array.getElem?_modify,if_pos rfl];have:(Go.Sort.ahead w m).heap[b]? =some (.cells cur e (0,0)):=hh;rw[this];rfl
theorem Mu {P:Program} {f:FuncId} (he:Cq P f=true) (args:Array Value) (w:World):(callFunc f args).run P w= .ok (.enter f args) w:=by
 unfold Cq at he;split at he
 . rename_i fn hfn;simp only[Bool.and_eq_true,Bool.not_eq_true']at he;have h2:¬fn.body=none:=by intro hb;rw[hb]at he;simp at he
   have h1:¬fn.name= "runtime.NumGoroutine" :=by simpa using he.1
   simp[callFunc,hfn,h1,h2,go_sem]
 . cases he
theorem A0p {α β:Type} {φ:α->α->Int} (v:β->α) (h1:∀a,¬φ a a<0) (h2:∀a b c,φ a b<0->φ b c<0->φ a c<0) (h3:∀a b c,¬φ a b<0->¬φ b c<0->¬φ a c<0):
 Go.Sort.SWO (Go.Proofs.ltOf fun x y:β=>φ (v x) (v y)):=by
 refine⟨fun x=> ?_,fun x y z h h'=> ?_,fun x y z h h'=> ?_⟩
 . exact decide_eq_false (h1 _)
 . exact decide_eq_true (h2 _ _ _ (of_decide_eq_true h) (of_decide_eq_true h'))
 . exact decide_eq_false (h3 _ _ _ (of_decide_eq_false h) (of_decide_eq_false h'))
theorem iL {t:Ty} {φ:t.den->t.den->Int} {e:TypeId} {w w':World} {Z:Nat->Prop} {fv:Value} {g cap:Nat} {cur F:Array Value} {k:Nat} {x:List t.den} {L L':List (El t w Z)}
 (hZ:∀b,Z b->b<w.heap.size) (hgZ:¬Z g) (hk:t.size=k)
 (hheap:w.heap[g]? =some (.cells cur e (0,0))) (hcap:L.length<=cap) (hmax:cap<=maxLen) (hcs:cur.size=cap*k) (hLx:L.map El.v=x)
 (hp:L'.Perm L) (hs:L'.Pairwise fun a b=>¬φ b.v a.v<0)
 (hF:F.size=L.length*k) (hFx:∀j,j<L.length*k->(L'.flatMap El.c)[j]? =some F[j]!)
 (hos:w'.os=w.os) (htape:w'.tape=w.tape) (hout:w'.output=w.output) (hsz:w.heap.size<=w'.heap.size)
 (hblk:∀j,j<w.heap.size->j≠g->w'.heap[j]? =w.heap[j]?) (hg:w'.heap[g]? =some (.cells (Go.Sort.putCells id 0 F cur) e (0,0))):
 Bg (YE w (X2 t e φ).args [.slice (some ⟨g,0,none⟩) L.length cap,fv]) w w'/\∃(r:Ba (X2 t e φ).res) (o:Ke (X2 t e φ).args) (us:List Value) (Zn:Nat->Prop),(X2 t e φ).post (x,()) r/\(L2 (X2 t e φ).args=true->(X2 t e φ).mpost (x,()) r o)/\Value.tuple #[]=Oi us/\(∀b,Zn b->(w.heap.size<=b/\b<w'.heap.size)\/((X2 t e φ).shared=true/\Z b))/\Ix w.heap.size w' Zn (X2 t e φ).res us r/\Pb w w' Zn (X2 t e φ).args [.slice (some ⟨g,0,none⟩) L.length cap,fv] o:=by
 have hlen:L'.length=L.length:=hp.length_eq;have hc:∀p:El t w Z,p.c.length=k:=fun p=>by rw[<-hk];exact C7.length p.h
 have hxl:(L'.flatMap El.c).length=L.length*k:=by rw[WW hc,hlen]
 obtain⟨p1,p2⟩:=hO hxl hF (by rw[hcs];exact Nat.mul_le_mul_right _ hcap) hFx;have hsame:I6 Z w w':=fun b hb=>hblk b (hZ b hb) (fun e=>hgZ (e▸hb))
 refine⟨⟨hos,htape,hout,hsz,fun j hj hm=>hblk j hj (fun ej=>hm ?_),trivial⟩,(),(L'.map El.v,()),[],Z,trivial,fun _=>⟨?_, ?_⟩,rfl,fun b hb=> .inr ⟨rfl,hb⟩,rfl, ?_⟩
 . subst ej;refine⟨(.row t e, .slice (some ⟨j,0,none⟩) L.length cap),List.mem_cons_self, ?_⟩;rfl
 . rw[<-hLx];exact hp.map _
 . exact List.pairwise_map.2 hs
 . refine⟨⟨L'.flatMap El.c,⟨?_, .inr ⟨g,cap,Go.Sort.putCells id 0 F cur, ?_,Nat.zero_le _,hg, ?_,hmax, ?_, ?_⟩⟩, ?_⟩,trivial⟩
   . simp only[List.length_map];rw[hxl,hlen,hk]
   . simp only[List.length_map,hlen]
   . simp only[List.length_map,hlen];exact hcap
   . rw[p1,hcs,hk]
   . simp only[List.length_map,hlen,hk];exact p2
   . refine WM (fun c y hy=> ?_) L';exact C7.mono (fun b hb=>hb) hsame hy
def A0w (P:Program) (g:FuncId) (t:Ty) (φ:t.den->t.den->Int):Prop:=
 ∀(w:World) (Z:Nat->Prop) (c1 c2:List Value) (x y:t.den),C7 t w Z c1 x->C7 t w Z c2 y->Calls P g #[.agg c1.toArray, .agg c2.toArray] w fun e w'=>e= .returned (.int .i64 (φ x y))/\∃q os,w'=Go.Sort.grow (w.drewN q) os
theorem nO {P:Program} {ρ:Ren} (LL:Go.Proofs.SlLaysF0.n6 P ρ) {t:Ty} {e:TypeId} {g:FuncId} {φ:t.den->t.den->Int} (aE:∀w,(isAgg (ρ.t 24)).run P w= .ok true w) (zE:∀w,(Go.sizeOf (ρ.t 24)).run P w= .ok t.size w)
 (h1:∀a,¬φ a a<0) (h2:∀a b c,φ a b<0->φ b c<0->φ a c<0) (h3:∀a b c,¬φ a b<0->¬φ b c<0->¬φ a c<0) (hen:Cq P g=true) (hcm:A0w P g t φ):dD P (ρ.f 6) g t e φ:=by
 rintro w Z v l hZ ⟨xs,hown,hea,hZv⟩ hlen;obtain⟨L,rfl,rfl⟩:=WL hea;have hL:(L.map El.v).length=L.length:=List.length_map ..;rw[hL]at hown hlen;obtain⟨hxs,hv⟩:=hown;have hnone:∀(p:Option Addr) (cap:Nat),L= []->Gw.NF P (ρ.f 6) [.slice p 0 cap, .func (.func g) #[] #[]] w fun u w'=>u= .tuple #[]/\w'=w:=fun p cap _=>
  Calls.mono (Go.Proofs.AnyF.slices_SortFunc_none LL p cap (.func (.func g) #[] #[]) w) fun _ _ ⟨he,hw⟩=>⟨_,he,rfl,hw⟩
 rcases hv with⟨rfl,hn⟩ | ⟨b,cap,cur,rfl,_,hheap,hcap,hmax,hcs,htake⟩
 . have hL0:L= []:=List.eq_nil_of_length_eq_zero hn;subst hL0;refine(hnone none 0 rfl).mono ?_;rintro _ _ ⟨rfl,rfl⟩;refine⟨Bg.of (N0.refl _),(),([],()),[],(fun _=>False),trivial,fun _=>⟨List.Perm.refl _,List.Pairwise.nil⟩,rfl,fun _ hb=>hb.elim,rfl,⟨⟨[],World.ownsRow_nil _ _ _ _,rfl⟩,trivial⟩⟩
 . have hbZ:¬Z b:=hZv b rfl;have hc:∀p:El t w Z,p.c.length=t.size:=fun p=>C7.length p.h
   have hbl:b<w.heap.size:=(Array.getElem?_eq_some_iff.1 hheap).1;rcases hL0:L with _ | ⟨p0,L0⟩
   . subst hL0;refine(hnone _ cap rfl).mono ?_;rintro _ _ ⟨rfl,rfl⟩;refine⟨Bg.of (N0.refl _),(),([],()),[],(fun _=>False),trivial,fun _=>⟨List.Perm.refl _,List.Pairwise.nil⟩,rfl,fun _ hb=>hb.elim,rfl,⟨⟨[],⟨by simp, .inr ⟨b,cap,cur,rfl,Nat.zero_le _,hheap,hcap,hmax,hcs,by simp⟩⟩,rfl⟩,trivial⟩⟩
   . rw[<-hL0];clear hnone
     haveI:Inhabited (El t w Z):=⟨p0⟩
     have hH:Go.Sort.HoldsK El.c t.size w b 0 L.toArray:=by
      intro j hj;rw[Go.Sort.size_flatK]at hj;have hj':j<L.length*t.size:=by simpa using hj
      have h5:=WU hc L.toArray hj;rw[Nat.zero_add];refine⟨?_, ?_⟩
      . have h6:cur[j]? =some (Go.Sort.flatK El.c t.size L.toArray)[j]!:=by
         rw[<-h5];simp only;rw[<-htake,List.getElem?_take_of_lt hj',Array.getElem?_toList]
        simp only[World.cell?,hheap];exact h6
      . simp[World.frozen?,hheap]
     have hcmp:Go.Proofs.CmpLays P g #[] El.c t.size (fun x y:El t w Z=>φ x.v y.v) b 0 L.toArray.size w:=by
      intro m os dk hdk x y;have hsame:I6 Z w (Go.Proofs.sortWorldK El.c t.size w b 0 m dk os):=by
       intro i hi;have:i≠b:=fun e=>hbZ (e▸hi)
       exact ZH (hZ i hi) this
      exact hcm _ Z x.c y.c x.v y.v (C7.mono (fun _ h=>h) hsame x.h) (C7.mono (fun _ h=>h) hsame y.h)
     have hcall:=Go.Proofs.AnyQ.slices_SortFunc LL t.size aE zE El.c hc (fun x=>C7.oneCell x.h) (fun x y:El t w Z=>φ x.v y.v) (A0p El.v h1 h2 h3) g #[] b 0 cap L.toArray w (Mu hen) hcmp hH hbl (by simp;omega);refine Calls.mono hcall ?_;rintro _ w' ⟨rfl,d',n,os,hperm,hsort,rfl⟩;refine⟨_,rfl, ?_⟩;have hp:=nA hperm;have hs:=cO hperm.1 hsort;have hds:d'.size=L.length:=by rw[hperm.1];simp
     refine iL (k:=t.size) (F:=Go.Sort.flatK El.c t.size d') (L:=L) (L':=d'.toList) (cur:=cur) (x:=L.map El.v) hZ hbZ rfl hheap hcap hmax hcs rfl hp ?_ ?_ ?_ rfl rfl rfl ?_ ?_ ?_
     . exact hs.imp fun h=>of_decide_eq_false h
     . rw[Go.Sort.size_flatK,hds]
     . intro j hj;exact WU hc d' (by rw[hds];exact hj)
     . exact A0o
     . intro i hi hne;exact ZH hi hne
     . exact A0n hheap
end Go.Vc
namespace Go.Proofs
open Go.Shelf
def Tryz.sortEnt_ren:Go.Shelf.Ren:=⟨fun|6=>61|15=>112|14=>111|28=>160|29=>161|20=>152|21=>153|22=>154|23=>155|24=>156|25=>157|26=>158|27=>159|46=>181|47=>182|48=>183|49=>184|50=>185|57=>201|n=>n,fun|22=>65|24=>79|25=>103|3=>3|39=>144|0=>0|53=>127|55=>134|4=>4|46=>167|45=>166|50=>171|5=>5|9=>9|66=>191|70=>195|76=>206|77=>207|n=>n,fun|n=>n⟩
theorem Tryz.sortEnt:Go.Proofs.SlLaysF0.n6 Tryz.prog Tryz.sortEnt_ren:= {
 mixed:=by kernel_rfl
 f6:=⟨Tryz.f61.name,by decide,Tryz.func61.trans (congrArg some (by kernel_rfl))⟩
 f14:=⟨Tryz.f111.name,by decide,Tryz.func111.trans (congrArg some (by kernel_rfl))⟩
 f15:=Tryz.func112.trans (congrArg some (by kernel_rfl))
 f20:=⟨Tryz.f152.name,by decide,Tryz.func152.trans (congrArg some (by kernel_rfl))⟩
 f21:=⟨Tryz.f153.name,by decide,Tryz.func153.trans (congrArg some (by kernel_rfl))⟩
 f22:=⟨Tryz.f154.name,by decide,Tryz.func154.trans (congrArg some (by kernel_rfl))⟩
 f23:=⟨Tryz.f155.name,by decide,Tryz.func155.trans (congrArg some (by kernel_rfl))⟩
 f24:=⟨Tryz.f156.name,by decide,Tryz.func156.trans (congrArg some (by kernel_rfl))⟩
 f25:=⟨Tryz.f157.name,by decide,Tryz.func157.trans (congrArg some (by kernel_rfl))⟩
 f26:=⟨Tryz.f158.name,by decide,Tryz.func158.trans (congrArg some (by kernel_rfl))⟩
 f27:=⟨Tryz.f159.name,by decide,Tryz.func159.trans (congrArg some (by kernel_rfl))⟩
 f28:=Tryz.func160.trans (congrArg some (by kernel_rfl))
 f29:=Tryz.func161.trans (congrArg some (by kernel_rfl))
 f46:=⟨Tryz.f181.name,by decide,Tryz.func181.trans (congrArg some (by kernel_rfl))⟩
 f47:=Tryz.func182.trans (congrArg some (by kernel_rfl))
 f48:=Tryz.func183.trans (congrArg some (by kernel_rfl))
 f49:=⟨Tryz.f184.name,by decide,Tryz.func184.trans (congrArg some (by kernel_rfl))⟩
 f50:=⟨Tryz.f185.name,by decide,Tryz.func185.trans (congrArg some (by kernel_rfl))⟩
 f57:=⟨Tryz.f201.name,by decide,Tryz.func201.trans (congrArg some (by kernel_rfl))⟩
 t0:=Tryz.underlying0
 a0:=Tryz.isAgg0
 z0:=Tryz.sizeOf0
 v0:=Tryz.zeroValue0
 t3:=Tryz.underlying3
 a3:=Tryz.isAgg3
 z3:=Tryz.sizeOf3
 v3:=Tryz.zeroValue3
 t4:=Tryz.underlying4
 a4:=Tryz.isAgg4
 z4:=Tryz.sizeOf4
 v4:=Tryz.zeroValue4
 t5:=Tryz.underlying5
 a5:=Tryz.isAgg5
 z5:=Tryz.sizeOf5
 v5:=Tryz.zeroValue5
 t9:=Tryz.underlying9
 a9:=Tryz.isAgg9
 z9:=Tryz.sizeOf9
 v9:=Tryz.zeroValue9
 t22:=Tryz.underlying65
 a22:=Tryz.isAgg65
 z22:=Tryz.sizeOf65
 v22:=Tryz.zeroValue65
 t25:=Tryz.underlying103
 a25:=Tryz.isAgg103
 z25:=Tryz.sizeOf103
 v25:=Tryz.zeroValue103
 t39:=Tryz.underlying144
 a39:=Tryz.isAgg144
 z39:=Tryz.sizeOf144
 v39:=Tryz.zeroValue144
 t45:=Tryz.underlying166
 a45:=Tryz.isAgg166
 z45:=Tryz.sizeOf166
 v45:=Tryz.zeroValue166
 t46:=Tryz.underlying167
 a46:=Tryz.isAgg167
 z46:=Tryz.sizeOf167
 v46:=Tryz.zeroValue167
 t50:=Tryz.underlying171
 a50:=Tryz.isAgg171
 z50:=Tryz.sizeOf171
 v50:=Tryz.zeroValue171
 t53:=Tryz.underlying127
 a53:=Tryz.isAgg127
 z53:=Tryz.sizeOf127
 v53:=Tryz.zeroValue127
 t55:=Tryz.underlying134
 a55:=Tryz.isAgg134
 z55:=Tryz.sizeOf134
 v55:=Tryz.zeroValue134
 t66:=Tryz.underlying191
 a66:=Tryz.isAgg191
 z66:=Tryz.sizeOf191
 v66:=Tryz.zeroValue191
 t70:=Tryz.underlying195
 a70:=Tryz.isAgg195
 z70:=Tryz.sizeOf195
 v70:=Tryz.zeroValue195
 t76:=Tryz.underlying206
 a76:=Tryz.isAgg206
 z76:=Tryz.sizeOf206
 v76:=Tryz.zeroValue206
 t77:=Tryz.underlying207
 a77:=Tryz.isAgg207
 z77:=Tryz.sizeOf207
 v77:=Tryz.zeroValue207}
def Tryz.sortedInt_ren:Go.Shelf.Ren:=⟨fun|6=>162|8=>186|9=>187|11=>202|13=>112|12=>203|23=>160|24=>161|14=>206|15=>207|16=>208|17=>209|18=>210|19=>211|20=>212|21=>213|22=>214|25=>216|26=>182|27=>183|28=>217|29=>218|30=>113|31=>220|n=>n,fun|26=>3|28=>178|24=>22|0=>0|3=>3|37=>144|48=>127|50=>134|4=>4|40=>167|39=>166|45=>171|5=>5|9=>9|51=>191|55=>195|57=>206|58=>207|33=>98|n=>n,fun|n=>n⟩
theorem Tryz.sortedInt:Go.Proofs.SlLaysZI.n6 Tryz.prog Tryz.sortedInt_ren:= {
 mixed:=by kernel_rfl
 f6:=⟨Tryz.f162.name,by decide,Tryz.func162.trans (congrArg some (by kernel_rfl))⟩
 f8:=⟨Tryz.f186.name,by decide,Tryz.func186.trans (congrArg some (by kernel_rfl))⟩
 f11:=⟨Tryz.f202.name,by decide,Tryz.func202.trans (congrArg some (by kernel_rfl))⟩
 t0:=Tryz.underlying0
 a0:=Tryz.isAgg0
 z0:=Tryz.sizeOf0
 v0:=Tryz.zeroValue0
 t24:=Tryz.underlying22
 a24:=Tryz.isAgg22
 z24:=Tryz.sizeOf22
 v24:=Tryz.zeroValue22
 t26:=Tryz.underlying3
 a26:=Tryz.isAgg3
 z26:=Tryz.sizeOf3
 v26:=Tryz.zeroValue3
 t28:=Tryz.underlying178
 a28:=Tryz.isAgg178
 z28:=Tryz.sizeOf178
 v28:=Tryz.zeroValue178
 i26:=by kernel_rfl}
def Tryz.keysGo_ren:Go.Shelf.Ren:=⟨fun|10=>188|n=>n,fun|33=>98|23=>175|0=>0|4=>4|26=>3|3=>46|n=>n,fun|n=>n⟩
theorem Tryz.keysGo:Go.Proofs.SlLaysZI.n10 Tryz.prog Tryz.keysGo_ren:= {
 mixed:=by kernel_rfl
 f10:=⟨Tryz.f188.name,by decide,Tryz.func188.trans (congrArg some (by kernel_rfl))⟩
 t0:=Tryz.underlying0
 a0:=Tryz.isAgg0
 z0:=Tryz.sizeOf0
 v0:=Tryz.zeroValue0
 t4:=Tryz.underlying4
 a4:=Tryz.isAgg4
 z4:=Tryz.sizeOf4
 v4:=Tryz.zeroValue4
 t23:=Tryz.underlying175
 a23:=Tryz.isAgg175
 z23:=Tryz.sizeOf175
 v23:=Tryz.zeroValue175
 t26:=Tryz.underlying3
 a26:=Tryz.isAgg3
 z26:=Tryz.sizeOf3
 v26:=Tryz.zeroValue3
 t33:=Tryz.underlying98
 a33:=Tryz.isAgg98
 z33:=Tryz.sizeOf98
 v33:=Tryz.zeroValue98}
def Tryz.sortInt_ren:Go.Shelf.Ren:=⟨fun|5=>187|8=>112|7=>203|19=>160|20=>161|10=>206|11=>207|12=>208|13=>209|14=>210|15=>211|16=>212|17=>213|18=>214|30=>216|31=>182|32=>183|33=>217|34=>218|35=>113|40=>220|n=>n,fun|23=>22|25=>3|3=>3|32=>144|22=>22|0=>0|44=>127|46=>134|4=>4|36=>167|35=>166|41=>171|5=>5|9=>9|53=>191|57=>195|63=>206|64=>207|n=>n,fun|n=>n⟩
theorem Tryz.sortInt:Go.Proofs.SlLaysM.n5 Tryz.prog Tryz.sortInt_ren:= {
 mixed:=by kernel_rfl
 f5:=⟨Tryz.f187.name,by decide,Tryz.func187.trans (congrArg some (by kernel_rfl))⟩
 f7:=⟨Tryz.f203.name,by decide,Tryz.func203.trans (congrArg some (by kernel_rfl))⟩
 f8:=Tryz.func112.trans (congrArg some (by kernel_rfl))
 f10:=⟨Tryz.f206.name,by decide,Tryz.func206.trans (congrArg some (by kernel_rfl))⟩
 f11:=⟨Tryz.f207.name,by decide,Tryz.func207.trans (congrArg some (by kernel_rfl))⟩
 f12:=⟨Tryz.f208.name,by decide,Tryz.func208.trans (congrArg some (by kernel_rfl))⟩
 f13:=⟨Tryz.f209.name,by decide,Tryz.func209.trans (congrArg some (by kernel_rfl))⟩
 f14:=⟨Tryz.f210.name,by decide,Tryz.func210.trans (congrArg some (by kernel_rfl))⟩
 f15:=⟨Tryz.f211.name,by decide,Tryz.func211.trans (congrArg some (by kernel_rfl))⟩
 f16:=⟨Tryz.f212.name,by decide,Tryz.func212.trans (congrArg some (by kernel_rfl))⟩
 f17:=⟨Tryz.f213.name,by decide,Tryz.func213.trans (congrArg some (by kernel_rfl))⟩
 f18:=⟨Tryz.f214.name,by decide,Tryz.func214.trans (congrArg some (by kernel_rfl))⟩
 f19:=Tryz.func160.trans (congrArg some (by kernel_rfl))
 f20:=Tryz.func161.trans (congrArg some (by kernel_rfl))
 f30:=⟨Tryz.f216.name,by decide,Tryz.func216.trans (congrArg some (by kernel_rfl))⟩
 f31:=Tryz.func182.trans (congrArg some (by kernel_rfl))
 f32:=Tryz.func183.trans (congrArg some (by kernel_rfl))
 f33:=⟨Tryz.f217.name,by decide,Tryz.func217.trans (congrArg some (by kernel_rfl))⟩
 f34:=⟨Tryz.f218.name,by decide,Tryz.func218.trans (congrArg some (by kernel_rfl))⟩
 f35:=⟨Tryz.f113.name,by decide,Tryz.func113.trans (congrArg some (by kernel_rfl))⟩
 f40:=⟨Tryz.f220.name,by decide,Tryz.func220.trans (congrArg some (by kernel_rfl))⟩
 t0:=Tryz.underlying0
 a0:=Tryz.isAgg0
 z0:=Tryz.sizeOf0
 v0:=Tryz.zeroValue0
 t3:=Tryz.underlying3
 a3:=Tryz.isAgg3
 z3:=Tryz.sizeOf3
 v3:=Tryz.zeroValue3
 t4:=Tryz.underlying4
 a4:=Tryz.isAgg4
 z4:=Tryz.sizeOf4
 v4:=Tryz.zeroValue4
 t5:=Tryz.underlying5
 a5:=Tryz.isAgg5
 z5:=Tryz.sizeOf5
 v5:=Tryz.zeroValue5
 t9:=Tryz.underlying9
 a9:=Tryz.isAgg9
 z9:=Tryz.sizeOf9
 v9:=Tryz.zeroValue9
 t22:=Tryz.underlying22
 a22:=Tryz.isAgg22
 z22:=Tryz.sizeOf22
 v22:=Tryz.zeroValue22
 t23:=Tryz.underlying22
 a23:=Tryz.isAgg22
 z23:=Tryz.sizeOf22
 v23:=Tryz.zeroValue22
 t25:=Tryz.underlying3
 a25:=Tryz.isAgg3
 z25:=Tryz.sizeOf3
 v25:=Tryz.zeroValue3
 t32:=Tryz.underlying144
 a32:=Tryz.isAgg144
 z32:=Tryz.sizeOf144
 v32:=Tryz.zeroValue144
 t35:=Tryz.underlying166
 a35:=Tryz.isAgg166
 z35:=Tryz.sizeOf166
 v35:=Tryz.zeroValue166
 t36:=Tryz.underlying167
 a36:=Tryz.isAgg167
 z36:=Tryz.sizeOf167
 v36:=Tryz.zeroValue167
 t41:=Tryz.underlying171
 a41:=Tryz.isAgg171
 z41:=Tryz.sizeOf171
 v41:=Tryz.zeroValue171
 t44:=Tryz.underlying127
 a44:=Tryz.isAgg127
 z44:=Tryz.sizeOf127
 v44:=Tryz.zeroValue127
 t46:=Tryz.underlying134
 a46:=Tryz.isAgg134
 z46:=Tryz.sizeOf134
 v46:=Tryz.zeroValue134
 t53:=Tryz.underlying191
 a53:=Tryz.isAgg191
 z53:=Tryz.sizeOf191
 v53:=Tryz.zeroValue191
 t57:=Tryz.underlying195
 a57:=Tryz.isAgg195
 z57:=Tryz.sizeOf195
 v57:=Tryz.zeroValue195
 t63:=Tryz.underlying206
 a63:=Tryz.isAgg206
 z63:=Tryz.sizeOf206
 v63:=Tryz.zeroValue206
 t64:=Tryz.underlying207
 a64:=Tryz.isAgg207
 z64:=Tryz.sizeOf207
 v64:=Tryz.zeroValue207}
def Tryz.cmpInt_ren:Go.Shelf.Ren:=⟨fun|5=>63|7=>113|n=>n,fun|22=>3|3=>3|4=>4|n=>n,fun|n=>n⟩
theorem Tryz.cmpInt:Go.Proofs.SlLaysC2.n5 Tryz.prog Tryz.cmpInt_ren:= {
 mixed:=by kernel_rfl
 f5:=⟨Tryz.f63.name,by decide,Tryz.func63.trans (congrArg some (by kernel_rfl))⟩
 f7:=⟨Tryz.f113.name,by decide,Tryz.func113.trans (congrArg some (by kernel_rfl))⟩
 t3:=Tryz.underlying3
 a3:=Tryz.isAgg3
 z3:=Tryz.sizeOf3
 v3:=Tryz.zeroValue3
 t4:=Tryz.underlying4
 a4:=Tryz.isAgg4
 z4:=Tryz.sizeOf4
 v4:=Tryz.zeroValue4
 t22:=Tryz.underlying3
 a22:=Tryz.isAgg3
 z22:=Tryz.sizeOf3
 v22:=Tryz.zeroValue3}
end Go.Proofs
namespace Go.Proofs.YtdlnpbmmdnmkaaaGreat
open Go.Vc Go.Gw Go.Lib Go.Shelf
theorem HU (w:World) (o:Obj):w.alloc o= {w with heap:=w.heap.push o} :=rfl
theorem jT (a b:Int) (r1 r2:List Value) (w:World):Calls Tryz.prog 62 #[.agg (.int .i64 a::r1).toArray, .agg (.int .i64 b::r2).toArray] w fun e w'=>e= .returned (.int .i64 (Lib.compareInt a b))/\∃q os,w'=Go.Sort.grow (w.drewN q) os:=by
 have e157:∀args w,(callFunc 63 args).run Tryz.prog w= .ok (.enter 63 args) w:=Go.Vc.Mu (by kernel_rfl);have hc:=fun(w:World)=>AnyG.cmp_Compare_int Tryz.cmpInt a b w
 go_enter Tryz.func62,Tryz.ntmps62
 go_wp2_with (go_at_fn (63);refine(hc _).mono ?_;rintro e w' ⟨rfl,hw⟩;rw[hw])
 go_ret
 refine⟨rfl,0, #[.cells (Value.int .i64 a::r1).toArray 79, .cells (Value.int .i64 b::r2).toArray 79], ?_⟩;rw[HU,HU];simp[Go.Sort.grow,World.drewN];apply Array.toList_inj.1;simp
theorem A2b (a b:Int):Lib.compareInt a b=Cb a b:=by
 unfold Lib.compareInt Cb
 (repeat' split)<;>first|rfl|omega
theorem A2a:A0w Tryz.prog 62 tE (fun a b:F8=>Cb a.1 b.1):=by
 rintro w Z c1 c2 x y ⟨u1,r1,rfl,⟨rfl,_⟩,_⟩ ⟨u2,r2,rfl,⟨rfl,_⟩,_⟩;have:=jT x.1 y.1 r1 r2 w;rw[A2b]at this;exact this
theorem A0l:Yr Tryz.prog 61 (UY 62 tE 79 (fun a b=>Cb a.1 b.1)):=by
 refine cN (tys:= []) (nO (ρ:=Tryz.sortEnt_ren) Tryz.sortEnt (t:=tE) (e:=79) (g:=62) (φ:=fun a b:F8=>Cb a.1 b.1) Tryz.isAgg79 Tryz.sizeOf79 (fun a=> ?_) (fun a b c=> ?_) (fun a b c=> ?_) (by kernel_rfl) A2a);all_goals (simp only[Cb];(repeat' split)<;>omega)
theorem mU (n:Int) (w:World):Calls Tryz.prog 55 #[.int .i64 n] w fun e w'=>e= .returned (.func (.func 56) #[] #[.pointer (some ⟨w.heap.size,0,none⟩)])/\w'=w.alloc (.cells #[.int .i64 n] 3):=by
 go_enter Tryz.func55,Tryz.ntmps55
 go_wp2
 go_ret
 exact⟨rfl,rfl⟩
theorem A3g (hm:B8 Tryz.prog 56 I1):Yr Tryz.prog 55 (kT Tryz.prog [(false, .int .i64)] false .bool (.int .i64) (fun n x=>decide (x.1<0\/n<=x.1))):=by
 refine kU ?_;rintro w Z v n ⟨hv,hn⟩;obtain rfl:v= .int .i64 n:=by simpa using hv
 refine Calls.mono (mU _ w) ?_;rintro _ _ ⟨rfl,rfl⟩;have hsz:(w.alloc (.cells #[Value.int .i64 n] 3)).heap.size=w.heap.size+1:=by simp
 refine⟨_,rfl,N0.alloc w _,(fun b=>b=w.heap.size),fun b hb=> .inr ⟨by omega,by rw[hsz,hb];omega⟩,56,[.pointer (some ⟨w.heap.size,0,none⟩)],rfl,by kernel_rfl, ?_⟩;rintro w1 Z1 vs ⟨i,_⟩ hs h0 hz ⟨v1,vs1,rfl,hv1,rfl⟩ _;have hc:(w.alloc (.cells #[Value.int .i64 n] 3)).heap[w.heap.size]? =some (.cells #[Value.int .i64 n] 3 (0,0)):=by rw[HU];simp
 have hc1:w1.heap[w.heap.size]? =some (.cells #[Value.int .i64 n] 3 (0,0)):=(hs _ rfl).trans hc;have hrep:S8 Tryz.prog w1 (fun b=>Z1 b\/b=w.heap.size) I1.args [v1, .pointer (some ⟨w.heap.size,0,none⟩)] (i,n,()):=by
  refine⟨_,_,rfl, ?_,_,_,rfl, ?_,rfl⟩
  . exact hv1
  . exact⟨w.heap.size,0,[Value.int .i64 n],rfl, .inr rfl,fun j u hj=>by
     rcases j with _ |j
     . simp only[List.getElem?_cons_zero,Option.some.injEq]at hj;subst hj;rw[G8];simp[World.cell?,hc1]
     . simp at hj,rfl,hn⟩
 have:=hm w1 (fun b=>Z1 b\/b=w.heap.size) [v1, .pointer (some ⟨w.heap.size,0,none⟩)] (i,n,()) (fun b hb=>hb.elim (hz b) fun e=>h0 b e) hrep trivial trivial;refine Gw.NF.mono this ?_;rintro u w2 ⟨hx,⟨r,_⟩,o,us,Zn,hpost,_,rfl,hzn,⟨v2,us2,rfl,hv2,_,rfl⟩,_⟩;refine⟨hx.ext fun b hb=> ?_,Zn,fun b hb=> ?_, ?_⟩
 . obtain⟨p,hp,_⟩:=hb;cases hp
 . rcases hzn b hb with h| ⟨h,_⟩
   . exact .inl h
   . cases h
 . have hr:r=decide (i<0\/n<=i):=hpost;show Q3 false .bool w2 Zn v2 (decide (i<0\/n<=i));rw[<-hr];exact hv2
end Go.Proofs.YtdlnpbmmdnmkaaaGreat
namespace Go.Proofs.YtdlnpbmmdnmkaaaGreat
open Go Go.Vc Go.Gw Go.Lib Go.Shelf Go.Maps Go.Sort Go.RowKit
open Go.WideElems (Fit)
def eK (_:Value):Option (DataW Unit×List MemPlace):=some (.nil,[])
theorem pL {P:Program} {k:TypeId} (hk:P.underlying k=some (.int .i64)) {n:Int} (hn:Iz .i64 n):keyOf P k (.int .i64 n)=some (.int .i64 n):=by
 refine keyOf_int_mk hk ?_;unfold Iz at hn;simpa[Lit.wf]using hn
theorem A3n {P:Program} {k:TypeId} (hk:P.underlying k=some (.int .i64)) {x:MapEntry} {n:Int} (hx:x.key= .int .i64 n) (hn:Iz .i64 n):WideElems.rd P k eK x=some (.int .i64 n, .nil):=by
 unfold WideElems.rd;rw[hx,pL hk hn];rfl
theorem PP {w:World} {Z:Nat->Prop} {va:Bool} {vt:Ty} :∀ {es:List (Int×vt.den)} {l:List MapEntry},Cn w Z false (.int .i64) va vt l es->∀ {P:Program} {k:TypeId},P.underlying k=some (.int .i64)->(∀x∈l,∃y,WideElems.rd P k eK x=some y)/\l.map (WideElems.rg P k eK)=es.map fun e=>(.int .i64 e.1, .nil)
 | [],l,h,P,k,hk=>by
  obtain rfl:l= []:=h;exact⟨fun x hx=>(by cases hx),rfl⟩
 |e::es,l,h,P,k,hk=>by
  obtain⟨x,l',rfl,⟨h1,h2⟩,_,h3⟩:=h;have hx:x.key= .int .i64 e.1:=by simpa using h1
  have h4:=A3n hk hx h2;obtain⟨i1,i2⟩:=PP h3 hk;refine⟨fun y hy=> ?_, ?_⟩
  . rcases List.mem_cons.1 hy with rfl|hy
    . exact⟨_,h4⟩
    . exact i1 y hy
  . rw[List.map_cons,List.map_cons,i2];congr 1;unfold WideElems.rg;rw[h4];rfl
theorem PQ {w:World} {Z:Nat->Prop} {va:Bool} {vt:Ty} :∀ {es:List (Int×vt.den)} {l:List MapEntry},Cn w Z false (.int .i64) va vt l es->l.map (·.key)=es.map fun e=>Value.int .i64 e.1
 | [],l,h=>by obtain rfl:l= []:=h;rfl
 |e::es,l,h=>by
  obtain⟨x,l',rfl,⟨h1,h2⟩,_,h3⟩:=h;have hx:x.key= .int .i64 e.1:=by simpa using h1
  rw[List.map_cons,List.map_cons,PQ h3,hx]
theorem lT {P:Program} {k:TypeId} (hk:P.underlying k=some (.int .i64)) {w:World} {b clock:Nat} {ents:Array MapEntry} {Z:Nat->Prop} {va:Bool} {vt:Ty} {es:List (Int×vt.den)} (hb:w.heap[b]? =some (.map ents clock)) (hm:ZQ ents clock) (he:Cn w Z false (.int .i64) va vt ents.toList es) (hl:es.length<=100000) (hnd:List.Nodup (α:=Int) (es.map (·.1))):
 ∃D0:DataW Unit,w.ownsMap P k eK b ents.size D0/\(intKeys D0).Perm (es.map (·.1))/\Maps.size D0=es.length:=by
 obtain⟨h1,h2⟩:=PP he (P:=P) hk;have h4:ents.toList.length=es.length:=by have:=congrArg List.length h2;simpa using this
 have h5:ents.toList.map (·.key)=es.map fun e=>Value.int .i64 e.1:=PQ he
 refine⟨_,⟨ents,clock,hb,⟨?_,⟨hm.1,hm.2, ?_⟩,h1⟩,Nat.le_refl _,rfl⟩, ?_, ?_⟩
 . have:ents.size=es.length:=by rw[<-h4];simp
   rw[this];exact Nat.le_trans hl (by decide)
 . rw[h5];have:(es.map fun e=>Value.int .i64 e.1)=(es.map (·.1)).map fun n:Int=>Value.int .i64 n:=by rw[List.map_map];rfl
   rw[this];exact List.Pairwise.map _ (fun a b hab h=>hab (by simpa using h)) hnd
 . show(List.map _ _).Perm _;refine((WideShapes.sorted_perm _).map _).trans ?_;rw[h2,List.map_map];exact List.Perm.of_eq (List.map_congr_left fun e _=>rfl)
 . show List.length (List.foldr _ _ _)= _;rw[(WideShapes.sorted_perm _).length_eq,List.length_map,h4]
theorem PN {w:World} {Z:Nat->Prop} :∀ {l:List Int},(∀n∈l,Iz .i64 n)->F2 (C7 (.int .i64) w Z) (l.map encZ) l
 | [],_=>rfl
 |n::l,h=>⟨[encZ n],l.map encZ,rfl,⟨rfl,h n List.mem_cons_self⟩,PN fun m hm=>h m (List.mem_cons_of_mem _ hm)⟩
theorem nP (m:Nat):AnyZI.SortsIn Tryz.prog Tryz.sortedInt_ren Fence.wide m:=
 ⟨fun blk off cap ss W hH hblk hsz=>callsIn_wide.2 (AnyM.slices_Sort_int Tryz.sortInt blk off cap ss W hH hblk hsz),
  fun p cap W=>callsIn_wide.2 (AnyM.slices_Sort_int_none Tryz.sortInt p cap W)⟩
theorem pM:Yr Tryz.prog 162 (TW 188 3):=by
 refine bI (tys:= []) ?_;intro w Z va vt bm b clock T ents es hbm hb hm he hl hnd;obtain⟨D0,hown,hperm,hsize⟩:=lT (P:=Tryz.prog) (k:=3) Tryz.underlying3 hb hm he hl hnd;have hbl:bm<w.heap.size:=hbm.lt;have hcell:w.cell? ⟨bm,0,none⟩=some (.map (some b)):=by
  exact hbm.cell (o:=0) rfl
 have hseq:=AnyZI.keys_gives Tryz.keysGo Fence.wide 3 trivial rfl (by decide) bm b ents.size D0 w hbl hcell hown;have:=AnyZI.sorted_in Tryz.sortedInt Fence.wide 6 trivial trivial trivial trivial rfl (by decide) (nP _) (fun args w=>Go.Vc.Mu (f:=187) (by kernel_rfl) args w) 188 _ trivial (Go.Vc.Mu (by kernel_rfl)) _ _ (by rw[hsize];exact Nat.le_trans hl (by decide)) (by rw[hsize];omega) w hseq;refine Calls.mono (callsIn_wide.1 this) ?_;rintro _ w' ⟨v,ss,rfl,hS,hrow,hnil,hbelow⟩;have hb:Below w.heap.size w w':=hbelow;have tr:∀a b c:Int,decide (a<=b)=true->decide (b<=c)=true->decide (a<=c)=true:=fun a b c h h'=>decide_eq_true (Int.le_trans (of_decide_eq_true h) (of_decide_eq_true h'))
 have to:∀a b:Int,(decide (a<=b) ||decide (b<=a))=true:=fun a b=>by
  simp only[Bool.or_eq_true,decide_eq_true_eq];omega
 have hin:∀n∈ss,Iz .i64 n:=fun n hn=>by
  have hn2:n∈es.map (·.1):=hperm.mem_iff.1 (hS.mem_iff.1 hn);obtain⟨e,he2,rfl⟩:=List.mem_map.1 hn2;obtain⟨x,_,hx,_⟩:=J2.mem he he2;exact hx.2
 refine⟨v,rfl,Bg.of ⟨hb,trivial⟩,(ss.mergeSort (fun x y=>decide (x<=y)),()),(),[v],(fun _=>False),⟨?_, ?_⟩,fun h=>(by cases h),rfl,fun _ hb=>hb.elim,⟨v,[],rfl,⟨(ss.mergeSort (fun x y=>decide (x<=y))).map encZ, ?_, ?_,fun _ _ h=>h⟩,fun _=>⟨⟨rfl,fun h=>(by cases h)⟩,fun b _ u hu=>(by cases hu)⟩,rfl⟩,trivial⟩
 . exact(List.mergeSort_perm ss _).trans (hS.trans hperm)
 . exact(List.pairwise_mergeSort tr to ss).imp fun h=>of_decide_eq_true h
 . have hl2:(ss.mergeSort (fun x y=>decide (x<=y))).length=ss.length:=(List.mergeSort_perm ss _).length_eq;show w'.ownsRow w.heap.size 3 1 v (ss.mergeSort (fun x y=>decide (x<=y))).length _;rw[hl2];exact hrow
 . exact PN fun n hn=>hin n ((List.mergeSort_perm ss _).mem_iff.1 hn)
end Go.Proofs.YtdlnpbmmdnmkaaaGreat
namespace Go.Proofs.YtdlnpbmmdnmkaaaGreat
open Go.Vc Go.Gw
theorem L1 {P:Program} {tys:List (Nat×TI)} {sp:I7} {f:FuncId} {fn:Func} {s:A9} {vc:A5 s.args->Prop} (an:An) (hf:P.funcs[f]? =some fn) (hv:∀x,awf s.args x->s.pre x->vc x) (hty:F9 P tys=true) (hsp:Kr P sp) (he:∀x,A5i P tys sp an s fn x=vc x:=by intro x;kernel_rfl) (hb:fn.body.isSome=true:=by kernel_rfl) (hn:Nat.ble s.args.length fn.ntmps=true:=by kernel_rfl) (hok:N8 fn.ntmps (fn.body.getD .skip)=true:=by kernel_rfl):B8 P f s:=
 mC hf hb hn hok hty hsp he hv
theorem Rh:B8 Tryz.prog 56 I1:=L1 Qf Tryz.func56 Mf A8 (A3)
theorem YL:B8 Tryz.prog 6 Hp:=L1 VN Tryz.func6 LW A8 (A3)
theorem YK:B8 Tryz.prog 54 Ho:=L1 VM Tryz.func54 LV A8 (A3)
theorem Cw:B8 Tryz.prog 19 T4:=L1 Yu Tryz.func19 Sg A8 (A0 YK (A3))
theorem Rj:B8 Tryz.prog 53 Hy:=L1 VW Tryz.func53 MS A8 (A3)
theorem Nl:B8 Tryz.prog 101 Fe:=L1 SG Tryz.func101 GX A8 (A3)
theorem O0:B8 Tryz.prog 169 Hr:=L1 VP Tryz.func169 MC A8 (A3)
theorem V2:B8 Tryz.prog 123 Hs:=L1 VQ Tryz.func123 MH A8 (A0 O0 (A3))
theorem FE:B8 Tryz.prog 119 Ht:=L1 VR Tryz.func119 MK A8 (A0 V2 (A3))
theorem FF:B8 Tryz.prog 118 Hu:=L1 VS Tryz.func118 ML A8 (A0 FE (A3))
theorem KO:B8 Tryz.prog 124 Lp:=L1 ZV Tryz.func124 OG A8 (A0 O0 (A3))
theorem KP:B8 Tryz.prog 170 Br:=L1 IE Tryz.func170 AZ A8 (A0 O0 (A3))
theorem KQ:B8 Tryz.prog 125 Ls:=L1 ZY Tryz.func125 OJ A8 (A0 O0 (A0 KP (A3)))
theorem Jf:B8 Tryz.prog 127 T8:=L1 Yz Tryz.func127 Ss A8 (A0 O0 (A3))
theorem NZ:B8 Tryz.prog 189 Di:=L1 NL Tryz.func189 ER A8 (A0 O0 (A3))
theorem YM:B8 Tryz.prog 190 Hq:=L1 VO Tryz.func190 LY A8 (A0 O0 (A3))
theorem bW:B8 Tryz.prog 191 Lt:=L1 ZZ Tryz.func191 OK A8 (A3)
theorem Vt:B8 Tryz.prog 166 Dh:=L1 NK Tryz.func166 EQ A8 (A0 KO (A0 KQ (A0 Jf (A0 O0 (A0 NZ (A0 YM (A0 bW (A3))))))))
theorem bU:B8 Tryz.prog 165 Lq:=L1 ZW Tryz.func165 OH A8 (A0 Vt (A0 O0 (A3)))
theorem bY:B8 Tryz.prog 120 Lw:=L1 aC Tryz.func120 ON A8 (A0 V2 (A0 bU (A3)))
theorem Xt:B8 Tryz.prog 71 Lv:=L1 aB Tryz.func71 OM A8 (A0 V2 (A0 KO (A0 KQ (A3))))
theorem Hh:B8 Tryz.prog 74 Bs:=L1 IF Tryz.func74 BC A8 (A0 V2 (A0 Jf (A3)))
theorem bX:B8 Tryz.prog 167 Lu:=L1 aA Tryz.func167 OL A8 (A0 V2 (A3))
theorem KR:B8 Tryz.prog 122 Ly:=L1 aF Tryz.func122 OP A8 (A0 V2 (A3))
theorem cA:B8 Tryz.prog 168 Lz:=L1 aG Tryz.func168 OQ A8 (A0 Xt (A0 KR (A3)))
theorem OA:B8 Tryz.prog 121 Dj:=L1 NM Tryz.func121 ES A8 (A0 Xt (A0 Hh (A0 V2 (A0 Vt (A0 bX (A0 cA (A3)))))))
theorem Jg:B8 Tryz.prog 70 Hv:=L1 VT Tryz.func70 MP A8 (A0 Rj (A0 Nl (A0 FF (A0 FE (A0 bY (A0 OA (A0 KR (A3))))))))
theorem Jh:B8 Tryz.prog 52 Hw:=L1 VU Tryz.func52 MQ A8 (A0 Jg (A3))
theorem FG:B8 Tryz.prog 79 Hx:=L1 VV Tryz.func79 MR A8 (A0 Jh (A0 FF (A3)))
theorem bV:B8 Tryz.prog 126 Lr:=L1 ZX Tryz.func126 OI A8 (A0 O0 (A3))
theorem bZ:B8 Tryz.prog 72 Lx:=L1 aD Tryz.func72 OO A8 (A0 V2 (A0 bV (A3)))
theorem cC:B8 Tryz.prog 73 Mb:=L1 aI Tryz.func73 OT A8 (A0 Jh (A3))
theorem cB:B8 Tryz.prog 26 Ma:=L1 aH Tryz.func26 OR A8 (A0 Jh (A0 Jg (A0 Xt (A0 bZ (A0 cC (A3))))))
theorem KT:B8 Tryz.prog 117 Mc:=L1 aJ Tryz.func117 OU A8 (A0 cB (A0 Rj (A3)))
theorem KU:B8 Tryz.prog 164 Bu:=L1 IH Tryz.func164 BG A8 (A3)
theorem FH:B8 Tryz.prog 116 Hz:=L1 VX Tryz.func116 MW A8 (A0 FG (A0 KT (A0 KU (A3))))
theorem DY:B8 Tryz.prog 75 W9:=L1 BV Tryz.func75 Vj A8 (A0 FH (A3))
theorem Rl:B8 Tryz.prog 28 Ia:=L1 VY Tryz.func28 MX A8 (A0 DY (A3))
theorem gW:B8 Tryz.prog 76 Ru:=L1 fL Tryz.func76 VD A8 (A0 Jg (A0 Hh (A3)))
theorem DW:B8 Tryz.prog 29 W7:=L1 BR Tryz.func29 Vf A8 (A0 Cw (A0 gW (A3)))
theorem Uy:B8 Tryz.prog 18 O9:=L1 Um Tryz.func18 Oa A8 (A0 Cw (A0 Rl (A0 DW (A0 Rj (A3)))))
theorem Zv:B8 Tryz.prog 20 T2:=L1 Ys Tryz.func20 Sa A8 (A3)
theorem Jd:B8 Tryz.prog 58 O5:=L1 Yv Tryz.func58 Si A8 (A3)
theorem G4:B8 Tryz.prog 173 X4:=L1 ID Tryz.func173 AY A8 (A3)
theorem L8:B8 Tryz.prog 151 Q9:=L1 Ws Tryz.func151 Px A8 (A0 G4 (A3))
theorem X9:B8 Tryz.prog 110 U3:=L1 Za Tryz.func110 Sx A8 (A0 L8 (A3))
theorem GP:B8 Tryz.prog 145 Z8:=L1 GA Tryz.func145 Ye A8 (A0 L8 (A3))
theorem O4:B8 Tryz.prog 103 Q0:=L1 CB Tryz.func103 Vn A8 (A0 X9 (A0 GP (A3)))
theorem Ga:B8 Tryz.prog 130 P6:=L1 Us Tryz.func130 Oe A8 (A3)
theorem GV:B8 Tryz.prog 85 Af:=L1 GK Tryz.func85 Yo A8 (A0 O4 (A0 Ga (A3)))
theorem Fw:B8 Tryz.prog 34 P0:=L1 GC Tryz.func34 Yg A8 (A0 Jd (A0 GV (A3)))
theorem Fz:B8 Tryz.prog 106 H0:=L1 Ft Tryz.func106 Dy A8 (A3)
theorem Du:B8 Tryz.prog 57 F1:=L1 Dt Tryz.func57 Ce A8 (A0 Fz (A3))
theorem Fx:B8 Tryz.prog 176 Ab:=L1 GE Tryz.func176 Yi A8 (A3)
theorem Zw:B8 Tryz.prog 146 T6:=L1 Yx Tryz.func146 So A8 (A0 G4 (A0 Fx (A3)))
theorem Cz:B8 Tryz.prog 107 U4:=L1 Zb Tryz.func107 Sy A8 (A0 Zw (A3))
theorem I4:B8 Tryz.prog 140 M7:=L1 Pe Tryz.func140 Kk A8 (A0 G4 (A3))
theorem Y8:B8 Tryz.prog 108 N5:=L1 Qg Tryz.func108 Mm A8 (A0 I4 (A3))
theorem Q5:B8 Tryz.prog 139 T3:=L1 Yt Tryz.func139 Se A8 (A3)
theorem W2:B8 Tryz.prog 148 Aa:=L1 GD Tryz.func148 Yh A8 (A0 G4 (A3))
theorem GO:B8 Tryz.prog 147 Z7:=L1 FZ Tryz.func147 Yd A8 (A0 Q5 (A0 W2 (A3)))
theorem Lf:B8 Tryz.prog 179 K6:=L1 Ks Tryz.func179 Il A8 (A0 I4 (A0 G4 (A3)))
theorem NV:B8 Tryz.prog 160 Dd:=L1 NG Tryz.func160 EM A8 (A3)
theorem Cv:B8 Tryz.prog 196 I5:=L1 Mo Tryz.func196 Iv A8 (A0 NV (A3))
theorem Xs:B8 Tryz.prog 198 N1:=L1 Wv Tryz.func198 Qa A8 (A3)
theorem Po:B8 Tryz.prog 200 J7:=L1 Pf Tryz.func200 Kl A8 (A0 G4 (A3))
theorem Pp:B8 Tryz.prog 180 M8:=L1 (sp:=Pt) Pg Tryz.func180 Km A8 (A0 G4 (A0 Cv (A0 Xs (A0 Po (Ic (TO (cx:=⟨Tryz.prog,tys⟩) (fn:=Tryz.f199) (c:=Tryz.f199.body.getD .skip) Tryz.func199 (by kernel_rfl) (by kernel_rfl) A8 (Mq (A3) (Tg))) (A3))))))
theorem Je:B8 Tryz.prog 150 T5:=L1 Yw Tryz.func150 Sk A8 (A0 I4 (A0 W2 (A0 L8 (A0 G4 (A0 Fx (A0 Lf (A0 Pp (A3))))))))
theorem Uz:B8 Tryz.prog 205 P3:=L1 Uo Tryz.func205 Ob A8 (A3)
theorem Zx:B8 Tryz.prog 197 T7:=L1 Yy Tryz.func197 Sq A8 (A0 Uz (A3))
theorem Xr:B8 Tryz.prog 177 R3:=L1 Wu Tryz.func177 Pz A8 (A0 Cv (A0 Zx (A3)))
theorem Cy:B8 Tryz.prog 136 Bp:=L1 IB Tryz.func136 AW A8 (A0 G4 (A3))
theorem Ri:B8 Tryz.prog 194 Bq:=L1 IC Tryz.func194 AX A8 (A0 L8 (A0 G4 (A3)))
theorem Xq:B8 Tryz.prog 178 R2:=L1 Wt Tryz.func178 Py A8 (A0 Cy (A0 I4 (A0 Ri (A3))))
theorem KN:B8 Tryz.prog 149 Bo:=L1 IA Tryz.func149 AV A8 (A0 I4 (A0 W2 (A0 Je (A0 L8 (A0 G4 (A0 Fx (A0 Xr (A0 Xq (A3)))))))))
theorem Cd:B8 Tryz.prog 109 R4:=L1 Ww Tryz.func109 Qb A8 (A0 GO (A0 W2 (A0 KN (A0 Je (A3)))))
theorem S9:B8 Tryz.prog 60 P9:=L1 BZ Tryz.func60 Vm A8 (A0 Cz (A0 Y8 (A0 Cd (A0 X9 (A3)))))
theorem Le:B8 Tryz.prog 21 C9:=GN (A0 Fw (Ic (A3g Rh) (A0 Du (A0 Jd (A0 S9 (Ic A0l (Ic (TO (cx:=⟨Tryz.prog,Dx⟩) (fn:=Tryz.f59) (c:=Tryz.f59.body.getD .skip) Tryz.func59 (by kernel_rfl) (by kernel_rfl) Et (Mq (A3) (Tg))) (A3)))))))) Vh
theorem Zz:B8 Tryz.prog 105 Fi:=L1 SK Tryz.func105 HB A8 (A0 FG (A3))
theorem UL:B8 Tryz.prog 69 Fh:=L1 SJ Tryz.func69 HA A8 (A0 Zz (A0 FH (A0 KT (A3))))
theorem GR:B8 Tryz.prog 25 Ac:=L1 GF Tryz.func25 Yj A8 (A0 UL (A3))
theorem UM:B8 Tryz.prog 48 Fj:=L1 SL Tryz.func48 HC A8 (A0 Zz (A3))
theorem OC:B8 Tryz.prog 64 Dl:=L1 NO Tryz.func64 EU A8 (A3)
theorem OB:B8 Tryz.prog 22 Dk:=L1 NN Tryz.func22 ET Et (A0 GR (A0 Rl (A0 UM (A0 OC (A3)))))
theorem GT:B8 Tryz.prog 89 Ad:=L1 GH Tryz.func89 Yl A8 (A0 S9 (A0 O4 (A3)))
theorem Xp:B8 Tryz.prog 94 Q8:=L1 Wr Tryz.func94 Pw A8 (A0 Q5 (A0 I4 (A3)))
theorem Va:B8 Tryz.prog 38 P4:=L1 Uq Tryz.func38 Oc A8 (A0 Xp (A3))
theorem Rf:B8 Tryz.prog 135 Bj:=L1 HW Tryz.func135 AR A8 (A0 Cy (A0 Q5 (A3)))
theorem KM:B8 Tryz.prog 193 Bn:=L1 HZ Tryz.func193 AU A8 (A0 G4 (A3))
theorem KI:B8 Tryz.prog 172 Bi:=L1 HV Tryz.func172 AQ A8 (A0 Q5 (A0 KM (A0 Ri (A3))))
theorem Ca:B8 Tryz.prog 134 T9:=L1 GG Tryz.func134 Yk A8 (A0 S9 (A0 O4 (A0 Cz (A0 Y8 (A0 Cd (A0 X9 (A0 Rf (A0 Cy (A0 L8 (A0 KI (A3)))))))))))
theorem OD:B8 Tryz.prog 90 Dm:=L1 NP Tryz.func90 EV A8 (A0 Va (A0 Ca (A3)))
theorem Fy:B8 Tryz.prog 91 U2:=L1 GI Tryz.func91 Ym A8 (A0 Cz (A0 Y8 (A0 Cd (A0 X9 (A0 Rf (A0 Cy (A3)))))))
theorem GW:B8 Tryz.prog 131 Ag:=L1 GL Tryz.func131 Yp A8 (A0 O4 (A3))
theorem DU:B8 Tryz.prog 113 W6:=L1 BQ Tryz.func113 Ve A8 (A3)
theorem Xo:B8 Tryz.prog 63 Q7:=L1 Wq Tryz.func63 Pv A8 (A0 DU (A3))
theorem AB:B8 Tryz.prog 96 J8:=L1 Ze Tryz.func96 Fq A8 (A0 Xo (A3))
theorem Bf:B8 Tryz.prog 152 E9:=L1 Bd Tryz.func152 Y5 A8 (A3)
theorem Dv:B8 Tryz.prog 204 Ep:=YA fun _ h=>h
theorem Fb:B8 Tryz.prog 192 G5:=L1 Ew Tryz.func192 Ds A8 (A0 Bf (A0 Dv (A3)))
theorem Au:B8 Tryz.prog 171 E7:=L1 Ak Tryz.func171 X6 A8 (A0 Fb (A3))
theorem AA:B8 Tryz.prog 132 U5:=L1 Zd Tryz.func132 Sz A8 (A0 AB (A0 Ga (A0 Ca (A0 Au (A3)))))
theorem Pq:B8 Tryz.prog 137 M9:=L1 Ph Tryz.func137 Kn A8 (A0 S9 (A0 Fy (A0 O4 (A0 Ca (A3)))))
theorem Vb:B8 Tryz.prog 92 P5:=L1 Ur Tryz.func92 Od A8 (A0 GW (A0 AA (A0 Pq (A3))))
theorem KJ:B8 Tryz.prog 138 Bl:=L1 HX Tryz.func138 AS A8 (A0 Q5 (A0 W2 (A3)))
theorem GU:B8 Tryz.prog 93 Ae:=L1 GJ Tryz.func93 Yn A8 (A0 S9 (A0 KJ (A3)))
theorem GQ:B8 Tryz.prog 65 Z9:=L1 GB Tryz.func65 Yf A8 (A0 Fw (A0 GT (A0 OD (A0 Fy (A0 Vb (A0 GU (A3)))))))
theorem KS:B8 Tryz.prog 27 Bt:=L1 IG Tryz.func27 BE A8 (A0 Jg (A0 Hh (A3)))
theorem NW:B8 Tryz.prog 66 De:=L1 NH Tryz.func66 EN A8 (A0 KS (A0 Rl (A3)))
theorem Pn:B8 Tryz.prog 114 J6:=L1 (sp:=Ps) Pd Tryz.func114 Kj A8 (A0 Fy (A0 O4 (A0 Ca (Ic pM (Ic (TO (cx:=⟨Tryz.prog,tys⟩) (fn:=Tryz.f163) (c:=Tryz.f163.body.getD .skip) Tryz.func163 (by kernel_rfl) (by kernel_rfl) A8 (Mq (A3) (Tg))) (A3))))))
theorem NY:B8 Tryz.prog 67 Dg:=L1 (sp:=OF) NJ Tryz.func67 EP A8 (A0 Fw (A0 Pn (Ic (TO (cx:=⟨Tryz.prog,tys⟩) (fn:=Tryz.f59) (c:=Tryz.f59.body.getD .skip) Tryz.func59 (by kernel_rfl) (by kernel_rfl) A8 (Mq (A3) (Tg))) (A3))))
theorem UK:B8 Tryz.prog 100 Ff:=L1 SH Tryz.func100 GY A8 (A0 Nl (A3))
theorem Zy:B8 Tryz.prog 43 Fg:=L1 SI Tryz.func43 GZ A8 (A0 UK (A0 Nl (A3)))
theorem DX:B8 Tryz.prog 51 W8:=L1 BU Tryz.func51 Vi A8 (A0 Zy (A0 Jh (A3)))
theorem DZ:B8 Tryz.prog 115 X0:=L1 BW Tryz.func115 Vk A8 (A0 Zy (A0 DX (A3)))
theorem Lg:B8 Tryz.prog 68 X1:=L1 BY Tryz.func68 Vl A8 (A0 DZ (A3))
theorem KL:B8 Tryz.prog 23 Bm:=L1 HY Tryz.func23 AT A8 (A0 Le (A0 GQ (A0 NW (A0 NY (A0 Lg (A3))))))
theorem NX:B8 Tryz.prog 24 Df:=L1 NI Tryz.func24 EO A8 (A0 Lg (A3))
theorem Nk:B8 Tryz.prog 4 G6:=L1 Mp Tryz.func4 Iw A8 (A0 YL (A0 Uy (A0 Cw (A0 Zv (A0 Le (A0 OB (A0 KL (A0 NX (A3)))))))))
end Go.Proofs.YtdlnpbmmdnmkaaaGreat
