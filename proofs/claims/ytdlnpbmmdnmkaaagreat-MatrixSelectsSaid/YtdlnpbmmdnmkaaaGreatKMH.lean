/- Part. -/
import Derived.Maps.OwnRows
import Derived.Maps.Views
import Derived.Test.YtdlnpbmmdnmkaaaGreatKMG
set_option linter.all false
namespace Go.Proofs.YtdlnpbmmdnmkaaaGreat
open Go.Vc Go.Gw
theorem OE {l:List Int} {v:Int} {a:Nat} (hs:l.Pairwise (· < ·)) (h1:∀y∈l.take a,y<v) (h2:∀y,l[a]? =some y->v<y):(l.take a++ [v]++l.drop a).Pairwise (· < ·):=by
 have hd:∀y∈l.drop a,v<y:=fun y hy=>by
  rw[<-List.take_append_drop a l,List.pairwise_append]at hs;cases hc:l.drop a with
  |nil=>rw[hc]at hy;cases hy
  |cons z r=>
   have hz:v<z:=h2 z (by rw[<-List.head?_drop,hc];rfl);rw[hc]at hy;rcases List.mem_cons.1 hy with rfl|hy
   . exact hz
   . have:=hs.2.1;rw[hc,List.pairwise_cons]at this;have:=this.1 y hy;omega
 rw[List.pairwise_append,List.pairwise_append];refine⟨⟨hs.take,List.pairwise_singleton _ _,fun y hy z hz=> ?_⟩,hs.drop,fun y hy z hz=> ?_⟩
 . rw[List.mem_singleton.1 hz];exact h1 y hy
 . rcases List.mem_append.1 hy with hy|hy
   . have:=h1 y hy;have:=hd z hz;omega
   . rw[List.mem_singleton.1 hy];exact hd z hz
theorem BG (x:A5 Bu.args) (hw:awf Bu.args x) (hp:Bu.pre x):Sw x:=by
 obtain⟨ls,_⟩:=x;change List (List (Int×(Bool×List Int)×List Int))at ls;obtain⟨hl,hv⟩:ls.length<=4/\∀v∈ls,v.length<=100000:=hp;simp only[Sw];refine⟨fun p=>0<=p.2.1/\p.2.1<=(ls.length:Int)/\p.1.length<=100000*p.2.1.toNat/\p.1.Pairwise (· < ·)/\∀i,i∈p.1↔∃v∈ls.take p.2.1.toNat,∃e∈v,e.1=i,fun p=>((ls.length:Int)-p.2.1).toNat,⟨Int.le_refl _,Int.natCast_nonneg _,by simp,List.Pairwise.nil,fun i=>by simp⟩, ?_⟩;rintro⟨out,j,_⟩ _ ⟨h0,h1,h2,h3,h4⟩;change Int at j;change List Int at out;simp only at h0 h1 h2 h3 h4⊢;refine⟨fun h=> ?_,fun h=> ?_⟩
 . have h:=of_decide_eq_true h;have hvl:=hv _ (L6 (d:=([]:List (Int×(Bool×List Int)×List Int))) h0 h);have hts:ls.take (j+1).toNat=ls.take j.toNat++ [gx [] ls j]:=by
    rw[show(j+1).toNat=j.toNat+1 from by omega,List.take_add_one,H2 (d:=([]:List (Int×(Bool×List Int)×List Int))) h0 h];rfl
   generalize gx ([]:List (Int×(Bool×List Int)×List Int)) ls j=v at*;refine⟨⟨h0,h⟩,fun p=>0<=p.2.1/\p.2.1<=(v.length:Int)/\p.1.length<=100000*j.toNat+p.2.1.toNat/\p.1.Pairwise (· < ·)/\∀i,i∈p.1↔(∃v∈ls.take j.toNat,∃e∈v,e.1=i)\/∃e∈v.take p.2.1.toNat,e.1=i,fun p=>((v.length:Int)-p.2.1).toNat,⟨Int.le_refl _,Int.natCast_nonneg _,by simpa using h2,h3,fun i=>by rw[h4];simp⟩, ?_⟩;rintro⟨o,k,_⟩ _ ⟨g0,g1,g2,g3,g4⟩;change Int at k;change List Int at o;simp only at g0 g1 g2 g3 g4⊢;refine⟨fun hk=> ?_,fun hk=> ?_⟩
   . have hk:=of_decide_eq_true hk;have hvs:v.take (k+1).toNat=v.take k.toNat++ [gx C8 v k]:=by
      rw[show(k+1).toNat=k.toNat+1 from by omega,List.take_add_one,H2 (d:=C8) g0 hk];rfl
     have hmem:∀i,((∃v∈ls.take j.toNat,∃e∈v,e.1=i)\/∃e∈v.take (k+1).toNat,e.1=i)↔(i∈o\/(gx C8 v k).1=i):=fun i=>by
      rw[g4 i,hvs];constructor
      . rintro(h| ⟨e,he,rfl⟩)
        . exact .inl (.inl h)
        . rcases List.mem_append.1 he with he|he
          . exact .inl (.inr ⟨e,he,rfl⟩)
          . rw[List.mem_singleton.1 he];exact .inr rfl
      . rintro((h| ⟨e,he,rfl⟩) |rfl)
        . exact .inl h
        . exact .inr ⟨e,List.mem_append.2 (.inl he),rfl⟩
        . exact .inr ⟨_,List.mem_append.2 (.inr (by simp)),rfl⟩
     generalize gx C8 v k=e at*;refine⟨fun p=>p.1.length<=100000*j.toNat+k.toNat+1/\p.1.Pairwise (· < ·)/\∀i,i∈p.1↔(∃v∈ls.take j.toNat,∃e∈v,e.1=i)\/∃e∈v.take (k+1).toNat,e.1=i, ?_, ?_⟩
     . refine⟨fun p=>0<=p.1/\p.1<=(o.length:Int)/\∀y∈o.take p.1.toNat,y<e.1,fun p=>((o.length:Int)-p.1).toNat,⟨Int.le_refl _,Int.natCast_nonneg _,by simp⟩, ?_⟩;rintro⟨a,_⟩ _ ⟨a0,a1,a2⟩;change Int at a;simp only at a0 a1 a2⊢;refine⟨fun ha=>⟨a0,of_decide_eq_true ha⟩,fun _=>⟨g0,hk⟩,fun ha=> ?_,fun ha=>⟨fun ha=>⟨a0,of_decide_eq_true ha⟩,fun _=>⟨g0,hk⟩,fun hb=> ?_,fun hb=> ?_⟩⟩
       . rw[J1]at ha;simp only[Bool.and_eq_true,decide_eq_true_eq]at ha;rw[wr (by omega) (by omega)];refine⟨⟨by omega,by omega,Cf (d:=(0:Int)) a0 ha.1 a2 ?_⟩,by omega⟩;rw[P7 a0 ha.1];exact ha.2
       . rw[J1]at hb;simp only[Bool.and_eq_true,decide_eq_true_eq]at hb;refine⟨by show o.length<= _;omega,g3,fun i=> ?_⟩;rw[hmem i];constructor
         . exact .inl
         . rintro(hi|rfl)
           . exact hi
           . have:=L6 (d:=(0:Int)) a0 hb.1;rw[P7 a0 hb.1,hb.2]at this;exact this
       . rw[J1]at ha hb;simp only[Bool.and_eq_false_iff,decide_eq_false_iff_not]at ha hb;have e1:(o.take a.toNat).drop (Int.toNat 0)=o.take a.toNat:=rfl;have e2:o.take ((o.length:Int)).toNat=o:=by rw[Int.toNat_natCast,List.take_length]
         rw[e1,e2];have l1:(o.take a.toNat).length<=o.length:=by rw[List.length_take];omega
         have l2:(o.drop a.toNat).length<=o.length:=by rw[List.length_drop];omega
         have l3:(o.take a.toNat++ [e.1]++o.drop a.toNat).length=o.length+1:=by
          simp only[List.length_append,List.length_take,List.length_drop,List.length_singleton];omega
         refine⟨⟨Int.le_refl _,a0,a1⟩,⟨by omega,by omega⟩,⟨g0,hk⟩,⟨by simp only[List.length_singleton];omega,by simp only[List.length_singleton];omega⟩,⟨a0,a1,Int.le_refl _⟩,⟨?_, ?_⟩,⟨by show(o.take a.toNat++ [e.1]++o.drop a.toNat).length<= _;omega, ?_,fun i=> ?_⟩⟩
         . simp only[List.length_append,List.length_singleton];omega
         . simp only[List.length_append,List.length_singleton];omega
         . refine OE g3 a2 fun y hy=> ?_
           have hlt:a.toNat<o.length:=by
            rcases Nat.lt_or_ge a.toNat o.length with h|h
            . exact h
            . rw[List.getElem?_eq_none h]at hy;cases hy
           have hy2:o.getD a.toNat 0=y:=by rw[List.getD_eq_getElem?_getD,hy];rfl
           rw[hy2]at ha hb;omega
         . rw[hmem i];simp only[List.mem_append,List.mem_singleton];have hsplit:i∈o↔i∈o.take a.toNat\/i∈o.drop a.toNat:=by
            conv=>lhs;rw[<-List.take_append_drop a.toNat o]
            exact List.mem_append
           rw[hsplit];constructor
           . rintro((h|h) |h)
             . exact .inl (.inl h)
             . exact .inr h.symm
             . exact .inl (.inr h)
           . rintro((h|h) |h)
             . exact .inl (.inl h)
             . exact .inr h
             . exact .inl (.inr h.symm)
     . rintro⟨o2,_⟩ _ ⟨k1,k2,k3⟩;simp only at k1 k2 k3⊢;rw[wr (by omega) (by omega)];exact⟨⟨by omega,by omega,by omega,k2,k3⟩,by omega⟩
   . have hk:=of_decide_eq_false hk;rw[wr (by omega) (by omega)];rw[F6 (l:=v) (i:=k) (by omega)]at g4;refine⟨⟨by omega,by omega,by omega,g3,fun i=> ?_⟩,by omega⟩;rw[g4 i,hts];simp only[List.mem_append,List.mem_singleton];constructor
     . rintro(⟨w,h1,h2⟩ |h)
       . exact⟨w, .inl h1,h2⟩
       . exact⟨v, .inr rfl,h⟩
     . rintro⟨w,h1|rfl,h2⟩
       . exact .inl ⟨w,h1,h2⟩
       . exact .inr h2
 . have h:=of_decide_eq_false h;rw[F6 (by omega)]at h4;exact⟨h3,h4⟩
theorem Vk (x:A5 X0.args) (hw:awf X0.args x) (hp:X0.pre x):Mi x:=by
 obtain⟨a,b,_⟩:=x;have hl:a.length<=9223372036854775807:=hw.1.1;change List (Int×(Bool×List Int)×List Int)at a b;have hwh:∀e∈a,I9 e.2:=fun e he=>Er ((show EJ K1 a from hp) e he) (by decide)
 simp only[Mi];refine⟨fun h=> ?_,fun h=> ?_⟩
 . have h:=of_decide_eq_true h;exact(decide_eq_false fun e=>h (by rw[e.1])).symm
 . have hlen:a.length=b.length:=by have:=of_decide_eq_false h;omega
   refine⟨fun p=>0<=p.1/\p.1<=(a.length:Int)/\a.take p.1.toNat=b.take p.1.toNat/\∀e∈a.take p.1.toNat,e.2=rc (rv e.2),fun p=>((a.length:Int)-p.1).toNat,⟨Int.le_refl _,Int.natCast_nonneg _,by simp,by simp⟩, ?_⟩;rintro⟨i,_⟩ _ ⟨h0,h1,h2,h3⟩;change Int at i;simp only at h0 h1 h2 h3⊢;refine⟨fun h=> ?_,fun h=> ?_⟩
   . have h:=of_decide_eq_true h;have ma:=L6 (d:=C8) h0 h;have ga:=H2 (d:=C8) h0 h;have gb:=H2 (d:=C8) (l:=b) h0 (by omega);have hta:a.take (i+1).toNat=a.take i.toNat++ [gx C8 a i]:=by
      rw[show(i+1).toNat=i.toNat+1 from by omega,List.take_add_one,ga];rfl
     have htb:b.take (i+1).toNat=b.take i.toNat++ [gx C8 b i]:=by
      rw[show(i+1).toNat=i.toNat+1 from by omega,List.take_add_one,gb];rfl
     generalize gx C8 a i=e at*;generalize gx C8 b i=f at*;obtain⟨ei,ev⟩:=e;obtain⟨fi,fv⟩:=f;simp only at ma ga gb hta htb⊢;refine⟨⟨h0,h⟩,⟨h0,by omega⟩,fun _=>⟨h0,h⟩,fun _=>hwh _ ma, ?_⟩;rintro⟨r,_⟩ hr;refine⟨fun _=>⟨h0,h⟩,fun _=>⟨h0,by omega⟩,fun _=>trivial, ?_⟩;rintro⟨s,_⟩ hs;change Bool at r s;simp only at hr hs⊢;rw[L3]at hs;rw[L3,L3];have key:(decide (ei≠fi) || !r|| !s)=false↔ei=fi/\ev=rc (rv ev)/\ev=fv:=by
      by_cases hi:ei=fi
      . have hr:=(hr (by simp[hi])).2;by_cases hc:ev=rc (rv ev)
        . have hr:r=true:=by rw[hr];exact decide_eq_true hc
          have hs:=(hs (by simp[hi,hr])).2;rw[hs,hr];simp[hi, <-hc]
        . have hr:r=false:=by rw[hr];exact decide_eq_false hc
          rw[hr];simp[hc]
      . simp[hi]
     refine⟨fun hb=> ?_,fun hb=> ?_⟩
     . refine(decide_eq_false fun hall=> ?_).symm;obtain⟨hab,hcan⟩:=hall;subst hab;rw[ga]at gb;have gb:=Option.some.inj gb;rw[Prod.mk.injEq]at gb;have:=key.2 ⟨gb.1,hcan _ ma,gb.2⟩;rw[this]at hb;cases hb
     . obtain⟨k1,k2,k3⟩:=key.1 hb;rw[wr (by omega) (by omega)];refine⟨⟨by omega,by omega, ?_, ?_⟩,by omega⟩
       . rw[hta,htb,h2,k1,k3]
       . rw[hta];intro y hy;rcases List.mem_append.1 hy with hy|hy
         . exact h3 y hy
         . rw[List.mem_singleton.1 hy];exact k2
   . have h:=of_decide_eq_false h;rw[F6 (by omega),F6 (by omega)]at h2;rw[F6 (by omega)]at h3;exact(decide_eq_true ⟨h2,h3⟩).symm
theorem Mr {l:List F8} {e:F8} :Ex (l++ [e])↔Ex l/\∀x∈l,x.1<e.1:=by
 unfold Ex;rw[List.pairwise_append];simp
theorem HB (x:A5 Fi.args) (hw:awf Fi.args x) (hp:Fi.pre x):BH x:=by
 obtain⟨v,n,_⟩:=x;have hl:v.length<=9223372036854775807:=hw.1.1;change List (Int×(Bool×List Int)×List Int)at v;change Int at n;have hwh:∀e∈v,I9 e.2:=fun e he=>Er ((show EJ K1 v from hp) e he) (by decide)
 simp only[BH];refine⟨fun p=>0<=p.1/\p.1<=(v.length:Int)/\G7 (v.take p.1.toNat) n,fun p=>((v.length:Int)-p.1).toNat,⟨Int.le_refl _,Int.natCast_nonneg _,List.Pairwise.nil,by simp⟩, ?_⟩;rintro⟨i,_⟩ _ ⟨h0,h1,h2,h3⟩;change Int at i;simp only at h0 h1 h2 h3⊢;refine⟨fun h=> ?_,fun h=> ?_⟩
 . have h:=of_decide_eq_true h;have ma:=L6 (d:=C8) h0 h;have ga:=H2 (d:=C8) h0 h;have hta:v.take (i+1).toNat=v.take i.toNat++ [gx C8 v i]:=by
    rw[show(i+1).toNat=i.toNat+1 from by omega,List.take_add_one,ga];rfl
   have hprev:0<i->((∀x∈v.take i.toNat,x.1<(gx C8 v i).1)↔¬(gx C8 v i).1<=(gx C8 v (IntKind.i64.wrap (i-1))).1):=fun hi=>by
    rw[wr (by omega) (by omega)];have gp:=H2 (d:=C8) (l:=v) (i:=i-1) (by omega) (by omega);have htp:v.take i.toNat=v.take (i-1).toNat++ [gx C8 v (i-1)]:=by
     rw[show i.toNat=(i-1).toNat+1 from by omega,List.take_add_one,gp];rfl
    rw[htp]at h2⊢;constructor
    . intro hh;have:=hh (gx C8 v (i-1)) (by simp);omega
    . intro hh x hx;rcases List.mem_append.1 hx with hx|hx
      . have:=(Mr.1 h2).2 x hx;omega
      . rw[List.mem_singleton.1 hx];omega
   have hwr:0<i->IntKind.i64.wrap (i-1)=i-1:=fun _=>wr (by omega) (by omega)
   generalize gx C8 v (IntKind.i64.wrap (i-1))=f at*;generalize gx C8 v i=e at*;refine⟨⟨h0,h⟩,fun _=>⟨h0,h⟩,fun _=>⟨h0,h⟩,fun hh=> ?_,fun _=>⟨h0,h⟩,fun _=>hwh _ ma, ?_⟩
   . have hi:=of_decide_eq_true hh.1;rw[hwr hi];exact⟨by omega,by omega⟩
   rintro⟨r,_⟩ hr;change Int at r;simp only at hr⊢;rw[L3,J1,L3]at hr;rw[L3,J1,L3,L3];have key:(decide (e.1<0) ||decide (n<=e.1) || (decide (0<i)&&decide (e.1<=f.1)) ||decide (r=0))=false↔0<=e.1/\e.1<n/\(∀x∈v.take i.toNat,x.1<e.1)/\rv e.2≠0:=by
    have hpv:(∀x∈v.take i.toNat,x.1<e.1)↔(decide (0<i)&&decide (e.1<=f.1))=false:=by
     by_cases hi:0<i
     . rw[hprev hi];simp[hi]
     . have:i.toNat=0:=by omega
       rw[this];simp[hi]
    rw[hpv];by_cases hA:(decide (e.1<0) ||decide (n<=e.1) || (decide (0<i)&&decide (e.1<=f.1)))=false
    . have hr:=(hr hA).2;rw[hA,hr];simp only[Bool.or_eq_false_iff,decide_eq_false_iff_not]at hA;obtain⟨⟨q1,q2⟩,q3⟩:=hA;rw[q3];simp only[Bool.or_false,Bool.false_or,decide_eq_false_iff_not];exact⟨fun h=>⟨by omega,by omega,by trivial,fun h0=>h (by rw[h0];rfl)⟩,fun h h0=>h.2.2.2 (AJ h0)⟩
    . rw[Bool.or_eq_false_iff];constructor
      . intro hh;exact absurd hh.1 hA
      . rintro⟨q1,q2,q3,_⟩;refine absurd ?_ hA;simp only[Bool.or_eq_false_iff,decide_eq_false_iff_not];exact⟨⟨by omega,by omega⟩,q3⟩
   refine⟨fun hb=> ?_,fun hb=> ?_⟩
   . refine(decide_eq_false fun hall=> ?_).symm;obtain⟨hby,hmem⟩:=hall;have he:=hmem e ma;have hby2:Ex (v.take (i+1).toNat):=List.Pairwise.take hby;rw[hta,Mr]at hby2;have:=key.2 ⟨he.1,he.2.1,hby2.2,he.2.2⟩;rw[this]at hb;cases hb
   . obtain⟨k1,k2,k3,k4⟩:=key.1 hb;rw[wr (by omega) (by omega)];refine⟨⟨by omega,by omega, ?_, ?_⟩,by omega⟩
     . show Ex _;rw[hta,Mr];exact⟨h2,k3⟩
     . rw[hta];intro y hy;rcases List.mem_append.1 hy with hy|hy
       . exact h3 y hy
       . rw[List.mem_singleton.1 hy];exact⟨k1,k2,k4⟩
 . have h:=of_decide_eq_false h;rw[F6 (by omega)]at h2 h3;exact(decide_eq_true ⟨h2,h3⟩).symm
theorem ZD {s:Nat} (h1:1<=s) (k:Int):∀ {v:List F8},Xe v->EJ s v->qs ((s+1)*v.length+1) (C5 v k)
 | [],_,_=>Es (by simp)
 |e::v,hl,hs=>by
  have ih:=ZD h1 k (fun x hx=>hl x (List.mem_cons_of_mem _ hx)) (fun x hx=>hs x (List.mem_cons_of_mem _ hx));have he:qs s (if e.1=k then rv e.2 else 0):=by
   split
   . exact Vw (hl e (List.mem_cons_self ..)) (hs e (List.mem_cons_self ..)) h1
   . exact Es h1
  refine Gk (UR he ih) ?_;rw[List.length_cons,Nat.mul_add];omega
theorem mM {v:List F8} (hl:Xe v) (hp:Rc v) (n:Nat) (k:Int):qs K1 (C5 (v.take n) k):=by
 rcases hp with⟨ha,hs,_⟩ | ⟨h20,hs⟩
 . exact Tn ha.take (fun e he=>hl e (List.mem_of_mem_take he)) (fun e he=>hs e (List.mem_of_mem_take he)) (by decide) k
 . refine Gk (ZD (s:=65536) (by decide) k (fun e he=>hl e (List.mem_of_mem_take he)) (fun e he=>hs e (List.mem_of_mem_take he))) ?_;rw[List.length_take];have:min n v.length<=20:=Nat.le_trans (Nat.min_le_right ..) h20;have:=Nat.mul_le_mul_left 65537 this;show 65537* _ +1<=549755813888;omega
theorem eM {v:List F8} (hp:Rc v):v.length<=100000:=by
 rcases hp with⟨_,_,h⟩ | ⟨h,_⟩<;>omega
theorem mN {v:List F8} (hp:Rc v):EJ K1 v:=by
 rcases hp with⟨_,h,_⟩ | ⟨_,h⟩
 . exact h
 . exact fun e he=>Nw (h e he) (by decide)
theorem OU (x:A5 Mc.args) (hw:awf Mc.args x) (hp:Mc.pre x):MV x:=by
 obtain⟨v,k,_⟩:=x;have hlv:Xe v:=Nc hw.1.2;have hll:v.length<=9223372036854775807:=hw.1.1;change List F8 at v;change Int at k;have hp:Rc v:=hp;have hs:=mN hp;have hl:=eM hp;simp only[MV];refine⟨trivial, ?_⟩;rintro⟨z,_⟩ _ hz;simp only at hz⊢;refine⟨fun p=>0<=p.1/\p.1<=(v.length:Int)/\((p.2.1,p.2.2.1),p.2.2.2.1)=rc (C5 (v.take p.1.toNat) k),fun p=>((v.length:Int)-p.1).toNat,⟨Int.le_refl _,Int.natCast_nonneg _,by rw[hz];rfl⟩, ?_⟩;rintro⟨i,b,m,d,_⟩ _ ⟨h0,h1,h2⟩;change Int at i;simp only at h0 h1 h2⊢;refine⟨fun h=> ?_,fun h=> ?_⟩
 . have h:=of_decide_eq_true h;have hme:gx C8 v i∈v:=L6 h0 h;have hts:v.take (i+1).toNat=v.take i.toNat++ [gx C8 v i]:=by
    rw[show(i+1).toNat=i.toNat+1 from by omega,List.take_add_one,H2 (d:=C8) h0 h];rfl
   have hq:=mM hlv hp i.toNat k;have hse:=hs _ hme;have hct:C5 (v.take (i+1).toNat) k=C5 (v.take i.toNat) k+if(gx C8 v i).1=k then rv (gx C8 v i).2 else 0:=by
    rw[hts,M5];simp only[C5,Rat.add_zero]
   generalize gx C8 v i=e at*;refine⟨fun p=>((p.1,p.2.1),p.2.2.1)=rc (C5 (v.take (i+1).toNat) k),⟨⟨h0,h⟩,fun he=>⟨⟨h0,h⟩,⟨?_,Er (k:=K1) hse (by decide)⟩, ?_⟩,fun he=> ?_⟩, ?_⟩
   . rw[h2];exact Nt hq (by decide)
   . have he:=of_decide_eq_true he;rintro⟨r,_⟩ _ hr;simp only at hr⊢;show r= _;rw[hr,h2,W5,hct,if_pos he]
   . have he:=of_decide_eq_false he;show((b,m),d)= _;rw[h2,hct,if_neg he,Rat.add_zero]
   . rintro⟨b',m',d',_⟩ _ hr;simp only at hr⊢;rw[wr (by omega) (by omega)];exact⟨⟨by omega,by omega,hr⟩,by omega⟩
 . have h:=of_decide_eq_false h;rw[F6 (by omega)]at h2;exact h2
theorem A1w {r l:List Int} (h:r.Pairwise (· < ·)) (hs:∀i∈r,i∈l):r.length<=l.length:=by
 have hd:r.Nodup:=h.imp fun h e=>by omega
 clear h
 induction r generalizing l with
 |nil=>exact Nat.zero_le _
 |cons a r ih=>
  rw[List.nodup_cons]at hd;have hm:=hs a (List.mem_cons_self ..);have:=ih (l:=l.erase a) (fun i hi=>by
   refine(List.mem_erase_of_ne fun e=>hd.1 (by rw[<-e];exact hi)).2 (hs i (List.mem_cons_of_mem _ hi))) hd.2
  have h2:=List.length_erase_of_mem hm;have h3:=List.length_pos_of_mem hm;rw[List.length_cons];omega
theorem MW (x:A5 Hz.args) (hw:awf Hz.args x) (hp:Hz.pre x):FV x:=by
 obtain⟨v,_⟩:=x;have hlv:Xe v:=Nc hw.1.2;change List F8 at v;have hp:Rc v:=hp;have hs:=mN hp;have hl:=eM hp;simp only[FV];refine⟨⟨by simp,fun w hw=>by rw[List.mem_singleton.1 hw];exact hl⟩, ?_⟩;rintro⟨r,_⟩ ⟨⟨hrl,_⟩,_⟩ ⟨r1,r2⟩;change List Int at r;simp only at r1 r2 hrl⊢;have r3:∀i,i∈r↔∃e∈v,e.1=i:=fun i=>by
  rw[r2 i];constructor
  . rintro⟨w,hw,he⟩;rw[List.mem_singleton.1 hw]at he;exact he
  . intro he;exact⟨v,by simp,he⟩
 have hlen:r.length<=v.length:=by
  have:=A1w (l:=v.map fun e:F8=>e.1) r1 fun i hi=>by
   obtain⟨e,he,rfl⟩:=(r3 i).1 hi;exact List.mem_map_of_mem he
  rwa[List.length_map]at this
 refine⟨fun p=>0<=p.2.1/\p.2.1<=(r.length:Int)/\p.1.length<=p.2.1.toNat/\Ey p.1/\(∀e∈p.1,e.1∈r.take p.2.1.toNat)/\(∀j∈r.take p.2.1.toNat,C5 p.1 j=C5 v j),fun p=>((r.length:Int)-p.2.1).toNat,⟨Int.le_refl _,Int.natCast_nonneg _,Nat.le_refl _,IK,fun _ h=>(by cases h),by simp⟩, ?_⟩;rintro⟨out,j,_⟩ _ ⟨h0,h1,h2,h3,h4,h5⟩;change Int at j;change List F8 at out;simp only at h0 h1 h2 h3 h4 h5⊢;refine⟨fun h=> ?_,fun h=> ?_⟩
 . have h:=of_decide_eq_true h;have hts:r.take (j+1).toNat=r.take j.toNat++ [gx 0 r j]:=by
    rw[show(j+1).toNat=j.toNat+1 from by omega,List.take_add_one,H2 (d:=(0:Int)) h0 h];rfl
   have hlt:∀y∈r.take j.toNat,y<gx 0 r j:=fun y hy=>by
    have:(r.take (j+1).toNat).Pairwise (· < ·):=r1.take;rw[hts,List.pairwise_append]at this;exact this.2.2 y hy _ (List.mem_singleton.2 rfl)
   have hq:=mM hlv hp v.length (gx 0 r j);rw[List.take_length]at hq;generalize gx 0 r j=i at*;have hout:∀e∈out,e.1<i:=fun e he=>hlt _ (h4 e he)
   have hnil:C5 out i=0:=H5 fun e he hei=>by have:=hout e he;omega
   refine⟨fun p=>p.1.length<=(j+1).toNat/\Ey p.1/\(∀e∈p.1,e.1∈r.take (j+1).toNat)/\∀k∈r.take (j+1).toNat,C5 p.1 k=C5 v k,⟨⟨h0,h⟩,hp, ?_⟩, ?_⟩
   . rintro⟨q,_⟩ _ hq';simp only at hq'⊢;subst hq';refine⟨Nt hq (by decide), ?_⟩;rintro⟨s,_⟩ _ hsg;simp only at hsg⊢;rw[W5]at hsg;refine⟨fun hz=>⟨⟨by simp only[List.length_singleton];omega,by simp only[List.length_singleton];omega⟩,by show(out++ [(i,_)]).length<= _;simp;omega, ?_,fun e he=> ?_,fun k hk=> ?_⟩,fun hz=>⟨by show out.length<= _;omega,h3,fun e he=>by rw[hts];exact List.mem_append.2 (.inl (h4 e he)),fun k hk=> ?_⟩⟩
     . have hz:=of_decide_eq_true hz;exact PD h3 (fun h0=>hz (by rw[hsg,h0];rfl)) hout
     . rw[hts];rcases List.mem_append.1 he with he|he
       . exact List.mem_append.2 (.inl (h4 e he))
       . rw[List.mem_singleton.1 he];exact List.mem_append.2 (.inr (List.mem_singleton.2 rfl))
     . show C5 (out++ [(i,rc (C5 v i))]) k=C5 v k;rw[PI];rw[hts]at hk;rcases List.mem_append.1 hk with hk|hk
       . have:=hlt k hk;rw[if_neg (by omega),Rat.add_zero,h5 k hk]
       . rw[List.mem_singleton.1 hk,if_pos rfl,hnil,Rat.zero_add]
     . have hz:=of_decide_eq_false hz;have hz0:C5 v i=0:=AJ (by rw[<-hsg];exact Decidable.not_not.1 hz);rw[hts]at hk;show C5 out k=C5 v k;rcases List.mem_append.1 hk with hk|hk
       . exact h5 k hk
       . rw[List.mem_singleton.1 hk,hnil,hz0]
   . rintro⟨o,_⟩ _ ho;simp only at ho⊢;rw[wr (by omega) (by omega)];exact⟨⟨by omega,by omega,ho⟩,by omega⟩
 . have h:=of_decide_eq_false h;rw[F6 (by omega)]at h4 h5;refine⟨h3,fun i=> ?_⟩;by_cases hi:i∈r
   . exact h5 i hi
   . rw[H5 fun e he hei=>hi (by rw[<-hei];exact h4 e he),H5 fun e he hei=>hi ((r3 i).2 ⟨e,he,hei⟩)]
theorem PH (l:List G3) (j:Int):∀n:Nat,n<=l.length->C5 ((List.range n).map fun i:Nat=>((i:Int),l.getD i zr)) j=if 0<=j/\j<(n:Int)then rv (l.getD j.toNat zr)else 0
 |0,_=>by rw[if_neg (by omega)];rfl
 |n+1,h=>by
  rw[List.range_succ,List.map_append,M5,PH l j n (by omega)];simp only[List.map_cons,List.map_nil,C5,Rat.add_zero];by_cases hj:(n:Int)=j
  . subst hj;rw[if_neg (by omega),if_pos rfl,Rat.zero_add,if_pos (by omega),Int.toNat_natCast]
  . rw[if_neg hj,Rat.add_zero];by_cases h2:0<=j/\j<(n:Int)
    . rw[if_pos h2,if_pos (by omega)]
    . rw[if_neg h2,if_neg (by omega)]
theorem Vj (x:A5 W9.args) (hw:awf W9.args x) (hp:W9.pre x):Mh x:=by
 obtain⟨l,_⟩:=x;change List G3 at l;obtain⟨hl,hs⟩:l.length<=100000/\szL K1 l:=hp;simp only[Mh];refine⟨fun p=>0<=p.2.1/\p.2.1<=(l.length:Int)/\p.1=(List.range p.2.1.toNat).map fun i:Nat=>((i:Int),l.getD i zr),fun p=>((l.length:Int)-p.2.1).toNat,⟨Int.le_refl _,Int.natCast_nonneg _,rfl⟩, ?_⟩;rintro⟨v,i,_⟩ _ ⟨h0,h1,h2⟩;change List F8 at v;change Int at i;simp only at h0 h1 h2⊢;have hlen:v.length=i.toNat:=by rw[h2];simp
 refine⟨fun h=> ?_,fun h=> ?_⟩
 . have h:=of_decide_eq_true h;rw[A4v h0 h,wr (by omega) (by omega)];refine⟨⟨h0,h⟩,⟨by simp only[List.length_singleton];omega,by simp only[List.length_singleton];omega⟩,⟨by omega,by omega, ?_⟩,by omega⟩;rw[XZ _ h0,h2,show((i.toNat:Nat):Int)=i from by omega]
 . have h:=of_decide_eq_false h;have hi:i.toNat=l.length:=by omega
   rw[hi]at h2 hlen;have hcm:=fun j=>PH l j l.length (Nat.le_refl _)
   rw[<-h2]at hcm;refine⟨.inl ⟨?_,fun e he=> ?_,by omega⟩, ?_⟩
   . rw[h2];unfold Ex;rw[List.pairwise_map];exact List.pairwise_lt_range.imp fun h=>by show((_:Nat):Int)<((_:Nat):Int);omega
   . rw[h2]at he;obtain⟨j,hj,rfl⟩:=List.mem_map.1 he;rw[List.mem_range]at hj;exact hs _ (K4 hj)
   . rintro⟨r,_⟩ _ hr;simp only at hr⊢;exact dZ hr (fun i hi=>by rw[hcm,if_neg hi]) fun j hj=>by rw[hcm,if_pos (by omega),Int.toNat_natCast]
theorem HA (x:A5 Fh.args) (hw:awf Fh.args x) (hp:Fh.pre x):BF x:=by
 obtain⟨v,n,_⟩:=x;have hlv:Xe v:=Nc hw.1.2;change List F8 at v;change Int at n;obtain⟨hv,hva,n0,n1⟩:DT K1 v/\G7 v n/\0<=n/\n<=16384:=hp;simp only[BF];have hc0:E5 (decide (n<0)) true (decide (16384<n))=false:=by
  rw[L3];simp only[Bool.or_eq_false_iff,decide_eq_false_iff_not];omega
 refine⟨fun _=> .inl hv, ?_⟩;rintro⟨c,_⟩ hc;change List F8 at c;obtain⟨_,hc1,hc2⟩:=hc hc0;simp only at hc1 hc2⊢;have hq:∀i,qs K1 (C5 c i):=fun i=>by rw[hc2];exact Tn hv.1 hlv hv.2.1 (by decide) i
 refine⟨fun _=>dI hc1 hq, ?_⟩;rintro⟨b,_⟩ hb;have hb:=(hb hc0).2;simp only at hb⊢;have hcv:G7 c n:=⟨hc1.1,fun e he=>by
  have:C5 v e.1≠0:=by rw[<-hc2,Kv hc1.1 he];exact(hc1.2 e he).1
  have:=cY hva this;exact⟨this.1,this.2,(hc1.2 e he).1⟩⟩
 have hbt:b=true:=by rw[hb];exact decide_eq_true hcv
 have hall:(E5 (E5 (decide (n<0)) true (decide (16384<n))) true !b)=false:=by rw[hc0,hbt];rfl
 refine⟨fun h=>(by rw[hall]at h;cases h),fun _=>⟨⟨n0,Int.le_refl _,by omega,by omega⟩, ?_⟩⟩;have hrl:(List.replicate n.toNat dQ).length=n.toNat:=List.length_replicate;refine⟨fun p=>0<=p.1/\p.1<=n/\fill n.toNat p.1.toNat (fun j:Nat=>rc (C5 v (j:Int))) p.2.1,fun p=>(n-p.1).toNat,⟨Int.le_refl _,n0,A1c hrl⟩, ?_⟩;rintro⟨i,out,_⟩ _ ⟨i0,i1,hf⟩;change Int at i;change List G3 at out;simp only at i0 i1 hf⊢;refine⟨fun h=>⟨.inl hv, ?_⟩,fun h=> ?_⟩
 . have h:=of_decide_eq_true h;have:=hf.1;rintro⟨r,_⟩ _ hr;simp only at hr⊢;rw[wr (by omega) (by omega)];exact⟨⟨i0,by omega⟩,⟨by omega,by omega,WS hf i0 (by omega) (by rw[hr,show((i.toNat:Nat):Int)=i from by omega])⟩,by omega⟩
 . have h:=of_decide_eq_false h;exact⟨WR hf (by omega),by trivial⟩
def Yv:An:= {}
def GC:An:= {loop:= [(4,⟨[1,24,25],[0],[(26,false,[.val (.int .i64)])],[],[]⟩)]}
def GB:An:= {join:= [(20,⟨[1,2,3,6,8,10,14,16,62,63,64,85,86,87],[0,1,2,3,4,6],[],[(7,79,[.val (.int .i64), .val .bool, .val (.sl (.int .u32)), .val (.sl (.int .u32))])],[]⟩),(23,⟨[1,2,3,6,8,10,62,63,64],[0,1,2],[],[(3,25,[.val (.int .i64), .val (.int .i64), .own (.sl tE) 65])],[]⟩)],loop:= [(16,⟨[1,2,3,6,8,10,62,63,64,85,86],[0,1,2,3,4],[(14,false,[.own tE 79]),(87,false,[.val (.int .i64)])],[],[]⟩),(10,⟨[1,2,3,6,8,10,62,63],[0,1,2],[(64,false,[.val (.int .i64)])],[(3,25,[.val (.int .i64), .val (.int .i64), .own (.sl tE) 65])],[]⟩)],plan:= [(13,[3],[7],true, .done),(15,[1,3,6],[],true, .done)]}
def Jo:A5 O5.args->Prop:=fun(x:Int×Unit)=>E5 (decide (0<=x.1)) (decide (x.1<=16384)) false=decide (0<=x.1/\x.1<=16384)
def Oo:A5 P0.args->Prop:=fun(x:MM×Unit)=>True/\∀(r:Bool×Unit),True/\True->r.1=decide (0<=x.1.1/\x.1.1<=16384)->((!r.1)=false->True)/\∀(a:Bool×Unit),((!r.1)=false->(True/\True)/\a.1=decide (0<=x.1.2.1/\x.1.2.1<=16384))->(E5 (E5 (!r.1) true !a.1) true (decide ((x.1.2.2.length:Int)≠x.1.1))=true->false=decide (C3 x.1))/\(E5 (E5 (!r.1) true !a.1) true (decide ((x.1.2.2.length:Int)≠x.1.1))=false->∃(I:Int×Unit->Prop),∃(μ:Int×Unit->Nat),I ((0:Int),())/\∀(p:Int×Unit),(Ty.int IntKind.i64).wf p.1/\True->I p->(decide (p.1<(x.1.2.2.length:Int))=true->(0<=p.1/\p.1<(x.1.2.2.length:Int))/\True/\∀(r:Bool×Unit),True/\True->r.1=decide (G7 (gx [] x.1.2.2 p.1) x.1.2.1)->((!r.1)=true->false=decide (C3 x.1))/\((!r.1)=false->I (IntKind.i64.wrap (p.1+1),())/\μ (IntKind.i64.wrap (p.1+1),())<μ p))/\(decide (p.1<(x.1.2.2.length:Int))=false->true=decide (C3 x.1)))
def qb (x:MM×Int×Int×Unit) (r:QQ×Unit) (I:Int×Int×Int×List (List EE)×Unit->Prop) (μ:Int×Int×Int×List (List EE)×Unit->Nat) (p:Int×Int×Int×List (List EE)×Unit) (J:Int×Int×List (List EE)×Unit->Prop) (c:QQ×Unit):Prop:=∀(r:QQ×Unit),U7 r.1/\True->r.1=rc (-rv c.1)->(0<=x.2.1/\x.2.1<(x.1.2.2.length:Int))/\(DT K1 (gx [] x.1.2.2 p.1)/\sz K1 r.1/\DT K1 (gx [] x.1.2.2 x.2.1))/\∀(b:List EE×Unit),Mn b.1/\True->lO (fun(i:Int)=>C5 (gx [] x.1.2.2 p.1) i+rv r.1*C5 (gx [] x.1.2.2 x.2.1) i) b.1->∃(I:List EE×Int×Unit->Prop),∃(μ:List EE×Int×Unit->Nat),I ([],(0:Int),())/\∀(a:List EE×Int×Unit),tE.sl.wf a.1/\(Ty.int IntKind.i64).wf a.2.1/\True->I a->(decide (a.2.1<(b.1.length:Int))=true->(0<=a.2.1/\a.2.1<(b.1.length:Int))/\∃(J:Int×Bool×List Int×List Int×Unit->Prop),((decide (x.2.2.1<(gx C8 b.1 a.2.1).1)=true->J (IntKind.i64.wrap ((gx C8 b.1 a.2.1).1-(1:Int)),(gx C8 b.1 a.2.1).2.1.1,(gx C8 b.1 a.2.1).2.1.2,(gx C8 b.1 a.2.1).2.2,()))/\(decide (x.2.2.1<(gx C8 b.1 a.2.1).1)=false->J ((gx C8 b.1 a.2.1).1,(gx C8 b.1 a.2.1).2.1.1,(gx C8 b.1 a.2.1).2.1.2,(gx C8 b.1 a.2.1).2.2,())))/\∀(p:Int×Bool×List Int×List Int×Unit),(Ty.int IntKind.i64).wf p.1/\Ty.bool.wf p.2.1/\(Ty.int IntKind.u32).sl.wf p.2.2.1/\(Ty.int IntKind.u32).sl.wf p.2.2.2.1/\True->J p->((a.1.length+ [(p.1,(p.2.1,p.2.2.1),p.2.2.2.1)].length)*(64:Nat)<=(140737488355328:Nat)/\a.1.length+ [(p.1,(p.2.1,p.2.2.1),p.2.2.2.1)].length<=9223372036854775807)/\I (a.1++ [(p.1,(p.2.1,p.2.2.1),p.2.2.2.1)],IntKind.i64.wrap (a.2.1+1),())/\μ (a.1++ [(p.1,(p.2.1,p.2.2.1),p.2.2.2.1)],IntKind.i64.wrap (a.2.1+1),())<μ a)/\(decide (a.2.1<(b.1.length:Int))=false->((p.2.2.2.1.length+ [a.1].length)*(24:Nat)<=(140737488355328:Nat)/\p.2.2.2.1.length+ [a.1].length<=9223372036854775807)/\J (p.2.1,p.2.2.1,p.2.2.2.1++ [a.1],()))
def Om:A5 Z9.args->Prop:=fun(x:MM×Int×Int×Unit)=>True/\∀(r:Bool×Unit),True/\True->r.1=decide (C3 x.1)->((!r.1)=true->(¬C3 x.1->((0:Int),(0:Int),[])=zm/\(1:Int)=(1:Int))/\(C3 x.1->(¬(0<=x.2.1/\x.2.1<x.1.1/\0<=x.2.2.1/\x.2.2.1<x.1.2.1)->((0:Int),(0:Int),[])=zm/\(1:Int)=(3:Int))/\(0<=x.2.1/\x.2.1<x.1.1/\0<=x.2.2.1/\x.2.2.1<x.1.2.1->(el x.1 x.2.1.toNat x.2.2.1.toNat=(0:Rat)->((0:Int),(0:Int),[])=zm/\(1:Int)=(5:Int))/\(el x.1 x.2.1.toNat x.2.2.1.toNat≠(0:Rat)->Em (x.1.1-1).toNat (x.1.2.1-1).toNat (UO x.1 x.2.1.toNat x.2.2.1.toNat) ((0:Int),(0:Int),[])/\(1:Int)=(0:Int)))))/\((!r.1)=false->(E5 (E5 (E5 (decide (x.2.1<0)) true (decide (x.1.1<=x.2.1))) true (decide (x.2.2.1<0))) true (decide (x.1.2.1<=x.2.2.1))=true->(¬C3 x.1->((0:Int),(0:Int),[])=zm/\(3:Int)=(1:Int))/\(C3 x.1->(¬(0<=x.2.1/\x.2.1<x.1.1/\0<=x.2.2.1/\x.2.2.1<x.1.2.1)->((0:Int),(0:Int),[])=zm/\(3:Int)=(3:Int))/\(0<=x.2.1/\x.2.1<x.1.1/\0<=x.2.2.1/\x.2.2.1<x.1.2.1->(el x.1 x.2.1.toNat x.2.2.1.toNat=(0:Rat)->((0:Int),(0:Int),[])=zm/\(3:Int)=(5:Int))/\(el x.1 x.2.1.toNat x.2.2.1.toNat≠(0:Rat)->Em (x.1.1-1).toNat (x.1.2.1-1).toNat (UO x.1 x.2.1.toNat x.2.2.1.toNat) ((0:Int),(0:Int),[])/\(3:Int)=(0:Int)))))/\(E5 (E5 (E5 (decide (x.2.1<0)) true (decide (x.1.1<=x.2.1))) true (decide (x.2.2.1<0))) true (decide (x.1.2.1<=x.2.2.1))=false->(0<=x.2.1/\x.2.1<(x.1.2.2.length:Int))/\DT K1 (gx [] x.1.2.2 x.2.1)/\∀(r:QQ×Unit),U7 r.1/\True->r.1=rc (C5 (gx [] x.1.2.2 x.2.1) x.2.2.1)->I9 r.1/\∀(d:QQ×Bool×Unit),U7 d.1/\True/\True->(rv r.1=(0:Rat)->d.2.1=false)/\(rv r.1≠(0:Rat)->d.1=rc (rv r.1)⁻¹/\d.2.1=true)->((!d.2.1)=true->(¬C3 x.1->((0:Int),(0:Int),[])=zm/\(5:Int)=(1:Int))/\(C3 x.1->(¬(0<=x.2.1/\x.2.1<x.1.1/\0<=x.2.2.1/\x.2.2.1<x.1.2.1)->((0:Int),(0:Int),[])=zm/\(5:Int)=(3:Int))/\(0<=x.2.1/\x.2.1<x.1.1/\0<=x.2.2.1/\x.2.2.1<x.1.2.1->(el x.1 x.2.1.toNat x.2.2.1.toNat=(0:Rat)->((0:Int),(0:Int),[])=zm/\(5:Int)=(5:Int))/\(el x.1 x.2.1.toNat x.2.2.1.toNat≠(0:Rat)->Em (x.1.1-1).toNat (x.1.2.1-1).toNat (UO x.1 x.2.1.toNat x.2.2.1.toNat) ((0:Int),(0:Int),[])/\(5:Int)=(0:Int)))))/\((!d.2.1)=false->∃(I:Int×Int×Int×List (List EE)×Unit->Prop),∃(μ:Int×Int×Int×List (List EE)×Unit->Nat),I ((0:Int),IntKind.i64.wrap (x.1.1-1),IntKind.i64.wrap (x.1.2.1-1),[],())/\∀(p:Int×Int×Int×List (List EE)×Unit),(Ty.int IntKind.i64).wf p.1/\(Ty.int IntKind.i64).wf p.2.1/\(Ty.int IntKind.i64).wf p.2.2.1/\tE.sl.sl.wf p.2.2.2.1/\True->I p->(decide (p.1<(x.1.2.2.length:Int))=true->∃(J:Int×Int×List (List EE)×Unit->Prop),((0<=p.1/\p.1<(x.1.2.2.length:Int))/\(decide (p.1=x.2.1)=true->J (p.2.1,p.2.2.1,p.2.2.2.1,()))/\(decide (p.1=x.2.1)=false->(DT K1 (gx [] x.1.2.2 p.1)/\∀(r:QQ×Unit),U7 r.1/\True->r.1=rc (C5 (gx [] x.1.2.2 p.1) x.2.2.1)->((I9 r.1/\I9 d.1)/\∀(c:QQ×Unit),U7 c.1/\True->c.1=rc (rv r.1*rv d.1)->(I9 c.1/\qb x r I μ p J c)/\I9 c.1/\qb x r I μ p J c)/\(I9 r.1/\I9 d.1)/\∀(c:QQ×Unit),U7 c.1/\True->c.1=rc (rv r.1*rv d.1)->I9 c.1/\qb x r I μ p J c)/\DT K1 (gx [] x.1.2.2 p.1)/\∀(r:QQ×Unit),U7 r.1/\True->r.1=rc (C5 (gx [] x.1.2.2 p.1) x.2.2.1)->(I9 r.1/\I9 d.1)/\∀(c:QQ×Unit),U7 c.1/\True->c.1=rc (rv r.1*rv d.1)->I9 c.1/\qb x r I μ p J c))/\∀(a:Int×Int×List (List EE)×Unit),(Ty.int IntKind.i64).wf a.1/\(Ty.int IntKind.i64).wf a.2.1/\tE.sl.sl.wf a.2.2.1/\True->J a->I (IntKind.i64.wrap (p.1+1),a.1,a.2.1,a.2.2.1,())/\μ (IntKind.i64.wrap (p.1+1),a.1,a.2.1,a.2.2.1,())<μ p)/\(decide (p.1<(x.1.2.2.length:Int))=false->(¬C3 x.1->(p.2.1,p.2.2.1,p.2.2.2.1)=zm/\(0:Int)=(1:Int))/\(C3 x.1->(¬(0<=x.2.1/\x.2.1<x.1.1/\0<=x.2.2.1/\x.2.2.1<x.1.2.1)->(p.2.1,p.2.2.1,p.2.2.2.1)=zm/\(0:Int)=(3:Int))/\(0<=x.2.1/\x.2.1<x.1.1/\0<=x.2.2.1/\x.2.2.1<x.1.2.1->(el x.1 x.2.1.toNat x.2.2.1.toNat=(0:Rat)->(p.2.1,p.2.2.1,p.2.2.2.1)=zm/\(0:Int)=(5:Int))/\(el x.1 x.2.1.toNat x.2.2.1.toNat≠(0:Rat)->Em (x.1.1-1).toNat (x.1.2.1-1).toNat (UO x.1 x.2.1.toNat x.2.2.1.toNat) (p.2.1,p.2.2.1,p.2.2.2.1)/\(0:Int)=(0:Int))))))))
theorem HJ {D:List (List F8)} {R C:Int} (h:∀x∈D,List.length x<=9223372036854775807/\∀y∈x,WfE y):bK (R,C,D):=fun v hv=>Nc (h v hv).2
theorem CP {D:List (List F8)} {i:Int} (h0:0<=i) (h1:i<(D.length:Int)):gx [] D i=D.getD i.toNat []:=P7 h0 h1
theorem Si (x:A5 O5.args) (hw:awf O5.args x) (_:O5.pre x):Jo x:=by
 simp only[Jo];rw[J1,Bool.decide_and]
theorem Yg (x:A5 P0.args) (hw:awf P0.args x) (_:P0.pre x):Oo x:=by
 obtain⟨⟨R,C,D⟩,_⟩:=x;have hD:D.length<=9223372036854775807:=hw.1.2.2.1;change Int at R C;change List (List F8)at D;simp only[Oo];refine⟨trivial, ?_⟩;rintro⟨r,_⟩ _ hr;simp only at hr⊢;refine⟨fun _=>trivial, ?_⟩;rintro⟨s,_⟩ hs;simp only at hs⊢;rw[L3,L3];by_cases hR:0<=R/\R<=16384
 . have hr:r=true:=by rw[hr];exact decide_eq_true hR
   have hs:=(hs (by rw[hr];rfl)).2;rw[hr,hs];refine⟨fun h=> ?_,fun h=> ?_⟩
   . refine(decide_eq_false fun hv=> ?_).symm;obtain⟨_,_,v3,v4,v5,_⟩:=hv;simp only at v3 v4 v5;rw[decide_eq_true (show 0<=C/\C<=16384 from⟨v3,v4⟩)]at h;simp at h;exact h v5
   . simp only[Bool.not_true,Bool.false_or,Bool.or_eq_false_iff,Bool.not_eq_false',decide_eq_true_eq,decide_eq_false_iff_not,Decidable.not_not]at h;refine⟨fun p=>0<=p.1/\∀v∈D.take p.1.toNat,G7 v C,fun p=>((D.length:Int)-p.1).toNat,⟨Int.le_refl _,by simp⟩, ?_⟩;rintro⟨i,_⟩ _ ⟨h0,h1⟩;change Int at i;simp only at h0 h1⊢;refine⟨fun hi=> ?_,fun hi=> ?_⟩
     . have hi:=of_decide_eq_true hi;refine⟨⟨h0,hi⟩,trivial, ?_⟩;rintro⟨b,_⟩ _ hb;simp only at hb⊢;refine⟨fun h2=> ?_,fun h2=> ?_⟩
       . refine(decide_eq_false fun hv=> ?_).symm;rw[hb]at h2;have:=hv.2.2.2.2.2 _ (L6 (d:=([]:List F8)) h0 hi);rw[decide_eq_true this]at h2;cases h2
       . rw[hb]at h2;have h2:decide (G7 (gx [] D i) C)=true:=by simpa using h2
         rw[wr (by omega) (by omega)];exact⟨⟨by omega,Cf (d:=([]:List F8)) (q:=fun v=>G7 v C) h0 hi h1 (of_decide_eq_true h2)⟩,by omega⟩
     . have hi:=of_decide_eq_false hi;rw[F6 (by omega)]at h1;exact(decide_eq_true ⟨hR.1,hR.2,h.1.1,h.1.2,h.2,h1⟩).symm
 . have hr:r=false:=by rw[hr];exact decide_eq_false hR
   rw[hr];refine⟨fun _=>(decide_eq_false fun hv=>hR ⟨hv.1,hv.2.1⟩).symm,fun h=>(by simp at h)⟩
theorem IQ {R C:Int} {D:List (List F8)} (i:Nat) (j:Int) (h:0<=j):C5 (D.getD i []) j=el (R,C,D) i j.toNat:=by
 unfold el;rw[show((j.toNat:Nat):Int)=j from by omega]
theorem PK {d:F8} {v:List F8} {i:Int} (h0:0<=i) (h1:i<(v.length:Int)) (j:Int):C5 (v.take (i+1).toNat) j=C5 (v.take i.toNat) j+if(gx d v i).1=j then rv (gx d v i).2 else 0:=by
 rw[show(i+1).toNat=i.toNat+1 from by omega,List.take_add_one,H2 (d:=d) h0 h1,M5];simp only[Option.toList_some,C5,Rat.add_zero]
theorem nT {j k:Nat} {v:List F8} (h:EJ j v) (hk:j<=k):EJ k v:=fun e he=>Nw (h e he) hk
theorem mP {j k:Nat} {m:Bc} (h:Gu j m) (hk:j<=k):Gu k m:=fun v hv=>nT (h v hv) hk
def oD (j:Int) (e:F8):F8:=if j<e.1 then(e.1-1,e.2)else e
theorem fB (j:Int) (e:F8):(oD j e).1=if j<e.1 then e.1-1 else e.1:=by unfold oD;split<;>rfl
theorem A1l (j:Int) (e:F8):(oD j e).2=e.2:=by unfold oD;split<;>rfl
theorem jU {j:Int} {w:List F8} (hj:∀e∈w,e.1≠j) (c:Int):C5 (w.map (oD j)) c=C5 w (if c<j then c else c+1):=by
 induction w with
 |nil=>rfl
 |cons e w ih=>
  have h1:=hj e (List.mem_cons_self ..);rw[List.map_cons,C5,C5,ih fun x hx=>hj x (List.mem_cons_of_mem _ hx),fB,A1l];congr 1;by_cases h2:j<e.1
  . rw[if_pos h2];by_cases h3:c<j
    . rw[if_pos h3,if_neg (by omega),if_neg (by omega)]
    . rw[if_neg h3];by_cases h4:e.1-1=c
      . rw[if_pos h4,if_pos (by omega)]
      . rw[if_neg h4,if_neg (by omega)]
  . rw[if_neg h2];by_cases h3:c<j
    . rw[if_pos h3]
    . rw[if_neg h3,if_neg (by omega),if_neg (by omega)]
theorem jO {j:Int} {w:List F8} (h:Ey w) (hj:∀e∈w,e.1≠j):Ey (w.map (oD j)):=by
 refine⟨?_,fun e he=> ?_⟩
 . unfold Ex;rw[List.pairwise_map];refine List.Pairwise.imp_of_mem ?_ h.1;intro a b ha hb hab;rw[fB,fB];have:=hj a ha;have:=hj b hb;split<;>split<;>omega
 . obtain⟨x,hx,rfl⟩:=List.mem_map.1 he;rw[A1l];exact h.2 x hx
theorem US {R C:Int} {D:List (List F8)} {k:Nat} (hv:C3 (R,C,D)) (hl:bK (R,C,D)) (hs:Gu k (R,C,D)) (hk:1<=k) {v:List F8} (hm:v∈D) (j:Int):qs k (C5 v j):=Tn (hv.2.2.2.2.2 v hm).1 (hl v hm) (hs v hm) hk j
theorem A0c (a b c d:Rat):a+ -(b*d⁻¹)*c=a-b*c/d:=by
 rw[Rat.div_def];grind
theorem Yf (x:A5 Z9.args) (hw:awf Z9.args x) (hp:Z9.pre x):Om x:=by
 obtain⟨⟨R,C,D⟩,I,J,_⟩:=x;have hlm:bK (R,C,D):=HJ hw.1.2.2.2;change Int at R C I J;change List (List F8)at D;have hs:Gu K0 (R,C,D):=hp;have hs1:Gu K1 (R,C,D):=mP hs (by decide);simp only[Om,qb];refine⟨trivial, ?_⟩;rintro⟨r,_⟩ _ hr;simp only at hr⊢;simp only[L3];by_cases hv:C3 (R,C,D)
 . have hr:r=true:=by rw[hr];exact decide_eq_true hv
   rw[hr];obtain⟨v1,v2,v3,v4,_,_⟩:=id hv;have v5:(D.length:Int)=R:=hv.2.2.2.2.1;have v6:∀v∈D,G7 v C:=hv.2.2.2.2.2;simp only at v1 v2 v3 v4;refine⟨fun h=>(by cases h),fun _=>⟨fun h=> ?_,fun h=> ?_⟩⟩
   . simp only[Bool.or_eq_true,decide_eq_true_eq]at h;exact⟨fun h2=>absurd hv h2,fun _=>⟨fun _=>⟨rfl,by trivial⟩,fun h2=>absurd h2 (by omega)⟩⟩
   . simp only[Bool.or_eq_false_iff,decide_eq_false_iff_not]at h;have hin:0<=I/\I<R/\0<=J/\J<C:=by omega
     obtain⟨i0,i1,j0,j1⟩:=hin;have hmi:=L6 (d:=([]:List F8)) (l:=D) i0 (by omega);rw[CP (D:=D) i0 (by omega)]at hmi⊢;have hpq:=US hv hlm hs (by decide) hmi J;have hpe:C5 (D.getD I.toNat []) J=el (R,C,D) I.toNat J.toNat:=IQ _ _ j0;refine⟨⟨i0,by omega⟩,Xx hv hs1 hmi, ?_⟩;rintro⟨pq,_⟩ _ hpv;simp only at hpv⊢;subst hpv;refine⟨Nt hpq (by decide), ?_⟩;rintro⟨inv,ok,_⟩ _ ⟨hi1,hi2⟩;simp only[W5]at hi1 hi2⊢;rw[hpe]at hi1 hi2 hpq;by_cases hz:el (R,C,D) I.toNat J.toNat=0
     . rw[hi1 hz];exact⟨fun _=>⟨fun h2=>absurd hv h2,fun _=>⟨fun h2=>absurd ⟨i0,i1,j0,j1⟩ h2,fun _=>⟨fun _=>⟨rfl,by trivial⟩,fun h2=>absurd hz h2⟩⟩⟩,fun h2=>(by cases h2)⟩
     . obtain⟨hi3,hi4⟩:=hi2 hz;rw[hi4];refine⟨fun h2=>(by cases h2),fun _=> ?_⟩;subst hi3;rw[wr (a:=R-1) (by omega) (by omega),wr (a:=C-1) (by omega) (by omega)]
       let rowIx:Int->Nat:=fun k=>if k<=I then k.toNat else(k-1).toNat
       refine⟨fun p=>0<=p.1/\p.1<=R/\p.2.1=R-1/\p.2.2.1=C-1/\p.2.2.2.1.length=rowIx p.1/\∀t,t<p.2.2.2.1.length->TT (C-1).toNat (UO (R,C,D) I.toNat J.toNat t) (p.2.2.2.1.getD t []),fun p=>(R-p.1).toNat,⟨Int.le_refl _,v1,rfl,rfl,by show 0=rowIx 0;simp[rowIx],fun t ht=>by simp at ht⟩, ?_⟩;rintro⟨k,a,b,rows,_⟩ _ ⟨k0,k1,ka,kb,kl,kf⟩;change Int at k a b;change List (List F8)at rows;simp only at k0 k1 ka kb kl kf⊢;subst ka kb;have hrl:rows.length<=16384:=by
        rw[kl];simp only[rowIx];split<;>omega
       refine⟨fun h=> ?_,fun h=> ?_⟩
       . have h:=of_decide_eq_true h;have hmk:=L6 (d:=([]:List F8)) k0 h;rw[CP k0 h]at hmk⊢;have hkq:=US hv hlm hs (by decide) hmk;have hke:∀c:Nat,C5 (D.getD k.toNat []) (c:Int)=el (R,C,D) k.toNat c:=fun _=>rfl
         have hkJ:C5 (D.getD k.toNat []) J=el (R,C,D) k.toNat J.toNat:=IQ _ _ j0;have hie:∀c:Nat,C5 (D.getD I.toNat []) (c:Int)=el (R,C,D) I.toNat c:=fun _=>rfl
         have hok1:=Xx hv hs1 hmk;have hok2:=Xx hv hs1 hmi;have hvk:=v6 _ hmk;have hvi:=v6 _ hmi;refine⟨fun p=>p.1=R-1/\p.2.1=C-1/\p.2.2.1.length=rowIx (k+1)/\∀t,t<p.2.2.1.length->TT (C-1).toNat (UO (R,C,D) I.toNat J.toNat t) (p.2.2.1.getD t []),⟨⟨k0,h⟩,fun hk=> ?_,fun hk=> ?_⟩, ?_⟩
         . have hk:=of_decide_eq_true hk;refine⟨rfl,rfl, ?_,kf⟩;show rows.length= _;rw[kl];simp only[rowIx];rw[if_pos (by omega),if_neg (by omega)];omega
         . have hk:=of_decide_eq_false hk;have hq3:=A3j (EA (hkq J) (cF hpq));generalize hrk:D.getD k.toNat []=rk at*;generalize hri:D.getD I.toNat []=ri' at*;have S1:I9 (rc (C5 rk J)):=Nt (hkq J) (by decide);have S2:I9 (rc (el (R,C,D) I.toNat J.toNat)⁻¹):=Nt (cF hpq) (by decide);have S3:I9 (rc (C5 rk J*(el (R,C,D) I.toNat J.toNat)⁻¹)):=Nt (EA (hkq J) (cF hpq)) (by decide);have S4:0<=I/\I<(D.length:Int):=⟨i0,by omega⟩;have S5:DT K1 rk/\sz K1 (rc (-(C5 rk J*(el (R,C,D) I.toNat J.toNat)⁻¹)))/\DT K1 ri':=⟨hok1,Gk hq3 (by decide),hok2⟩
           repeat' first
            |assumption
            |apply And.intro
            | (rintro⟨q,_⟩ _ hq;simp only[W5]at hq⊢;subst hq;try simp only[W5])
           all_goals
            rintro⟨w,_⟩ ⟨⟨hwl,_⟩,_⟩ ⟨hw1,hw2⟩;change List F8 at w;simp only[W5]at hw1 hw2 hwl⊢;have hwc:∀c:Int,C5 w c=C5 rk c-C5 rk J*C5 ri' c/el (R,C,D) I.toNat J.toNat:=fun c=>by rw[hw2,A0c]
            have hwj:∀e∈w,e.1≠J:=fun e he hej=>by
             have h3:=Kv hw1.1 he;rw[hej,hwc,hpe,Rat.mul_div_cancel hz,Rat.sub_self]at h3;exact(hw1.2 e he).1 h3.symm
            have hwr:∀e∈w,0<=e.1/\e.1<C:=fun e he=>Decidable.byContradiction fun hn=>by
             have h3:=Kv hw1.1 he;rw[hwc,EL hvk hn,EL hvi hn,Rat.mul_zero,Rat.div_def,Rat.zero_mul,Rat.sub_self]at h3;exact(hw1.2 e he).1 h3.symm
            have hwlen:(w.length:Int)<=C:=by
             have:=SO (v:=w) (n:=C) ⟨hw1.1,fun e he=>⟨(hwr e he).1,(hwr e he).2,(hw1.2 e he).1⟩⟩;omega
            refine⟨fun p=>0<=p.2.1/\p.2.1<=(w.length:Int)/\p.1=(w.take p.2.1.toNat).map (oD J),fun p=>((w.length:Int)-p.2.1).toNat,⟨Int.le_refl _,Int.natCast_nonneg _,rfl⟩, ?_⟩;rintro⟨kept,t,_⟩ _ ⟨t0,t1,hkp⟩;change List F8 at kept;change Int at t;simp only at t0 t1 hkp⊢;have hkl:kept.length<=16384:=by rw[hkp,List.length_map,List.length_take];omega
            refine⟨fun ht=> ?_,fun ht=> ?_⟩
            . have ht:=of_decide_eq_true ht;have hem:=L6 (d:=C8) t0 ht;have her:=hwr _ hem;have hts:w.take (t+1).toNat=w.take t.toNat++ [gx C8 w t]:=by
               rw[show(t+1).toNat=t.toNat+1 from by omega,List.take_add_one,H2 (d:=C8) t0 ht];rfl
              generalize gx C8 w t=e at*;refine⟨⟨t0,ht⟩,fun p=>(p.1,(p.2.1,p.2.2.1),p.2.2.2.1)=oD J e,⟨fun hc=> ?_,fun hc=> ?_⟩, ?_⟩
              . have hc:=of_decide_eq_true hc;rw[wr (by omega) (by omega)];unfold oD;rw[if_pos hc]
              . have hc:=of_decide_eq_false hc;unfold oD;rw[if_neg hc]
              . rintro⟨e1,e2,e3,e4,_⟩ _ he;simp only at he⊢;rw[he,wr (by omega) (by omega)];refine⟨⟨by simp only[List.length_singleton];omega,by simp only[List.length_singleton];omega⟩,⟨by omega,by omega, ?_⟩,by omega⟩;rw[hts,List.map_append,hkp];rfl
            . have ht:=of_decide_eq_false ht;rw[F6 (by omega)]at hkp;refine⟨⟨by simp only[List.length_singleton];omega,by simp only[List.length_singleton];omega⟩,by trivial,by trivial, ?_,fun u hu=> ?_⟩
              . show(rows++ [kept]).length= _;rw[List.length_append,kl,List.length_singleton];simp only[rowIx];by_cases hkI:k<=I
                . rw[if_pos hkI,if_pos (by omega)];omega
                . rw[if_neg hkI,if_neg (by omega)];omega
              . have hu:u<(rows++ [kept]).length:=hu;show TT _ _ ((rows++ [kept]).getD u []);rw[List.length_append,List.length_singleton]at hu;rw[List.getD_eq_getElem?_getD];by_cases hu2:u<rows.length
                . rw[List.getElem?_append_left hu2, <-List.getD_eq_getElem?_getD];exact kf u hu2
                . have hu3:u=rows.length:=by omega
                  subst hu3;rw[List.getElem?_append_right (Nat.le_refl _),Nat.sub_self];show TT _ _ kept;have hr0:(if rows.length<I.toNat then rows.length else rows.length+1)=k.toNat:=by
                   rw[kl];simp only[rowIx];by_cases hkI:k<=I
                   . rw[if_pos hkI,if_pos (by omega)]
                   . rw[if_neg hkI,if_neg (by omega)];omega
                  rw[hkp];refine⟨jO hw1 hwj,fun e he=> ?_,fun c hc=> ?_⟩
                  . obtain⟨x,hx,rfl⟩:=List.mem_map.1 he;have:=hwr x hx;have:=hwj x hx;rw[fB];split<;>omega
                  . rw[jU hwj,hwc];unfold UO;rw[hr0,hkJ];by_cases hcJ:c<J.toNat
                    . rw[if_pos (by omega),if_pos hcJ,hke,hie]
                    . rw[if_neg (by omega),if_neg hcJ,show((c:Int)+1)=((c+1:Nat):Int)from by omega,hke,hie]
         . rintro⟨a,b,rows2,_⟩ _ ⟨g1,g2,g3,g4⟩;simp only at g1 g2 g3 g4⊢;rw[wr (by omega) (by omega)];exact⟨⟨by omega,by omega,g1,g2,g3,g4⟩,by omega⟩
       . have h:=of_decide_eq_false h;have hlen:rows.length=(R-1).toNat:=by rw[kl];simp only[rowIx];rw[if_neg (by omega)];omega
         exact⟨fun h2=>absurd hv h2,fun _=>⟨fun h2=>absurd ⟨i0,i1,j0,j1⟩ h2,fun _=>⟨fun h2=>absurd h2 hz,fun _=>⟨⟨by show R-1= _;omega,by show C-1= _;omega,hlen,fun t ht=>kf t (by omega)⟩,by trivial⟩⟩⟩⟩
 . have hr:r=false:=by rw[hr];exact decide_eq_false hv
   rw[hr];exact⟨fun _=>⟨fun _=>⟨rfl,by trivial⟩,fun h=>absurd h hv⟩,fun h=>(by cases h)⟩
noncomputable def Kh:I7:= []
def Jw:An:= {}
def Pd:An:= {join:= [(17,⟨[5,48,49,50],[1,3],[(10,false,[.own tE 79])],[],[]⟩)],loop:= [(6,⟨[3,5,7,14,15,16,25,26],[0,2],[(27,false,[.val (.int .i64)])],[],[(1, .map false (.int .i64) true tQ)]⟩),(3,⟨[3,5,14,15],[0],[(16,false,[.val (.int .i64)])],[],[(1, .map false (.int .i64) true tQ)]⟩),(13,⟨[5,48,49],[1,3],[(10,false,[.own tE 79]),(50,false,[.val (.int .i64)])],[],[]⟩)],plan:= [(8,[2,5,6,8,10],[13],true, .done)]}
noncomputable def Ps:I7:= [(91,U2),(103,Q0),(134,T9),(162,Gi (TW 188 3)),(163,Gi (YD ⟨Tryz.prog,tys⟩ [(47,Kh,Jw)] Tryz.f163.results.toList (Tryz.f163.body.getD .skip) Tryz.f163.ntmps))]
noncomputable def EH:I7:= []
def BS:An:= {}
def NJ:An:= {loop:= [(7,⟨[3,4,6,30,31],[1,2,5],[(32,false,[.val (.int .i64)])],[],[(4, .row (.sl tE) 65)]⟩)],plan:= [(9,[1,4],[7],true, .done)]}
noncomputable def OF:I7:= [(34,P0),(114,J6),(59,Gi (YD ⟨Tryz.prog,tys⟩ [(28,EH,BS)] Tryz.f59.results.toList (Tryz.f59.body.getD .skip) Tryz.f59.ntmps))]
def Qf:An:= {}
def Dt:An:= {}
def Ft:An:= {loop:= [(2,⟨[0,1,7],[],[(8,false,[.val (.int .i64)])],[],[]⟩)]}
def Ee:A5 J6.args->Prop:=fun(x:List EE×MM×Unit)=>∃(I:Int×List EE×Unit->Prop),∃(μ:Int×List EE×Unit->Nat),I ((0:Int),[],())/\∀(p:Int×List EE×Unit),(Ty.int IntKind.i64).wf p.1/\(∀(x:Int×(Bool×List Int)×List Int),x∈p.2.1->WfE x)/\True->I p->(decide (p.1<(x.1.length:Int))=true->(0<=p.1/\p.1<(x.1.length:Int))/\((0:Int)<=(gx C8 x.1 p.1).1/\(gx C8 x.1 p.1).1<(x.2.1.2.2.length:Int))/\∃(I_1:Int×List EE×Unit->Prop),∃(μ_1:Int×List EE×Unit->Nat),I_1 ((0:Int),p.2.1,())/\∀(a:Int×List EE×Unit),(Ty.int IntKind.i64).wf a.1/\(∀(x:Int×(Bool×List Int)×List Int),x∈a.2.1->WfE x)/\True->I_1 a->(decide (a.1<(↑(gx [] x.2.1.2.2 (gx C8 x.1 p.1).1).length:Int))=true->(0<=a.1/\a.1<(↑(gx [] x.2.1.2.2 (gx C8 x.1 p.1).1).length:Int))/\(I9 (gx C8 x.1 p.1).2/\I9 (gx C8 (gx [] x.2.1.2.2 (gx C8 x.1 p.1).1) a.1).2)/\∀(r:QQ×Unit),U7 r.1/\True->r.1=rc (rv (gx C8 x.1 p.1).2*rv (gx C8 (gx [] x.2.1.2.2 (gx C8 x.1 p.1).1) a.1).2)->(I9 ((F4 (Ty.int IntKind.i64) (gx C8 (gx [] x.2.1.2.2 (gx C8 x.1 p.1).1) a.1).1 a.2.1).getD dQ)/\I9 r.1)/\∀(b:QQ×Unit),U7 b.1/\True->b.1=rc (rv ((F4 (Ty.int IntKind.i64) (gx C8 (gx [] x.2.1.2.2 (gx C8 x.1 p.1).1) a.1).1 a.2.1).getD dQ)+rv r.1)->I_1 (IntKind.i64.wrap (a.1+1),Hd (Ty.int IntKind.i64) (gx C8 (gx [] x.2.1.2.2 (gx C8 x.1 p.1).1) a.1).1 b.1 a.2.1,())/\μ_1 (IntKind.i64.wrap (a.1+1),Hd (Ty.int IntKind.i64) (gx C8 (gx [] x.2.1.2.2 (gx C8 x.1 p.1).1) a.1).1 b.1 a.2.1,())<μ_1 a)/\(decide (a.1<(↑(gx [] x.2.1.2.2 (gx C8 x.1 p.1).1).length:Int))=false->I (IntKind.i64.wrap (p.1+1),a.2.1,())/\μ (IntKind.i64.wrap (p.1+1),a.2.1,())<μ p))/\(decide (p.1<(x.1.length:Int))=false->(List.length p.2.1<=100000/\(List.map (fun(x:Int×(Bool×List Int)×List Int)=>x.1) p.2.1).Nodup)/\∀(l:List Int),l.Perm (List.map (fun(x:Int×(Bool×List Int)×List Int)=>x.1) p.2.1)->List.Pairwise (fun(x1 x2:Int)=>x1<=x2) l->∃(I:List EE×Int×Unit->Prop),∃(μ:List EE×Int×Unit->Nat),I ([],(0:Int),())/\∀(a:List EE×Int×Unit),tE.sl.wf a.1/\(Ty.int IntKind.i64).wf a.2.1/\True->I a->(decide (a.2.1<(↑l.length:Int))=true->∃(J:List EE×Unit->Prop),((0<=a.2.1/\a.2.1<(↑l.length:Int))/\True/\∀(r:Int×Unit),L4 r.1/\True->r.1=(rv ((F4 (Ty.int IntKind.i64) (l.getD (Int.toNat a.2.1) (0:Int)) p.2.1).getD dQ)).num.sign->(decide (r.1≠0)=true->((a.1.length+ [(l.getD (Int.toNat a.2.1) (0:Int),(F4 (Ty.int IntKind.i64) (l.getD (Int.toNat a.2.1) (0:Int)) p.2.1).getD dQ)].length)*(64:Nat)<=(140737488355328:Nat)/\a.1.length+ [(l.getD (Int.toNat a.2.1) (0:Int),(F4 (Ty.int IntKind.i64) (l.getD (Int.toNat a.2.1) (0:Int)) p.2.1).getD dQ)].length<=9223372036854775807)/\J (a.1++ [(l.getD (Int.toNat a.2.1) (0:Int),(F4 (Ty.int IntKind.i64) (l.getD (Int.toNat a.2.1) (0:Int)) p.2.1).getD dQ)],()))/\(decide (r.1≠0)=false->J (a.1,())))/\∀(p:List EE×Unit),tE.sl.wf p.1/\True->J p->I (p.1,IntKind.i64.wrap (a.2.1+1),())/\μ (p.1,IntKind.i64.wrap (a.2.1+1),())<μ a)/\(decide (a.2.1<(↑l.length:Int))=false->Ey a.1/\∀(i:Int),C5 a.1 i=V5 x.1 fun(k:Int)=>C5 (x.2.1.2.2.getD k.toNat []) i))
def Wh:A5 Dg.args->Prop:=fun(x:MM×MM×Unit)=>True/\∀(r:Bool×Unit),True/\True->r.1=decide (C3 x.1)->((!r.1)=false->True)/\∀(a:Bool×Unit),((!r.1)=false->(True/\True)/\a.1=decide (C3 x.2.1))->((E5 (!r.1) true !a.1)=true->(¬(C3 x.1/\C3 x.2.1)->((0:Int),(0:Int),[])=zm/\(1:Int)=(1:Int))/\(C3 x.1/\C3 x.2.1->(x.1.2.1≠x.2.1.1->((0:Int),(0:Int),[])=zm/\(1:Int)=(4:Int))/\(x.1.2.1=x.2.1.1->Em x.1.1.toNat x.2.1.2.1.toNat (fun(i j:Nat)=>Cl x.1.2.1.toNat fun(k:Nat)=>el x.1 i k*el x.2.1 k j) ((0:Int),(0:Int),[])/\(1:Int)=(0:Int))))/\((E5 (!r.1) true !a.1)=false->(decide (x.1.2.1≠x.2.1.1)=true->(¬(C3 x.1/\C3 x.2.1)->((0:Int),(0:Int),[])=zm/\(4:Int)=(1:Int))/\(C3 x.1/\C3 x.2.1->(x.1.2.1≠x.2.1.1->((0:Int),(0:Int),[])=zm/\(4:Int)=(4:Int))/\(x.1.2.1=x.2.1.1->Em x.1.1.toNat x.2.1.2.1.toNat (fun(i j:Nat)=>Cl x.1.2.1.toNat fun(k:Nat)=>el x.1 i k*el x.2.1 k j) ((0:Int),(0:Int),[])/\(4:Int)=(0:Int))))/\(decide (x.1.2.1≠x.2.1.1)=false->(0<=x.1.1/\x.1.1<=x.1.1/\(↑(24:Nat):Int)*x.1.1<=281474976710656/\x.1.1<=9223372036854775807)/\∃(I:Int×List (List EE)×Unit->Prop),∃(μ:Int×List (List EE)×Unit->Nat),I ((0:Int),List.replicate (Int.toNat x.1.1) [],())/\∀(p:Int×List (List EE)×Unit),(Ty.int IntKind.i64).wf p.1/\A1r p.2.1/\True->I p->(decide (p.1<(x.1.2.2.length:Int))=true->(0<=p.1/\p.1<(x.1.2.2.length:Int))/\(DT K0 (gx [] x.1.2.2 p.1)/\Gu K0 x.2.1/\C3 x.2.1/\G7 (gx [] x.1.2.2 p.1) x.2.1.1/\x.2.1.1<=1000)/\∀(r:List EE×Unit),Mn r.1/\True->lO (fun(j:Int)=>V5 (gx [] x.1.2.2 p.1) fun(k:Int)=>C5 (List.getD x.2.1.2.2 k.toNat []) j) r.1->(0<=p.1/\p.1<(p.2.1.length:Int))/\I (IntKind.i64.wrap (p.1+1),List.set p.2.1 (Int.toNat p.1) r.1,())/\μ (IntKind.i64.wrap (p.1+1),List.set p.2.1 (Int.toNat p.1) r.1,())<μ p)/\(decide (p.1<(x.1.2.2.length:Int))=false->(¬(C3 x.1/\C3 x.2.1)->(x.1.1,x.2.1.2.1,p.2.1)=zm/\(0:Int)=(1:Int))/\(C3 x.1/\C3 x.2.1->(x.1.2.1≠x.2.1.1->(x.1.1,x.2.1.2.1,p.2.1)=zm/\(0:Int)=(4:Int))/\(x.1.2.1=x.2.1.1->Em x.1.1.toNat x.2.1.2.1.toNat (fun(i j:Nat)=>Cl x.1.2.1.toNat fun(k:Nat)=>el x.1 i k*el x.2.1 k j) (x.1.1,x.2.1.2.1,p.2.1)/\(0:Int)=(0:Int))))))
def Fo:A5 I1.args->Prop:=fun(x:Int×Int×Unit)=>E5 (decide (x.1<0)) true (decide (x.2.1<=x.1))=decide (x.1<0\/x.2.1<=x.1)
def S6:A5 F1.args->Prop:=fun(x:List Int×((Int×Unit->Prop)×(Int×Unit->Bool))×Unit)=>Go.Proofs.Tryz.prog=Go.Proofs.Tryz.prog/\false=false/\(∀(i:Int),i∈x.1->(x.2.1.1,fun(z:Int×Unit)=>x.2.1.2 z).1 (i,()))/\∀(r:Int×Unit),L4 r.1/\True->r.1=XK (fun(i:Int)=>(x.2.1.1,fun(z:Int×Unit)=>x.2.1.2 z).2 (i,())) x.1->decide (0<=r.1)=decide (∃(i:Int),i∈x.1/\x.2.1.2 (i,())=true)
def X3:A5 H0.args->Prop:=fun(x:List Int×((Int×Unit->Prop)×(Int×Unit->Bool))×Unit)=>∃(I:Int×Unit->Prop),∃(μ:Int×Unit->Nat),I ((0:Int),())/\∀(p:Int×Unit),(Ty.int IntKind.i64).wf p.1/\True->I p->(decide (p.1<(x.1.length:Int))=true->(0<=p.1/\p.1<(x.1.length:Int))/\Go.Proofs.Tryz.prog=Go.Proofs.Tryz.prog/\x.2.1.1 (gx (0:Int) x.1 p.1,())/\(Ty.bool.wf (x.2.1.2 (gx (0:Int) x.1 p.1,()))->(x.2.1.2 (gx (0:Int) x.1 p.1,())=true->p.1=XK (fun(i:Int)=>x.2.1.2 (i,())) x.1)/\(x.2.1.2 (gx (0:Int) x.1 p.1,())=false->I (IntKind.i64.wrap (p.1+1),())/\μ (IntKind.i64.wrap (p.1+1),())<μ p)))/\(decide (p.1<(x.1.length:Int))=false->(-1:Int)=XK (fun(i:Int)=>x.2.1.2 (i,())) x.1)
theorem A1j (k:Int):ri k=rc (k:Rat):=by
 unfold ri rc;rw[Rat.num_intCast,Rat.den_intCast,Ra]
theorem Gh (a b:Int):Qc (.int .i64) a b=decide (a=b):=rfl
theorem QL {α:Type} (k i:Int) (v:α):∀l:List (Int×α),F4 (.int .i64) i (Hd (.int .i64) k v l)=if i=k then some v else F4 (.int .i64) i l
 | []=>by
  simp only[Hd,F4,Gh];by_cases h:i=k
  . simp[h]
  . rw[if_neg h];simp[h]
 | (a,b)::l=>by
  have ih:=QL k i v l;simp only[Hd,Gh];by_cases h:k=a
  . subst h;simp only[decide_true,cond_true,F4,Gh];by_cases h2:i=k
    . simp[h2]
    . simp[h2]
  . simp only[h,decide_false,cond_false,F4,Gh,ih];by_cases h2:i=a
    . subst h2;have:¬i=k:=fun e=>h e.symm
      simp[this]
    . simp[h2]
theorem QM {α:Type} (k:Int) (v:α):∀l:List (Int×α),(Hd (.int .i64) k v l).map (fun e=>e.1)=if k∈l.map (fun e=>e.1)then l.map (fun e=>e.1)else l.map (fun e=>e.1)++ [k]
 | []=>by simp[Hd]
 | (a,b)::l=>by
  have ih:=QM k v l;simp only[Hd,Gh];by_cases h:k=a
  . subst h;simp
  . simp only[h,decide_false,cond_false,List.map_cons,ih,List.mem_cons,false_or];split<;>simp
theorem KA {α:Type} (k:Int) (v:α):∀ {l:List (Int×α)} {e:Int×α},e∈Hd (.int .i64) k v l->e=(k,v)\/e∈l
 | [],e,h=>by
  simp only[Hd,List.mem_singleton]at h;exact .inl h
 | (a,b)::l,e,h=>by
  simp only[Hd,Gh]at h;by_cases hk:k=a
  . subst hk;simp only[decide_true,cond_true,List.mem_cons]at h;rcases h with h|h
    . exact .inl h
    . exact .inr (List.mem_cons_of_mem _ h)
  . simp only[hk,decide_false,cond_false,List.mem_cons]at h;rcases h with h|h
    . exact .inr (h▸List.mem_cons_self ..)
    . exact(KA k v h).imp id (List.mem_cons_of_mem _)
theorem JY {α:Type} {k:Int} {v:α} :∀ {l:List (Int×α)},F4 (.int .i64) k l=some v->(k,v)∈l
 | (a,b)::l,h=>by
  simp only[F4,Gh]at h;by_cases hk:k=a
  . simp[hk]at h;rw[hk,h];exact List.mem_cons_self ..
  . simp[hk]at h;exact List.mem_cons_of_mem _ (JY h)
theorem JX {α:Type} {k:Int} :∀ {l:List (Int×α)},k∉l.map (fun e=>e.1)->F4 (.int .i64) k l=none
 | [],_=>rfl
 | (a,b)::l,h=>by
  simp only[List.map_cons,List.mem_cons,not_or]at h;simp only[F4,Gh];simp[h.1,JX h.2]
theorem YC {α:Type} {k:Int} :∀ {l:List (Int×α)},k∈l.map (fun e=>e.1)->∃v,F4 (.int .i64) k l=some v
 | (a,b)::l,h=>by
  simp only[F4,Gh];by_cases hk:k=a
  . exact⟨b,by simp[hk]⟩
  . simp only[List.map_cons,List.mem_cons,hk,false_or]at h;obtain⟨v,hv⟩:=YC h;exact⟨v,by simp[hk,hv]⟩
theorem YH:∀ {r l:List Int},r.Nodup->(∀i∈r,i∈l)->r.length<=l.length
 | [],_,_,_=>Nat.zero_le _
 |a::r,l,hd,hs=>by
  rw[List.nodup_cons]at hd;have hm:=hs a (List.mem_cons_self ..);have:=YH (l:=l.erase a) hd.2 fun i hi=>(List.mem_erase_of_ne fun e=>hd.1 (by rw[<-e];exact hi)).2 (hs i (List.mem_cons_of_mem _ hi))
  have h2:=List.length_erase_of_mem hm;have h3:=List.length_pos_of_mem hm;rw[List.length_cons];omega
theorem gU {r:List Int} {n:Int} (h:r.Nodup) (hr:∀i∈r,0<=i/\i<n):(r.length:Int)<=max n 0:=by
 have:=YH (l:=(List.range n.toNat).map fun i:Nat=>(i:Int)) h fun i hi=>by
  have:=hr i hi;exact List.mem_map.2 ⟨i.toNat,List.mem_range.2 (by omega),by omega⟩
 rw[List.length_map,List.length_range]at this;omega
structure BO (n:Int) (F:Int->Rat) (es:List F8):Prop where
 nd:(es.map fun e=>e.1).Nodup
 rng:∀e∈es,0<=e.1/\e.1<n
 can:∀e∈es,e.2=rc (rv e.2)
 val:∀j,rv ((F4 (.int .i64) j es).getD dQ)=F j
theorem BO.at {n:Int} {F:Int->Rat} {es:List F8} (h:BO n F es) (j:Int):(F4 (.int .i64) j es).getD dQ=rc (F j)\/((F4 (.int .i64) j es).getD dQ=dQ/\F j=0/\j∉es.map fun e=>e.1):=by
 have hv:=h.val j;cases hf:F4 (.int .i64) j es with
 |none=>
  rw[hf]at hv;refine .inr ⟨rfl, ?_,fun hj=> ?_⟩
  . rw[<-hv];exact LI
  . obtain⟨v,h2⟩:=YC hj;rw[hf]at h2;cases h2
 |some v=>
  rw[hf]at hv;have h2:=h.can _ (JY hf);have hv:rv v=F j:=hv;left;show v= _;rw[<-hv];exact h2
theorem BO.sh {n:Int} {F:Int->Rat} {es:List F8} (h:BO n F es) (j:Int) (hq:qs 2199023255552 (F j)):I9 ((F4 (.int .i64) j es).getD dQ):=by
 rcases h.at j with h1| ⟨h1,_⟩
 . rw[h1];exact hq
 . rw[h1];exact⟨Nat.zero_le _,Nat.zero_le _⟩
theorem BO.put {n:Int} {F G:Int->Rat} {es:List F8} (h:BO n F es) {k:Int} {q:Rat} (hk:0<=k/\k<n) (h1:G k=q) (h2:∀j,j≠k->G j=F j):BO n G (Hd (.int .i64) k (rc q) es):=by
 refine⟨?_,fun e he=> ?_,fun e he=> ?_,fun j=> ?_⟩
 . have:=QM k (rc q) es;rw[this];split
   . exact h.nd
   . rename_i hn;rw[List.nodup_append];refine⟨h.nd,by simp,fun a ha b hb hab=> ?_⟩;rw[List.mem_singleton]at hb;subst hb hab;exact hn ha
 . rcases KA k (rc q) he with rfl|he
   . exact hk
   . exact h.rng e he
 . rcases KA k (rc q) he with rfl|he
   . show rc q=rc (rv (rc q));rw[W5]
   . exact h.can e he
 . rw[QL];by_cases hj:j=k
   . rw[if_pos hj];show rv (rc q)= _;rw[W5,hj,h1]
   . rw[if_neg hj,h.val,h2 j hj]
theorem BO.len {n:Int} {F:Int->Rat} {es:List F8} (h:BO n F es):(es.length:Int)<=max n 0:=by
 have:=gU h.nd (n:=n) fun i hi=>by
  obtain⟨e,he,rfl⟩:=List.mem_map.1 hi;exact h.rng e he
 rwa[List.length_map]at this
theorem Kj (x:A5 J6.args) (hw:awf J6.args x) (hp:J6.pre x):Ee x:=by
 obtain⟨v,⟨R,C,D⟩,_⟩:=x;have hlv:Xe v:=Nc hw.1.2;have hlm:bK (R,C,D):=HJ hw.2.1.2.2.2;change List F8 at v;change Int at R C;change List (List F8)at D;obtain⟨hok,hs,hv,hvv,hR⟩:DT K0 v/\Gu K0 (R,C,D)/\C3 (R,C,D)/\G7 v R/\R<=1000:=hp;have v5:(D.length:Int)=R:=hv.2.2.2.2.1;have v6:∀w∈D,G7 w C:=hv.2.2.2.2.2;have v3:0<=C:=hv.2.2.1;have v4:C<=16384:=hv.2.2.2.1;have hvl:v.length<=1000:=by have:=SO hvv;omega
 simp only[Ee]
 let H:Int->Int->Rat:=fun j k=>C5 (D.getD k.toNat []) j
 have hHq:∀j:Int,∀e∈v,qs K0 (H j e.1):=fun j e he=>by
  have:=hvv.2 e he;exact US hv hlm hs (by decide) (K4 (by omega)) j
 have hEq:∀(j:Int) (n:Nat),qs ((v.take n).length*(K0+K0+1)+1) (V5 (v.take n) (H j)):=fun j n=>oX (fun e he=>hlv e (List.mem_of_mem_take he)) (fun e he=>hok.2.1 e (List.mem_of_mem_take he)) (by decide) fun e he=>hHq j e (List.mem_of_mem_take he)
 have h7:K0+K0+1=2147483649:=by decide
 have h8:K0+K0=2147483648:=by decide
 refine⟨fun p=>0<=p.1/\p.1<=(v.length:Int)/\BO C (fun j=>V5 (v.take p.1.toNat) (H j)) p.2.1,fun p=>((v.length:Int)-p.1).toNat,⟨Int.le_refl _,Int.natCast_nonneg _,List.nodup_nil,fun _ h=>(by cases h),fun _ h=>(by cases h),fun j=>LI⟩, ?_⟩;rintro⟨i,es,_⟩ _ ⟨i0,i1,hS⟩;change Int at i;change List F8 at es;simp only at i0 i1 hS⊢;refine⟨fun h=> ?_,fun h=> ?_⟩
 . have h:=of_decide_eq_true h;have hem:=L6 (d:=C8) i0 h;obtain⟨e0,e1,_⟩:=hvv.2 _ hem;have hse:=hok.2.1 _ hem;have hle:=hlv _ hem;have hst:=fun j=>fY (d:=C8) i0 h (H j)
   have htl:(v.take i.toNat).length<=999:=by rw[List.length_take];omega
   have hEi:=fun j=>hEq j i.toNat
   generalize gx C8 v i=e at*;have heD:e.1<(D.length:Int):=by omega
   rw[CP e0 heD];have hme:D.getD e.1.toNat []∈D:=K4 (by omega);have hrow:=Xx hv hs hme;have hvr:=v6 _ hme;have hlr:=hlm _ hme;have hH:∀j,H j e.1=C5 (D.getD e.1.toNat []) j:=fun j=>rfl
   generalize D.getD e.1.toNat []=row at*;have hrl:=hrow.2.2;refine⟨⟨i0,h⟩,⟨e0,heD⟩,fun p=>0<=p.1/\p.1<=(row.length:Int)/\BO C (fun j=>V5 (v.take i.toNat) (H j)+rv e.2*C5 (row.take p.1.toNat) j) p.2.1,fun p=>((row.length:Int)-p.1).toNat,⟨Int.le_refl _,Int.natCast_nonneg _, ?_⟩, ?_⟩
   . have:(fun j=>V5 (v.take i.toNat) (H j)+rv e.2*C5 (row.take (Int.toNat 0)) j)=fun j=>V5 (v.take i.toNat) (H j):=by
      funext j;show _ +rv e.2*0= _;rw[Rat.mul_zero,Rat.add_zero]
     show BO C (fun j=>V5 (v.take i.toNat) (H j)+rv e.2*C5 (row.take (Int.toNat 0)) j) es;rw[this];exact hS
   rintro⟨t,fs,_⟩ _ ⟨t0,t1,hT⟩;change Int at t;change List F8 at fs;simp only at t0 t1 hT⊢;refine⟨fun ht=> ?_,fun ht=> ?_⟩
   . have ht:=of_decide_eq_true ht;have hfm:=L6 (d:=C8) t0 ht;have hfr:=hvr.2 _ hfm;have hsf:=hrow.2.1 _ hfm;have hlf:=hlr _ hfm;have hct:=PK (d:=C8) t0 ht;have hcq:=Tn (v:=row.take t.toNat) (k:=K0) hrow.1.take (fun e he=>hlr e (List.mem_of_mem_take he)) (fun e he=>hrow.2.1 e (List.mem_of_mem_take he)) (by decide);generalize gx C8 row t=f at*;have hpq:=EA (Vw hle hse (by decide)) (Vw hlf hsf (by decide));have hFq:qs 2199023255552 (V5 (v.take i.toNat) (H f.1)+rv e.2*C5 (row.take t.toNat) f.1):=by
      refine Gk (UR (hEi f.1) (EA (Vw hle hse (by decide)) (hcq f.1))) ?_;rw[h7,h8];omega
     refine⟨⟨t0,ht⟩,⟨Er hse (by decide),Er hsf (by decide)⟩, ?_⟩;rintro⟨q,_⟩ _ hq;simp only at hq⊢;refine⟨⟨hT.sh f.1 hFq,by rw[hq];exact Nt hpq (by decide)⟩, ?_⟩;rintro⟨u,_⟩ _ hu;simp only at hu⊢;rw[wr (by omega) (by omega)];have hval:rv ((F4 (.int .i64) f.1 fs).getD dQ)=V5 (v.take i.toNat) (H f.1)+rv e.2*C5 (row.take t.toNat) f.1:=hT.val f.1;rw[hval,hq,W5]at hu;rw[hu];refine⟨⟨by omega,by omega,hT.put ⟨hfr.1,hfr.2.1⟩ ?_ fun j hj=> ?_⟩,by omega⟩
     . show _ +rv e.2*C5 (row.take (t+1).toNat) f.1= _;rw[hct,if_pos rfl,Rat.mul_add, <-Rat.add_assoc]
     . show _ +rv e.2*C5 (row.take (t+1).toNat) j= _ +rv e.2*C5 (row.take t.toNat) j;rw[hct,if_neg (fun e=>hj e.symm),Rat.add_zero]
   . have ht:=of_decide_eq_false ht;rw[F6 (l:=row) (i:=t) (by omega)]at hT;rw[wr (by omega) (by omega)];refine⟨⟨by omega,by omega, ?_⟩,by omega⟩;have:(fun j=>V5 (v.take (i+1).toNat) (H j))=fun j=>V5 (v.take i.toNat) (H j)+rv e.2*C5 row j:=by
      funext j;rw[hst,hH]
     show BO C (fun j=>V5 (v.take (i+1).toNat) (H j)) fs;rw[this];exact hT
 . have h:=of_decide_eq_false h;rw[F6 (by omega)]at hS;have hlen:=hS.len;refine⟨⟨by omega,hS.nd⟩,fun l hl hls=> ?_⟩;have hnd:l.Nodup:=hl.nodup_iff.2 hS.nd;have hlt:l.Pairwise (· < ·):=by
    refine List.Pairwise.imp₂ ?_ hls hnd;intro a b h1 h2;omega
   have hll:l.length<=16384:=by
    have:=hl.length_eq;rw[List.length_map]at this;omega
   have hmem:∀j,j∈l↔j∈es.map fun e=>e.1:=fun j=>hl.mem_iff
   refine⟨fun p=>0<=p.2.1/\p.2.1<=(l.length:Int)/\p.1.length<=p.2.1.toNat/\Ey p.1/\(∀e∈p.1,e.1∈l.take p.2.1.toNat)/\(∀j∈l.take p.2.1.toNat,C5 p.1 j=V5 v (H j)),fun p=>((l.length:Int)-p.2.1).toNat,⟨Int.le_refl _,Int.natCast_nonneg _,Nat.le_refl _,IK,fun _ h=>(by cases h),by simp⟩, ?_⟩;rintro⟨out,j,_⟩ _ ⟨h0,h1,h2,h3,h4,h5⟩;change Int at j;change List F8 at out;simp only at h0 h1 h2 h3 h4 h5⊢;refine⟨fun h=> ?_,fun h=> ?_⟩
   . have h:=of_decide_eq_true h;have hg:=P7 (d:=(0:Int)) h0 h;have hts:l.take (j+1).toNat=l.take j.toNat++ [gx 0 l j]:=by
      rw[show(j+1).toNat=j.toNat+1 from by omega,List.take_add_one,H2 (d:=(0:Int)) h0 h];rfl
     have hlt2:∀y∈l.take j.toNat,y<gx 0 l j:=fun y hy=>by
      have:(l.take (j+1).toNat).Pairwise (· < ·):=hlt.take;rw[hts,List.pairwise_append]at this;exact this.2.2 y hy _ (List.mem_singleton.2 rfl)
     have hin:gx 0 l j∈l:=L6 (d:=(0:Int)) h0 h;rw[<-hg];generalize gx 0 l j=i at*;have hval:(F4 (.int .i64) i es).getD dQ=rc (V5 v (H i)):=by
      rcases hS.at i with h6| ⟨_,_,h6⟩
      . exact h6
      . exact absurd ((hmem i).1 hin) h6
     rw[hval];have hout:∀e∈out,e.1<i:=fun e he=>hlt2 _ (h4 e he)
     have hnil:C5 out i=0:=H5 fun e he hei=>by have:=hout e he;omega
     refine⟨fun p=>p.1.length<=(j+1).toNat/\Ey p.1/\(∀e∈p.1,e.1∈l.take (j+1).toNat)/\∀k∈l.take (j+1).toNat,C5 p.1 k=V5 v (H k),⟨⟨h0,h⟩,trivial, ?_⟩, ?_⟩
     . rintro⟨s,_⟩ _ hsg;simp only at hsg⊢;rw[W5]at hsg;refine⟨fun hz=>⟨⟨by simp only[List.length_singleton];omega,by simp only[List.length_singleton];omega⟩,by show(out++ [(i,_)]).length<= _;simp;omega, ?_,fun e he=> ?_,fun k hk=> ?_⟩,fun hz=>⟨by show out.length<= _;omega,h3,fun e he=>by rw[hts];exact List.mem_append.2 (.inl (h4 e he)),fun k hk=> ?_⟩⟩
       . have hz:=of_decide_eq_true hz;exact PD h3 (fun h0=>hz (by rw[hsg,h0];rfl)) hout
       . rw[hts];rcases List.mem_append.1 he with he|he
         . exact List.mem_append.2 (.inl (h4 e he))
         . rw[List.mem_singleton.1 he];exact List.mem_append.2 (.inr (List.mem_singleton.2 rfl))
       . show C5 (out++ [(i,rc (V5 v (H i)))]) k=V5 v (H k);rw[PI];rw[hts]at hk;rcases List.mem_append.1 hk with hk|hk
         . have:=hlt2 k hk;rw[if_neg (by omega),Rat.add_zero,h5 k hk]
         . rw[List.mem_singleton.1 hk,if_pos rfl,hnil,Rat.zero_add]
       . have hz:=of_decide_eq_false hz;have hz0:V5 v (H i)=0:=AJ (by rw[<-hsg];exact Decidable.not_not.1 hz);rw[hts]at hk;show C5 out k=V5 v (H k);rcases List.mem_append.1 hk with hk|hk
         . exact h5 k hk
         . rw[List.mem_singleton.1 hk,hnil,hz0]
     . rintro⟨o,_⟩ _ ho;simp only at ho⊢;rw[wr (by omega) (by omega)];exact⟨⟨by omega,by omega,ho⟩,by omega⟩
   . have h:=of_decide_eq_false h;rw[F6 (by omega)]at h4 h5;refine⟨h3,fun i=> ?_⟩;show C5 out i=V5 v (H i);by_cases hi:i∈l
     . exact h5 i hi
     . rw[H5 fun e he hei=>hi (by rw[<-hei];exact h4 e he)];have:=hS.val i;rw[JX fun h6=>hi ((hmem i).2 h6)]at this;exact LI.symm.trans this
theorem EP (x:A5 Dg.args) (hw:awf Dg.args x) (hp:Dg.pre x):Wh x:=by
 obtain⟨⟨R,C,D⟩,⟨R',C',D'⟩,_⟩:=x;change Int at R C R' C';change List (List F8)at D D';obtain⟨hs,hs',hC⟩:Gu K0 (R,C,D)/\Gu K0 (R',C',D')/\C<=1000:=hp;simp only[Wh];refine⟨trivial, ?_⟩;rintro⟨r,_⟩ _ hr;simp only at hr⊢;refine⟨fun _=>trivial, ?_⟩;rintro⟨s,_⟩ hs2;simp only at hs2⊢;rw[L3];by_cases hv:C3 (R,C,D)
 . have hr:r=true:=by rw[hr];exact decide_eq_true hv
   have hs2:=(hs2 (by rw[hr];rfl)).2;rw[hr,hs2];by_cases hv':C3 (R',C',D')
   . rw[decide_eq_true hv'];refine⟨fun h=>(by cases h),fun _=>⟨fun h=> ?_,fun h=> ?_⟩⟩
     . have h:=of_decide_eq_true h;exact⟨fun h=>absurd ⟨hv,hv'⟩ h,fun _=>⟨fun _=>⟨rfl,by trivial⟩,fun h2=>absurd h2 h⟩⟩
     . have h:=Decidable.not_not.1 (of_decide_eq_false h);obtain⟨v1,v2,v3,v4,_,_⟩:=id hv;have v5:(D.length:Int)=R:=hv.2.2.2.2.1;have v6:∀w∈D,G7 w C:=hv.2.2.2.2.2;have w3:0<=C':=hv'.2.2.1;have w5:(D'.length:Int)=R':=hv'.2.2.2.2.1;have w6:∀w∈D',G7 w C':=hv'.2.2.2.2.2;simp only at v1 v2 v3 v4;refine⟨⟨v1,Int.le_refl _,by omega,by omega⟩, ?_⟩;refine⟨fun p=>0<=p.1/\p.1<=R/\PR R.toNat p.1.toNat (fun i=>TT C'.toNat fun j=>Cl C.toNat fun k=>el (R,C,D) i k*el (R',C',D') k j) p.2.1,fun p=>(R-p.1).toNat,⟨Int.le_refl _,v1,kK List.length_replicate⟩, ?_⟩;rintro⟨k,rows,_⟩ _ ⟨k0,k1,hf⟩;change Int at k;change List (List F8)at rows;simp only at k0 k1 hf⊢;have:=hf.1;refine⟨fun hk=> ?_,fun hk=> ?_⟩
       . have hk:=of_decide_eq_true hk;have hme:=L6 (d:=([]:List F8)) k0 hk;rw[CP k0 hk]at hme⊢;have hvr:=v6 _ hme;refine⟨⟨k0,hk⟩,⟨Xx hv hs hme,hs',hv',by rw[<-h];exact hvr,by omega⟩, ?_⟩;rintro⟨v,_⟩ _ hvv;simp only at hvv⊢;rw[wr (by omega) (by omega)];have hes:∀j:Int,V5 (D.getD k.toNat []) (fun k=>C5 (D'.getD k.toNat []) j)=Cl C.toNat fun l=>el (R,C,D) k.toNat l*C5 (D'.getD l []) j:=fun j=>by
          rw[oW (n:=C.toNat) fun e he=>⟨(hvr.2 e he).1,by have:=(hvr.2 e he).2.1;omega⟩];exact LG fun l _=>by rw[Int.toNat_natCast];rfl
         refine⟨⟨k0,by omega⟩,⟨by omega,by omega,PS hf k0 (by omega) ?_⟩,by omega⟩;refine dZ hvv (fun j hj=> ?_) fun j _=> ?_
         . rw[hes];refine EF fun l hl=> ?_
           rw[EL (w6 _ (K4 (l:=D') (i:=l) (by omega))) (show¬(0<=j/\j<C')by omega),Rat.mul_zero]
         . rw[hes];rfl
       . have hk:=of_decide_eq_false hk;exact⟨fun h=>absurd ⟨hv,hv'⟩ h,fun _=>⟨fun h2=>absurd h h2,fun _=>⟨⟨by show R= _;omega,by show C'= _;omega,hf.1,fun i hi=>hf.2 i (by omega)⟩,by trivial⟩⟩⟩
   . rw[decide_eq_false hv'];exact⟨fun _=>⟨fun _=>⟨rfl,by trivial⟩,fun h=>absurd h.2 hv'⟩,fun h=>(by cases h)⟩
 . have hr:r=false:=by rw[hr];exact decide_eq_false hv
   rw[hr];exact⟨fun _=>⟨fun _=>⟨rfl,by trivial⟩,fun h=>absurd h.1 hv⟩,fun h=>(by simp at h)⟩
end Go.Proofs.YtdlnpbmmdnmkaaaGreat
namespace Go.Gw
def XF (cs:List Int) (n:Nat) (j:Int):List Int:=((List.range n).filter fun i=>decide (cs.getD i 0=j)).map fun(i:Nat)=>(i:Int)
def grp (cs:List Int) (j:Int):List Int:=XF cs cs.length j
end Go.Gw
namespace Go.Vc
open Go Go.RowKit Go.Gw
theorem gB (cs:List Int) (n:Nat) (j:Int):XF cs (n+1) j=if cs.getD n 0=j then XF cs n j++ [(n:Int)]else XF cs n j:=by
 unfold XF;rw[List.range_succ,List.filter_append,List.map_append];by_cases h:cs.getD n 0=j
 . rw[if_pos h];simp only[List.filter_cons,h,decide_true,if_true,List.filter_nil,List.map_cons,List.map_nil]
 . rw[if_neg h];simp only[List.filter_cons,h,decide_false,Bool.false_eq_true,if_false,List.filter_nil,List.map_nil,List.append_nil]
def bH:DataW Unit->List Int
 | .slice es _=>es.map fun
  | .lit (.int _ n)=>n
  | _=>0
 | _=> []
theorem CS {w:World} {base e:Nat} {v:Value} {zs:List Int} (h:w.ownsInts base e .i64 v zs):bH (rowDatum .i64 v zs)=zs:=by
 rcases h.datum (H:=Unit)with⟨e1,e2⟩ |e1
 . rw[e1,e2];rfl
 . rw[e1];show(zs.map _).map _=zs;rw[List.map_map];exact(List.map_congr_left fun _ _=>rfl).trans (List.map_id _)
abbrev kI (v:Value) (j:Int):Prop:=v= .int .i64 j/\Iz .i64 j
theorem A6f {P:Program} {k:TypeId} (hk:P.underlying k=some (.int .i64)) {v:Value} {l:Lit} (h:keyOf P k v=some l):∃j,kI v j/\l= .int .i64 j:=by
 simp only[keyOf,hk,mapKey]at h;cases v with
 |int q n=>
  simp only at h;split at h
  . rename_i hh;obtain⟨rfl,h2⟩:=hh;cases h;exact⟨n,⟨rfl,by simpa[Lit.wf,Iz]using h2⟩,rfl⟩
  . cases h
 | _=>cases h
theorem A1g {P:Program} {k:TypeId} (hk:P.underlying k=some (.int .i64)) {j:Int} (h:Iz .i64 j):keyOf P k (.int .i64 j)=some (.int .i64 j):=by
 have h2:(Lit.int .i64 j).wf=true:=by simpa[Lit.wf,Iz]using h
 simp[keyOf,hk,mapKey,h2]
theorem A1b {P:Program} {k:TypeId} {w:World} {base e:Nat} (hk:P.underlying k=some (.int .i64)):∀ {l:List MapEntry},(∀x∈l,∃y,Go.WideElems.rd P k (rowElem (H:=Unit) w base e .i64) x=some y)->(l.map (·.key)).Nodup->
 ∃es:List (Int×List Int),J2 kI (w.ownsInts base e .i64) l es/\(∀x∈l,∀j zs,x.key= .int .i64 j->w.ownsInts base e .i64 x.val zs->F4 (.int .i64) j es=some zs)/\∀j,(∀x∈l,x.key≠ .int .i64 j)->F4 (.int .i64) j es=none
 | [],_,_=>⟨[],rfl,fun _ h=>(by cases h),fun _ _=>rfl⟩
 |x::l,h,hn=>by
  obtain⟨h1,h2⟩:=List.nodup_cons.1 hn;obtain⟨es,g1,g2,g3⟩:=A1b hk (fun y hy=>h y (List.mem_cons_of_mem _ hy)) h2;obtain⟨y,hy⟩:=h x List.mem_cons_self;obtain⟨j,hj,_⟩:=A6f hk (Go.WideElems.rd_key hy);obtain⟨z,hz,_⟩:=Go.WideElems.rd_val hy;obtain⟨zs,ho,_⟩:=rowElem_inv hz;refine⟨(j,zs)::es,⟨x,l,rfl,hj,ho,g1⟩,fun x' hx' j' zs' hk' ho'=> ?_,fun j' hne=> ?_⟩
  . by_cases hjj:j'=j
    . subst hjj;rcases List.mem_cons.1 hx' with rfl|hx'
      . rw[ho'.unique ho];simp[F4,Qc]
      . exact absurd (List.mem_map.2 ⟨x',hx',hk'.trans hj.1.symm⟩) h1
    . rcases List.mem_cons.1 hx' with rfl|hx'
      . rw[hj.1]at hk';cases hk';exact absurd rfl hjj
      . have:=g2 x' hx' j' zs' hk' ho';simp only[F4,Qc,show(decide ((j':Int)=j))=false from decide_eq_false hjj,cond_false];exact this
  . have hjj:j'≠j:=fun e=>hne x List.mem_cons_self (by rw[e];exact hj.1)
    simp only[F4,Qc,show(decide ((j':Int)=j))=false from decide_eq_false hjj,cond_false];exact g3 j' fun x' hx'=>hne x' (List.mem_cons_of_mem _ hx')
theorem XD {P:Program} {k t E:TypeId} {w:World} {base e b n:Nat} {D:DataW Unit} (hk:P.underlying k=some (.int .i64)) (ht:P.underlying t=some (.map k E)) (hz:(zeroValue E).run P w= .ok (.slice none 0 0) w) (h:w.ownsGroups P k base e .i64 b n D):
 ∃ents clock es,w.heap[b]? =some (.map ents clock)/\ZQ ents clock/\J2 kI (w.ownsInts base e .i64) ents.toList es/\∀j,Iz .i64 j->(F4 (.int .i64) j es).getD []=bH (D.atKey (.int .i64 j) .nil):=by
 obtain⟨ents,clock,hb,F,_,rfl,_,_,_⟩:=h;obtain⟨es,g1,g2,g3⟩:=A1b hk F.reads F.stamped.2.2;refine⟨ents,clock,es,hb,⟨F.stamped.1,F.stamped.2.1⟩,g1,fun j hj=> ?_⟩;rcases Maps.fit_look false (Maps.int_keyed hk) ht hz hb F (A1g hk hj)with⟨_,h2,h3⟩ | ⟨e0,y,h1,h2,_,h4,h5,_⟩
 . rw[h3,g3 j h2];rfl
 . obtain⟨zs,ho,rfl⟩:=rowElem_inv h4;rw[h5,g2 e0 h1 j zs h2 ho];exact(CS ho).symm
section
variable {za:Zn} {w0:World} {st:St} {E:F5} {w:World} {Z:Nat->Prop} {B:Nat->Value}
theorem B9.deadL:∀(ds:List Nat) {st:St} {E E':F5},(∀s,s∉ds->E' s=E s)->B9 za w0 st E w Z B->B9 za w0 (ds.foldl (fun s d=>s.setS d .dead) st) E' w Z B
 | [],_,E,E',h,hr=>by
  have:E'=E:=funext fun s=>h s (List.not_mem_nil)
  rw[this];exact hr
 |d::ds,st,E,E',h,hr=>by
  refine B9.deadL ds (E:=upd E d (E' d)) (fun s hs=> ?_) (hr.setS d (x:= .dead) (v:=E' d) trivial trivial);by_cases hsd:s=d
  . subst hsd;rw[B4]
  . rw[C6 _ _ _ _ hsd];exact h s (by simp[hsd,hs])
theorem dK:∀(ds:List Nat) (st:St),(ds.foldl (fun s d=>s.setS d .dead) st).L=st.L/\(ds.foldl (fun s d=>s.setS d .dead) st).nx=st.nx/\(ds.foldl (fun s d=>s.setS d .dead) st).nm=st.nm
 | [],_=>⟨rfl,rfl,rfl⟩
 |d::ds,st=>dK ds (st.setS d .dead)
theorem B9.putL (h:B9 za w0 st E w Z B) {k:Nat} {lc:LC} (hkn:k<st.nx) (hl:RL (up za w0 k) w Z B k lc) (hd:∀k' b,k'≠k->A6 w (B k) lc b->¬A6 w (B k') (st.L k') b) (hr:Pr st.nx lc) (hmk:∀b,za.k0<=k->A6 w (B k) lc b->za.b0<=b):B9 za w0 (st.setL k lc) E w Z B:=by
 refine⟨h.ext,h.zlt,h.slots,fun q=> ?_,fun q q' b hne h1 h2=> ?_,h.refs,fun q=> ?_,fun q hq=> ?_,h.bone,h.zin,h.nms,h.bfix,⟨h.mrk.1,fun q b hk hb=> ?_⟩,h.frs,h.frf⟩
 . rw[St.L_setL];split
   . rename_i e;subst e;exact hl
   . exact h.locs q
 . rw[St.L_setL]at h1 h2;by_cases e1:q=k
   . subst e1;rw[if_pos rfl]at h1;rw[if_neg (Ne.symm hne)]at h2;exact hd q' b (Ne.symm hne) h1 h2
   . rw[if_neg e1]at h1;by_cases e2:q'=k
     . subst e2;rw[if_pos rfl]at h2;exact hd q b e1 h2 h1
     . rw[if_neg e2]at h2;exact h.disj q q' b hne h1 h2
 . rw[St.L_setL];split
   . exact hr
   . exact h.refl q
 . rw[St.L_setL,if_neg (by have:st.nx<=q:=hq;omega)];exact h.fresh q hq
 . rw[St.L_setL]at hb;split at hb
   . rename_i e;subst e;exact hmk b hk hb
   . exact h.mrk.2 q b hk hb
theorem kH {w':World} {Z':Nat->Prop} {base e:Nat} (hz:∀b,base<=b->b<w'.heap.size->Z' b):∀ {l:List MapEntry} {es:List (Int×List Int)},J2 kI (w'.ownsInts base e .i64) l es->Cn w' Z' false (.int .i64) false (.sl (.int .i64)) l es
 | _,[],h=>h
 | _,x::l,⟨en,es',he,h1,h2,h3⟩=>⟨en,es',he,⟨by rw[h1.1],h1.2⟩,V7 (t:= .int .i64) (base:=base) (e:=e) (xs:=x.2.map (Value.int .i64)) h2.1 (Zh (by simp) fun i a v ha hv=>by
  have ha:x.2[i]? =some a:=ha;rw[List.getElem?_map,ha]at hv;cases hv;exact⟨rfl,by have:=h2.2 a (List.mem_of_getElem? ha);simpa[Lit.wf,Iz]using this⟩) (fun b hb=>hz b (h2.1.lt b hb).1 (h2.1.lt b hb).2),kH hz h3⟩
theorem B9.grouped (hb0:za.b0=0) (h:B9 za w0 st E w Z B) {q b:Nat} (hq:st.L q= .map false (.int .i64) false (.sl (.int .i64)) []) (hqn:st.nm<=q) (hB:B q= .map (some b)) {w':World} (hx:Bg (· =b) w w') {ds:List Nat} {E':F5} (hE:∀s,s∉ds->E' s=E s)
 {ents:Array MapEntry} {clock:Nat} {es:List (Int×List Int)} {e:Nat} (hb':w'.heap[b]? =some (.map ents clock)) (hm:ZQ ents clock) (he:J2 kI (w'.ownsInts w.heap.size e .i64) ents.toList es):
 ∃Z',B9 za w0 ((ds.foldl (fun s d=>s.setS d .dead) st).setL q (.map false (.int .i64) false (.sl (.int .i64)) es)) E' w' Z' B:=by
 have hqx:q<st.nx:=by
  by_cases hlt:q<st.nx
  . exact hlt
  . rw[h.fresh q (by omega)]at hq;cases hq
 have hlq:=h.locs q;rw[hq]at hlq;obtain⟨b2,_,_,hB2,hU,hZ,hbw,_,_⟩:=hlq;rw[hB]at hB2;cases hB2;have hft:A6 w (B q) (st.L q) b:=by rw[hq,hB];rfl
 have hbl:b<w.heap.size:=(Array.getElem?_eq_some_iff.1 hbw).1;have hw0b:w0.heap.size<=b:=by
  have:=h.nms;rcases hU with hh|hh
  . exact hh.2
  . omega
 obtain⟨d1,d2,d3⟩:=dK ds st;have h1:=B9.deadL ds hE h;generalize ds.foldl (fun s d=>s.setS d .dead) st=st1 at*;have h2:=h1.drop q;have hLq:∀k,(st1.setL q .none).L k=if k=q then .none else st.L k:=fun k=>by rw[St.L_setL,d1]
 have old:∀c,(Z c\/∃k,A6 w (B k) ((st1.setL q .none).L k) c)->c<w.heap.size/\c≠b:=fun c hc=>by
  rcases hc with hc| ⟨k,hk⟩
  . exact⟨h.zlt c hc,fun e=>hZ (e▸hc)⟩
  . rw[hLq]at hk;split at hk
    . exact hk.elim
    . rename_i hne;exact⟨((h.locs k).root hk).2.1,fun e=>h.disj k q c hne hk (by rw[e];exact hft)⟩
 have h3:=h2.keep (w':=w') (Z':=fun c=>Z c\/(w.heap.size<=c/\c<w'.heap.size)) ⟨hx.os.trans h.ext.os,hx.tape.trans h.ext.tape,hx.output.trans h.ext.output,Nat.le_trans h.ext.size hx.size,fun c hc hm=>(hx.block c (Nat.lt_of_lt_of_le hc h.ext.size) (by omega)).trans (h.ext.block c hc hm),trivial⟩
  hx.size (fun c hc=>hx.block c (old c hc).1 (old c hc).2) (fun c hc=> .inl hc) (fun c hc=>by
   rcases hc with hc|hc
   . exact .inl hc
   . refine .inr ⟨hc.2,Nat.le_trans h.ext.size hc.1,fun k hk=> ?_⟩;have:=(old c (.inr ⟨k,hk⟩)).1;omega)
 have h4:=h3.putL (k:=q) (lc:= .map false (.int .i64) false (.sl (.int .i64)) es) (by show q<st1.nx;rw[d2];exact hqx) ⟨b,ents,clock,hB,hU,fun hc=>by
  rcases hc with hc|hc
  . exact hZ hc
  . omega,hb',hm,kH (fun c h1 h2=> .inr ⟨h1,h2⟩) he⟩ (fun k c hne hc hc'=>by
    have hcb:c=b:=by
     have:root (B q)=some c:=hc;rw[hB]at this;cases this;rfl
    have:=(A6.iff (w:=w) (w':=w') (v:=B k) (l:=(st1.setL q .none).L k) fun b' hb'=>hx.block b' (old b' (.inr ⟨k,hb'⟩)).1 (old b' (.inr ⟨k,hb'⟩)).2).1 hc';exact(old c (.inr ⟨k,this⟩)).2 hcb) trivial (fun c _ _=>by rw[hb0];exact Nat.zero_le _)
 refine⟨fun c=>Z c\/(w.heap.size<=c/\c<w'.heap.size), ?_⟩;have e:∀lc,((st1.setL q .none).setL q lc).L=(st1.setL q lc).L:=fun lc=>funext fun k=>by rw[St.L_setL,St.L_setL,St.L_setL];split<;>rfl
 exact⟨h4.ext,h4.zlt,h4.slots,fun k=>by have:=h4.locs k;rw[e]at this;exact this,fun k k' c hne h5 h6=>h4.disj k k' c hne (by rw[e];exact h5) (by rw[e];exact h6),h4.refs,fun k=>by have:=h4.refl k;rw[e]at this;exact this,fun k hk=>by have:=h4.fresh k hk;rw[e]at this;exact this,h4.bone,h4.zin,h4.nms,h4.bfix,⟨h4.mrk.1,fun k c hk hc=>h4.mrk.2 k c hk (by rw[e];exact hc)⟩,h4.frs,h4.frf⟩
end
def A2r (sm sc:Nat) (ds:List Nat) (k:St->Prop) (st:St):Prop:=match st.S sc,st.S sm with
 | .one ⟨false,[.val (.sl (.int .i64)) cs]⟩, .one ⟨false,[.mp q]⟩=>(match st.L q with
  | .map false (.int .i64) false (.sl (.int .i64)) []=>bif Nat.ble st.nm q then List.length (α:=Int) cs<=16384/\∀es:List (Int×List Int),(∀j:Int,0<=j->j<=16384->(F4 (.int .i64) j es).getD []=grp cs j)->k ((ds.foldl (fun s d=>s.setS d .dead) st).setL q (.map false (.int .i64) false (.sl (.int .i64)) es))else False
  | _=>False)
 | _,_=>False
theorem PO {w:World} {Z:Nat->Prop} :∀ {l:List Int} {cs:List Value},F2 (C7 (.int .i64) w Z) cs l->cs=l.map (Value.int .i64)/\∀x∈l,Iz .i64 x
 | [],_,h=>⟨h,fun _ h=>(by cases h)⟩
 |x::l,_,⟨c1,c2,e,h1,h2⟩=>by
  obtain⟨g1,g2⟩:=PO h2;refine⟨by rw[e,h1.1,g1];rfl,fun y hy=> ?_⟩;rcases List.mem_cons.1 hy with rfl|hy
  . exact h1.2
  . exact g2 y hy
theorem cJ {P:Program} {za:Zn} {w0:World} {n:Nat} {a b:Code} {k:K} {ka:St->Prop} {E:F5} {w:World} (ha:Gw.Wp P n a (post za w0 {k with n:=ka}) E w) (hb:∀st E w Z B,B9 za w0 st E w Z B->ka st->Gw.Wp P n b (post za w0 k) E w):Gw.Wp P n (.seq a b) (post za w0 k) E w:=by
 intro hok act hr;simp only[N8,Bool.and_eq_true]at hok;refine wp_seq (wp_mono (ha hok.1 act hr) ?_);rintro e a' w' ⟨E',hr',st',Z',B',h',hq⟩;cases e with
 |normal=>exact hb _ _ _ _ _ h' hq hok.2 a' hr'
 |exit i=>exact⟨E',hr',st',Z',B',h',hq⟩
 |ret=>exact⟨E',hr',st',Z',B',h',hq⟩
 | _=>exact hq.elim
end Go.Vc
namespace Go.Proofs.YtdlnpbmmdnmkaaaGreat
open Go Go.Vc Go.Gw Go.RowKit Go.Maps
def A2q:Code:= .seq (.region 9 #[.mk (some 51) (.move (.tmp 2)) 22 "matrix.go:216" #[] none, .mk (some 52) (.call (.mk (.builtin .len) #[.tmp 51] #[22])) 3 "matrix.go:216" #[.mk 0 .data] none, .mk (some 53) (.move (.const (.int .i64 0))) 3 "matrix.go:216" #[] none] false) (.block 0 (.loop (.seq (.region 10 #[.mk (some 54) (.binOp .lss 3 (.tmp 53) (.tmp 52) 3) 0 "matrix.go:216" #[] none] false) (.seq (.cond (.tmp 54) .skip (.exit 0)) (.seq (.block 1 (.seq (.region 11 #[.mk (some 55) (.move (.tmp 53)) 3 "matrix.go:216" #[] none, .mk (some 56) (.indexAddr 22 (.tmp 51) (.tmp 53)) 0 "matrix.go:216" #[] none, .mk (some 57) (.load 3 (.tmp 56)) 3 "matrix.go:216" #[.mk 1 .data] none, .mk (some 10) (.assign (.tmp 55)) 3 "matrix.go:216" #[.mk 0 .data, .mk 0 .phase, .mk 1 .phase, .mk 2 .phase] none, .mk (some 11) (.assign (.tmp 57)) 3 "matrix.go:216" #[.mk 2 .data, .mk 3 .chain, .mk 0 .phase, .mk 1 .phase, .mk 2 .phase, .mk 3 .phase] none] false) (.region 12 #[.mk (some 58) (.move (.tmp 9)) 101 "matrix.go:217" #[] none, .mk (some 59) (.move (.tmp 11)) 3 "matrix.go:217" #[] none, .mk (some 60) (.move (.tmp 9)) 101 "matrix.go:217" #[] none, .mk (some 61) (.move (.tmp 11)) 3 "matrix.go:217" #[] none, .mk (some 62) (.lookup 101 (.tmp 60) (.tmp 61) false) 22 "matrix.go:217" #[.mk 2 .data, .mk 3 .data] none, .mk (some 63) (.move (.tmp 10)) 3 "matrix.go:217" #[] none, .mk (some 64) (.buildSlice 22 1 #[(0, .tmp 63)]) 22 "matrix.go:217" #[.mk 5 .data] none, .mk (some 65) (.call (.mk (.builtin .append) #[.tmp 62, .tmp 64] #[22,22])) 22 "matrix.go:217" #[.mk 4 .data, .mk 6 .data] none, .mk none (.mapUpdate 101 (.tmp 58) (.tmp 59) (.tmp 65)) 0 "matrix.go:217" #[.mk 0 .data, .mk 1 .data, .mk 7 .data, .mk 7 .chain, .mk 0 .phase, .mk 1 .phase, .mk 2 .phase, .mk 3 .phase, .mk 4 .phase, .mk 5 .phase, .mk 6 .phase, .mk 7 .phase] none] false))) (.region 13 #[.mk (some 66) (.binOp .add 3 (.tmp 53) (.const (.int .i64 1)) 3) 3 "matrix.go:216" #[] none, .mk (some 53) (.move (.tmp 66)) 3 "matrix.go:216" #[.mk 0 .data] none] false))))))
abbrev pC:List Nat:= [10,11,51,52,53,54,55,56,57,58,59,60,61,62,63,64,65,66]
theorem XG (w:World):(zeroValue 22).run Tryz.prog w= .ok (.slice none 0 0) w:=by
 have hz:Y4 Tryz.prog 22=some (.slice none 0 0):=by kernel_rfl
 unfold Y4 at hz;cases hi:Tryz.prog.info? 22 with
 |none=>simp[hi]at hz
 |some i=>
  simp[hi]at hz;simp[zeroValue,typeInfo,hi,hz]
theorem kZ:Tryz.prog.underlying 3=some (.int .i64):=by kernel_rfl
theorem A1e:Tryz.prog.underlying 101=some (.map 3 22):=by kernel_rfl
theorem A4u:Tryz.prog.underlying 22=some (.slice 3):=by kernel_rfl
theorem A4t:lH Tryz.prog 3 (.int .i64 0) 1 8:=lI (by kernel_rfl)
theorem lA:Ai Tryz.prog 22 3 1=true:=by kernel_rfl
theorem A4s:Y0 Tryz.prog 3=true:=by kernel_rfl
theorem A4o (x:Int):Instr.fill (fun i=>some (i*1,1)) ((Array.range (1*1)).map ((Value.int .i64 0).cells[· %(Value.int .i64 0).cells.size]!)) [(0,Value.int .i64 x)]=some #[.int .i64 x]:=by
 obtain⟨r,hr,hrl,_⟩:=JD 1 [.int .i64 x] 0 ((Array.range (1*1)).map ((Value.int .i64 0).cells[· %(Value.int .i64 0).cells.size]!)) (by simp[Value.cells]) (by simp);have e:r= #[.int .i64 x]:=by
  apply Array.toList_inj.1;rw[hrl];simp[Value.cells]
 rw[e]at hr;exact hr
structure A4g (cs:List Int) (b:Nat) (w:World) (i:Nat) (w':World):Prop where
 ext:Bg (· =b) w w'
 le:i<=cs.length
 own:∃D:DataW Unit,w'.ownsGroups Tryz.prog 3 w.heap.size 3 .i64 b i D/\∀j,Iz .i64 j->bH (D.atKey (.int .i64 j) .nil)=XF cs i j
theorem WQ {m:Nat->Prop} {a b c:World} (h:Bg m a b) {r:Option Nat} (g:b.grownBy c r) (hr:∀k,k<a.heap.size->¬m k->some k≠r):Bg m a c:=
 ⟨g.os.trans h.os,g.tape.trans h.tape,g.output.trans h.output,Nat.le_trans h.size g.size,fun k hk hm=>(g.block k (Nat.lt_of_lt_of_le hk h.size) (hr k hk hm)).trans (h.block k hk hm),trivial⟩
theorem go_append_at {P:Program} {n:Nat} {R:F5->World->Prop} {k:List Fr} {E:F5} {w:World} {all rest:List Oper} {d:Nat} {ty:TypeId} {pos:String} {aft:Array Edge} {g:Option (Nat×Bool)} {s x:Operand} {t e:TypeId} {base sz bytes m c len:Nat} {z v:Value} {xs news:List Value} {a:Addr} (hs:ev E s=v) (hx:ev E x= .slice (some a) m c) (own:w.ownsRow base e sz v len xs)
 (ht:P.underlying t=some (.slice e)) (hi:lH P e z sz bytes) (hzs:z.cells.size=sz) (hsz:0<sz) (hl:news.length=m*sz) (hn:H1 w a news) (h1:∀u∈news,u.oneCell'=true)
 (h63:len+m<=maxLen) (hb:(len+m)*bytes<=140737488355328) (hbase:base<=w.heap.size)
 (hg:D5 all ⟨some d, .call ⟨.builtin .append, #[s,x], #[t,t]⟩,ty,pos,aft,g⟩ E=true)
 (h:∀v' w1,w1.ownsRow base e sz v' (len+m) (xs++news)->w.grownBy w1 v.ownBlock->(v'.ownBlock=v.ownBlock\/v'.ownBlock=some w.heap.size)->Go P n R (.ops all rest::k) (upd E d v') w1):
 Go P n R (.ops all (⟨some d, .call ⟨.builtin .append, #[s,x], #[t,t]⟩,ty,pos,aft,g⟩::rest)::k) E w:=by
 obtain⟨i,hi1,hi2,hi3,hi4⟩:=hi;obtain⟨v',w1,hrun,hown,hgr,_,hloc⟩:=run_append_own_at (P:=P) w base t ty e i z sz bytes ht hi1 hi2 hi3 hi4 hzs hsz v len xs own a m c news hl hn h1 h63 hb hbase;refine go_y (v:=v') (w':=w1) (fun _ _ _ _=> ?_) hg (h v' w1 hown hgr hloc);simp[execOp,resolve,invoke,builtin,hs,hx,hrun]
set_option maxHeartbeats 4000000 in
set_option maxRecDepth 100000 in
theorem A2s {n:Nat} {cs:List Int} {E:F5} {w:World} {b cap clock:Nat} {a:Option Addr} {ents:Array MapEntry} (h2:E 2= .slice a cs.length cap) (h9:E 9= .map (some b)) (hb:w.heap[b]? =some (.map ents clock)) (he:ents.toList= [])
 (hcs:∀i:Nat,i<cs.length->∃bb o,a=some ⟨bb,o,none⟩/\bb≠b/\bb<w.heap.size/\w.cell? ⟨bb,o+i,none⟩=some (.int .i64 (cs.getD i 0))/\Iz .i64 (cs.getD i 0)) (hl:cs.length<=16384):
 Go Tryz.prog n (fun _ _=>False) [.code A2q, .upto fun E' w'=>(∀s,s∉pC->E' s=E s)/\A4g cs b w cs.length w'] E w:=by
 have hbl:b<w.heap.size:=(Array.getElem?_eq_some_iff.1 hb).1;refine go_seq ?_;refine go_region ?_;refine go_y (v:=E 2) Ir rfl ?_;refine go_y (v:= .int .i64 cs.length) (A1o (s:=1) (e:=3) h2 lA) rfl ?_;refine go_y (v:= .int .i64 0) Ir rfl ?_;refine go_ops_nil ?_;refine go_block ?_;refine go_loop (G:=Nat) [10,11,53,54,55,56,57,58,59,60,61,62,63,64,65,66] (fun g=> [(53, .int .i64 (g:Int))]) (A4g cs b w) (fun g=>cs.length-g) 0 ⟨rfl,trivial⟩ ⟨⟨rfl,rfl,rfl,Nat.le_refl _,fun _ _ _=>rfl,trivial⟩,Nat.zero_le _, .map [], ?_,fun _ _=>rfl⟩ ?_
 . have he2:ents= #[]:=by cases ents;simp at he;subst he;rfl
   subst he2;exact⟨#[],clock,hb,⟨by simp,⟨by simp,by simp,by simp⟩,by simp⟩,Nat.le_refl _,rfl,hbl,by simp,by simp⟩
 intro g X w1 hI;obtain⟨hx,hg,D,hD,hDj⟩:=hI;refine go_seq ?_;refine go_region ?_;by_cases hlt:g<cs.length
 . refine go_y (v:= .bool true) (A0v (A5r (a:=(g:Int)) (b:=(cs.length:Int)) rfl rfl) (by omega)) rfl ?_;refine go_ops_nil ?_;refine go_seq ?_;refine go_cond_true rfl ?_;refine go_skip ?_;refine go_seq ?_;refine go_block ?_;refine go_seq ?_;refine go_region ?_;obtain⟨bb,o,ha,hbb,hbw,hcell,hin⟩:=hcs g hlt;have hcell1:w1.cell? ⟨bb,o+g*1,none⟩=some (.int .i64 (cs.getD g 0)):=by
    rw[Nat.mul_one, <-hcell];exact World.cell?_of_block (hx.block bb hbw hbb)
   have hgn:=fun j=>gB cs g j
   generalize cs.getD g 0=x at*;refine go_y (v:= .int .i64 (g:Int)) Ir rfl ?_;refine go_y (v:= .pointer (some ⟨bb,o+g*1,none⟩)) (A3x (v:=E 2) g rfl (by rw[h2,ha]) rfl rfl lA hlt) rfl ?_;refine go_y (v:= .int .i64 (x)) (MZ rfl A4s hcell1) rfl ?_;refine go_y (v:= .int .i64 (g:Int)) BK rfl ?_;refine go_y (v:= .int .i64 (x)) BK rfl ?_;refine go_ops_nil ?_;refine go_region ?_;refine go_y (v:=E 9) Ir rfl ?_;refine go_y (v:= .int .i64 (x)) Ir rfl ?_;refine go_y (v:=E 9) Ir rfl ?_;refine go_y (v:= .int .i64 (x)) Ir rfl ?_;obtain⟨v,zs,hrun,hat,hoi,hzl,hback⟩:=hD.at (int_keyed kZ) A1e (XG w1) (by simp only[maxLen];omega) (A1g kZ hin);refine go_y (v:=v) (w':=w1) (fun _ _ _ _=> ?_) rfl ?_
   . show(execOp _ _).run _ _= _;have e1:∀ {E':F5},E' 60=E 9->E' 61= .int .i64 (x)->∀d ty pos aft gg,(execOp (ev E') ⟨d, .lookup 101 (.tmp 60) (.tmp 61) false,ty,pos,aft,gg⟩).run Tryz.prog w1= .ok (.value v) w1:=fun {E'} f1 f2 d ty pos aft gg=>by
      simp[execOp,ev,f1,f2,h9,hrun,Result.andThen]
     exact e1 rfl rfl _ _ _ _ _
   refine go_y (v:= .int .i64 (g:Int)) Ir rfl ?_;refine go_buildSlice (sz:=1) (e:=3) #[.int .i64 (g:Int)] lA (z:= .int .i64 0) (by kernel_rfl) (by decide) (A4o _) (by decide) rfl ?_;intro w2 b2 hx2 hn2 hb2;have hg2:∀r,w1.grownBy w2 r:=fun r=>⟨hx2.os,hx2.tape,hx2.output,hx2.size,fun k hk _=>hx2.block k hk⟩
   have hoi2:=hoi.kept (hg2 none) (by cases v.ownBlock<;>simp);refine go_append_at (v:=v) (base:=w.heap.size) (sz:=1) (bytes:=8) (m:=1) (news:= [.int .i64 (g:Int)]) (a:=⟨b2,0,none⟩) rfl rfl hoi2.1 A4u A4t rfl (by decide) rfl (fun j u hu=> ?_) (by simp[Value.oneCell']) (by simp only[maxLen];omega) (by omega) (Nat.le_trans hx.size hx2.size) rfl ?_
   . rw[G8,Nat.zero_add];exact hb2.cell (by simpa using hu)
   intro v' w3 hown' hg3 hloc;have hgI:Iz .i64 (g:Int):=by
    show _ <= _ /\ _ <= _;constructor
    . exact Int.le_trans (by decide:(IntKind.i64.min:Int)<=0) (Int.natCast_nonneg _)
    . exact Int.le_trans (by omega:(g:Int)<=16384) (by decide)
   have hoi3:w3.ownsInts w.heap.size 3 .i64 v' (zs++ [(g:Int)]):=hoi2.appended hown' (by simpa[Lit.wf,Iz]using hgI);have hg13:w1.grownBy w3 v.ownBlock:=(hg2 _).trans hg3;obtain⟨w4,hrun4,hD4,hg4⟩:=hback w3 v' (zs++ [(g:Int)]) hg13 hoi3 (by simp;omega) (hloc.imp id fun e=>⟨_,e,hx2.size⟩);refine go_s (w':=w4) (fun _ _ _ _=> ?_) rfl ?_
   . have e1:∀ {E':F5},E' 58=E 9->E' 59= .int .i64 x->E' 65=v'->∀d ty pos aft gg,(execOp (ev E') ⟨d, .mapUpdate 101 (.tmp 58) (.tmp 59) (.tmp 65),ty,pos,aft,gg⟩).run Tryz.prog w3= .ok .skip w4:=fun {E'} f1 f2 f3 d ty pos aft gg=>by
      simp[execOp,ev,f1,f2,f3,h9,hrun4]
     exact e1 rfl rfl rfl _ _ _ _ _
   refine go_ops_nil ?_;refine go_blk ?_;refine go_region ?_;refine go_y (v:= .int .i64 ((g:Int)+1)) (A5n rfl rfl (by unfold pH;omega)) rfl ?_;refine go_y (v:= .int .i64 ((g:Int)+1)) Ir rfl ?_;refine go_ops_nil ?_;have hrow:∀k,k<w.heap.size->k≠b->some k≠v.ownBlock:=fun k hk _ e=>by have:=(hoi.1.lt k e.symm).1;omega
   refine go_upto ⟨g+1, ?_,⟨ie (by omega),trivial⟩,⟨WQ (WQ hx hg13 hrow) hg4 fun k _ hk e=>hk (by cases e;rfl),by omega,_,hD4,fun j hj=> ?_⟩,by omega⟩
   . repeat (refine R8.upd rfl ?_)
     exact R8.updL rfl (R8.havoc rfl (R8.refl _ _))
   . rw[hgn];have hm:IsMap D:=by obtain⟨_,_,_,_,_,h,_⟩:=hD;exact⟨_,h⟩
     have hkl:WideAt.IsKeyLit (.int .i64 x):=trivial;by_cases hjx:x=j
     . subst hjx;rw[if_pos rfl,atKey_put_same hm hkl,CS hoi3, <-hDj x hj,hat,CS hoi]
     . rw[if_neg hjx,atKey_put_other (fun e=>hjx (by cases e;rfl)),hDj j hj]
 . refine go_y (v:= .bool false) (A0u (A5r (a:=(g:Int)) (b:=(cs.length:Int)) rfl rfl) (by omega)) rfl ?_;refine go_ops_nil ?_;refine go_seq ?_;refine go_cond_false rfl ?_;refine go_exit rfl ?_;refine go_upto ⟨fun s hs=> ?_, ?_⟩
   . exact(R8.upd (mods:=pC) rfl (R8.updL rfl (R8.havoc rfl (R8.upd rfl (R8.upd rfl (R8.upd rfl (R8.refl _ _))))))) s (by simpa using hs)
   . have:g=cs.length:=by omega
     subst this;exact⟨hx,hg,D,hD,hDj⟩
theorem pD {za:Zn} {w0:World} {n:Nat} {st:St} {E:F5} {w:World} {Z:Nat->Prop} {B:Nat->Value} {k:St->Prop} {kk:K} (hb0:za.b0=0) (h:B9 za w0 st E w Z B) (hs:A2r 9 2 pC k st):Gw.Wp Tryz.prog n A2q (post za w0 {kk with n:=k}) E w:=by
 unfold A2r at hs;split at hs
 . rename_i cs q h2 h9;split at hs
   . rename_i hq;cases hnm:Nat.ble st.nm q with
     |false=>rw[hnm]at hs;exact hs.elim
     |true=>
      rw[hnm]at hs;obtain⟨hl,hk⟩:=hs;have s2:=h.slots 2;have s9:=h.slots 9;rw[h2]at s2;rw[h9]at s9;obtain⟨v2,_,e2,r2,e3⟩:=(show X7 w Z B [.val (.sl (.int .i64)) cs] [E 2]from s2);cases e3;cases e2;obtain⟨a,cap,e4,_,_,_,hcs⟩:=(show C7 (.sl (.int .i64)) w Z [E 2] cs from r2);have hE2:E 2= .slice a (List.length (α:=Int) cs) cap:=by simpa using e4
      obtain⟨v9,_,e2,r9,e3⟩:=(show X7 w Z B [.mp q] [E 9]from s9);cases e3;cases e2;have hlq:=h.locs q;rw[hq]at hlq;obtain⟨b,ents,clock,hB,_,hZ,hbw,_,hen⟩:=hlq;have hen:ents.toList= []:=hen;have hE9:E 9= .map (some b):=(show E 9=B q from r9).trans hB;have hgo:=A2s (n:=n) (cs:=cs) hE2 hE9 hbw hen (fun i hi=>by
       rcases hcs with hcs| ⟨bb,o,ec,ha,hz,hc,he⟩
       . have:List.length (α:=Int) cs=0:=by rw[show cs= []from hcs];rfl
         omega
       . obtain⟨g1,g2⟩:=PO he;have hget:(cs:List Int)[i]? =some (List.getD (α:=Int) cs i 0):=by rw[List.getD_eq_getElem?_getD,List.getElem?_eq_getElem hi];rfl
         refine⟨bb,o,ha,fun e=>hZ (e▸hz),h.zlt bb hz,hc.get (j:=i) ?_,g2 _ (List.mem_of_getElem? hget)⟩;rw[g1,List.getElem?_map,hget];rfl) hl
      intro hok act hr;refine wp_mono (hgo.out hok act hr) ?_;rintro e a' w' ⟨E',hr',hh⟩;cases e with
      |normal=>
       obtain⟨hE,hx, -,D,hD,hDj⟩:=hh;obtain⟨ents',clock',es,g1,g2,g3,g4⟩:=XD kZ A1e (XG w') hD;obtain⟨Z',h'⟩:=h.grouped hb0 hq (Nat.le_of_ble_eq_true hnm) hB hx hE g1 g2 g3;refine⟨E',hr',_,Z',B,h',hk es fun j h0 h1=> ?_⟩;have hj:Iz .i64 j:=⟨Int.le_trans (by decide) h0,Int.le_trans h1 (by decide)⟩;rw[g4 j hj,hDj j hj];rfl
      | _=>exact hh.elim
   . exact hs.elim
 . exact hs.elim
end Go.Proofs.YtdlnpbmmdnmkaaaGreat
namespace Go.Proofs.YtdlnpbmmdnmkaaaGreat
open Go.Vc Go.Gw
noncomputable def Vd:I7:= []
def Un:An:= {}
def E6:An:= {loop:= [(23,⟨[3,6,9,12,13,17,72,73,74,83,84,85,92,93],[0,1,2,4,5,7],[(15,false,[.own tE 79]),(94,false,[.val (.int .i64)])],[],[]⟩),(20,⟨[3,6,9,12,13,72,73,74,83,84],[0,1,2,4,5],[(15,false,[.own tE 79]),(85,false,[.val (.int .i64)])],[],[]⟩),(16,⟨[3,6,9,12,72,73],[0,1,2,5],[(74,false,[.val (.int .i64)])],[],[(4, .rows tE 65 79)]⟩)]}
noncomputable def J9:I7:= [(34,P0),(55,Gi (kT Tryz.prog [(false, .int .i64)] false .bool (.int .i64) (fun n x=>decide (x.1<0\/n<=x.1)))),(57,F1),(58,O5),(60,P9),(61,Gi (UY 62 tE 79 (fun a b=>Cb a.1 b.1))),(59,Gi (YD ⟨Tryz.prog,Dx⟩ [(71,Vd,Un)] Tryz.f59.results.toList (Tryz.f59.body.getD .skip) Tryz.f59.ntmps))]
def iZ:Code->Code
 | .seq a _=>a
 |c=>c
def sq2:Code->Code
 | .seq _ b=>b
 |c=>c
noncomputable def AI (i:Nat):Code:=(List.range i).foldl (fun c _=>sq2 c) (Tryz.f21.body.getD .skip)
noncomputable def A5h (x:A5 C9.args):Prop:=Dn ⟨Tryz.prog,Dx⟩ J9 E6 (iZ (AI 0)) ⟨Dn ⟨Tryz.prog,Dx⟩ J9 E6 (iZ (AI 1)) ⟨Dn ⟨Tryz.prog,Dx⟩ J9 E6 (iZ (AI 2)) ⟨Dn ⟨Tryz.prog,Dx⟩ J9 E6 (iZ (AI 3)) ⟨Dn ⟨Tryz.prog,Dx⟩ J9 E6 (iZ (AI 4)) ⟨Dn ⟨Tryz.prog,Dx⟩ J9 E6 (iZ (AI 5)) ⟨A2r 9 2 pC (Dn ⟨Tryz.prog,Dx⟩ J9 E6 (AI 7) ⟨fin ⟨Tryz.prog,Dx⟩ C9 Tryz.f21.results.toList x,fun _ _=>False,fin ⟨Tryz.prog,Dx⟩ C9 Tryz.f21.results.toList x⟩),fun _ _=>False,fin ⟨Tryz.prog,Dx⟩ C9 Tryz.f21.results.toList x⟩,fun _ _=>False,fin ⟨Tryz.prog,Dx⟩ C9 Tryz.f21.results.toList x⟩,fun _ _=>False,fin ⟨Tryz.prog,Dx⟩ C9 Tryz.f21.results.toList x⟩,fun _ _=>False,fin ⟨Tryz.prog,Dx⟩ C9 Tryz.f21.results.toList x⟩,fun _ _=>False,fin ⟨Tryz.prog,Dx⟩ C9 Tryz.f21.results.toList x⟩,fun _ _=>False,fin ⟨Tryz.prog,Dx⟩ C9 Tryz.f21.results.toList x⟩ (JL Tryz.prog C9.args x)
def Ax:A5 C9.args->Prop:=fun(x:MM×List Int×List Int×Unit)=>True/\∀(r:Bool×Unit),True/\True->r.1=decide (C3 x.1)->((!r.1)=true->(¬C3 x.1->((0:Int),(0:Int),[])=zm/\(1:Int)=(1:Int))/\(C3 x.1->(((∃(i:Int),i∈x.2.1/\(i<(0:Int)\/x.1.1<=i))\/∃(i:Int),i∈x.2.2.1/\(i<(0:Int)\/x.1.2.1<=i))->((0:Int),(0:Int),[])=zm/\(1:Int)=(3:Int))/\(¬((∃(i:Int),i∈x.2.1/\(i<(0:Int)\/x.1.1<=i))\/∃(i:Int),i∈x.2.2.1/\(i<(0:Int)\/x.1.2.1<=i))->(16384<x.2.1.length\/16384<x.2.2.1.length->((0:Int),(0:Int),[])=zm/\(1:Int)=(8:Int))/\(x.2.1.length<=(16384:Nat)/\x.2.2.1.length<=(16384:Nat)->Em x.2.1.length x.2.2.1.length (fun(i j:Nat)=>el x.1 (x.2.1.getD i (0:Int)).toNat (x.2.2.1.getD j (0:Int)).toNat) ((0:Int),(0:Int),[])/\(1:Int)=(0:Int)))))/\((!r.1)=false->Go.Proofs.Tryz.prog=Go.Proofs.Tryz.prog/\false=false/\(∀(i:Int),i∈x.2.1->(fun(x:Int×Unit)=>True,fun(z:Int×Unit)=>decide (z.1<(0:(Ty.int IntKind.i64).den)\/x.1.1<=z.1)).1 (i,()))/\∀(r:Bool×Unit),True/\True->r.1=decide (∃(i:Int),i∈x.2.1/\(fun(x:Int×Unit)=>True,fun(z:Int×Unit)=>decide (z.1<(0:(Ty.int IntKind.i64).den)\/x.1.1<=z.1)).2 (i,())=true)->Go.Proofs.Tryz.prog=Go.Proofs.Tryz.prog/\false=false/\(r.1=false->∀(i:Int),i∈x.2.2.1->(fun(x:Int×Unit)=>True,fun(z:Int×Unit)=>decide (z.1<(0:(Ty.int IntKind.i64).den)\/x.1.2.1<=z.1)).1 (i,()))/\∀(e:Bool×Unit),(r.1=false->(True/\True)/\e.1=decide (∃(i:Int),i∈x.2.2.1/\(fun(x:Int×Unit)=>True,fun(z:Int×Unit)=>decide (z.1<(0:(Ty.int IntKind.i64).den)\/x.1.2.1<=z.1)).2 (i,())=true))->(E5 r.1 true e.1=true->(¬C3 x.1->((0:Int),(0:Int),[])=zm/\(3:Int)=(1:Int))/\(C3 x.1->(((∃(i:Int),i∈x.2.1/\(i<(0:Int)\/x.1.1<=i))\/∃(i:Int),i∈x.2.2.1/\(i<(0:Int)\/x.1.2.1<=i))->((0:Int),(0:Int),[])=zm/\(3:Int)=(3:Int))/\(¬((∃(i:Int),i∈x.2.1/\(i<(0:Int)\/x.1.1<=i))\/∃(i:Int),i∈x.2.2.1/\(i<(0:Int)\/x.1.2.1<=i))->(16384<x.2.1.length\/16384<x.2.2.1.length->((0:Int),(0:Int),[])=zm/\(3:Int)=(8:Int))/\(x.2.1.length<=(16384:Nat)/\x.2.2.1.length<=(16384:Nat)->Em x.2.1.length x.2.2.1.length (fun(i j:Nat)=>el x.1 (x.2.1.getD i (0:Int)).toNat (x.2.2.1.getD j (0:Int)).toNat) ((0:Int),(0:Int),[])/\(3:Int)=(0:Int)))))/\(E5 r.1 true e.1=false->True/\∀(r:Bool×Unit),True/\True->r.1=decide ((0:Int)<=(x.2.1.length:Int)/\(x.2.1.length:Int)<=(16384:Int))->((!r.1)=false->True)/\∀(f:Bool×Unit),((!r.1)=false->(True/\True)/\f.1=decide ((0:Int)<=(x.2.2.1.length:Int)/\(x.2.2.1.length:Int)<=(16384:Int)))->((E5 (!r.1) true !f.1)=true->(¬C3 x.1->((0:Int),(0:Int),[])=zm/\(8:Int)=(1:Int))/\(C3 x.1->(((∃(i:Int),i∈x.2.1/\(i<(0:Int)\/x.1.1<=i))\/∃(i:Int),i∈x.2.2.1/\(i<(0:Int)\/x.1.2.1<=i))->((0:Int),(0:Int),[])=zm/\(8:Int)=(3:Int))/\(¬((∃(i:Int),i∈x.2.1/\(i<(0:Int)\/x.1.1<=i))\/∃(i:Int),i∈x.2.2.1/\(i<(0:Int)\/x.1.2.1<=i))->(16384<x.2.1.length\/16384<x.2.2.1.length->((0:Int),(0:Int),[])=zm/\(8:Int)=(8:Int))/\(x.2.1.length<=(16384:Nat)/\x.2.2.1.length<=(16384:Nat)->Em x.2.1.length x.2.2.1.length (fun(i j:Nat)=>el x.1 (x.2.1.getD i (0:Int)).toNat (x.2.2.1.getD j (0:Int)).toNat) ((0:Int),(0:Int),[])/\(8:Int)=(0:Int)))))/\((E5 (!r.1) true !f.1)=false->List.length x.2.2.1<=16384/\∀(es:List (Int×List Int)),(∀(j:Int),(0:Int)<=j->j<=(16384:Int)->(F4 (Ty.int IntKind.i64) j es).getD []=Go.Gw.grp x.2.2.1 j)->((0:Int)<=(x.2.1.length:Int)/\(x.2.1.length:Int)<=(x.2.1.length:Int)/\(↑(24:Nat):Int)*(x.2.1.length:Int)<=(281474976710656:Int)/\(x.2.1.length:Int)<=(9223372036854775807:Int))/\∃(I:Int×List (List EE)×Unit->Prop),∃(μ:Int×List (List EE)×Unit->Nat),I ((0:Int),List.replicate (x.2.1.length:Int).toNat [],())/\∀(p:Int×List (List EE)×Unit),(Ty.int IntKind.i64).wf p.1/\A1r p.2.1/\True->I p->(decide (p.1<(x.2.1.length:Int))=true->(0<=p.1/\p.1<(x.2.1.length:Int))/\((0:Int)<=gx (0:Int) x.2.1 p.1/\gx (0:Int) x.2.1 p.1<(x.1.2.2.length:Int))/\∃(I_1:List EE×Int×Unit->Prop),∃(μ_1:List EE×Int×Unit->Nat),I_1 ([],(0:Int),())/\∀(c:List EE×Int×Unit),tE.sl.wf c.1/\(Ty.int IntKind.i64).wf c.2.1/\True->I_1 c->(decide (c.2.1<(↑(gx [] x.1.2.2 (gx (0:Int) x.2.1 p.1)).length:Int))=true->(0<=c.2.1/\c.2.1<(↑(gx [] x.1.2.2 (gx (0:Int) x.2.1 p.1)).length:Int))/\∃(I:List EE×Int×Unit->Prop),∃(μ:List EE×Int×Unit->Nat),I (c.1,(0:Int),())/\∀(d:List EE×Int×Unit),tE.sl.wf d.1/\(Ty.int IntKind.i64).wf d.2.1/\True->I d->(decide (d.2.1<(↑((F4 (Ty.int IntKind.i64) (gx C8 (gx [] x.1.2.2 (gx (0:Int) x.2.1 p.1)) c.2.1).1 es).getD []).length:Int))=true->(0<=d.2.1/\d.2.1<(↑((F4 (Ty.int IntKind.i64) (gx C8 (gx [] x.1.2.2 (gx (0:Int) x.2.1 p.1)) c.2.1).1 es).getD []).length:Int))/\I9 (gx C8 (gx [] x.1.2.2 (gx (0:Int) x.2.1 p.1)) c.2.1).2/\∀(r:QQ×Unit),U7 r.1/\True->r.1=rc (rv (gx C8 (gx [] x.1.2.2 (gx (0:Int) x.2.1 p.1)) c.2.1).2)->((d.1.length+ [(gx (0:Int) ((F4 (Ty.int IntKind.i64) (gx C8 (gx [] x.1.2.2 (gx (0:Int) x.2.1 p.1)) c.2.1).1 es).getD []) d.2.1,r.1)].length)*(64:Nat)<=(140737488355328:Nat)/\d.1.length+ [(gx (0:Int) ((F4 (Ty.int IntKind.i64) (gx C8 (gx [] x.1.2.2 (gx (0:Int) x.2.1 p.1)) c.2.1).1 es).getD []) d.2.1,r.1)].length<=9223372036854775807)/\I (d.1++ [(gx (0:Int) ((F4 (Ty.int IntKind.i64) (gx C8 (gx [] x.1.2.2 (gx (0:Int) x.2.1 p.1)) c.2.1).1 es).getD []) d.2.1,r.1)],IntKind.i64.wrap (d.2.1+1),())/\μ (d.1++ [(gx (0:Int) ((F4 (Ty.int IntKind.i64) (gx C8 (gx [] x.1.2.2 (gx (0:Int) x.2.1 p.1)) c.2.1).1 es).getD []) d.2.1,r.1)],IntKind.i64.wrap (d.2.1+1),())<μ d)/\(decide (d.2.1<(↑((F4 (Ty.int IntKind.i64) (gx C8 (gx [] x.1.2.2 (gx (0:Int) x.2.1 p.1)) c.2.1).1 es).getD []).length:Int))=false->I_1 (d.1,IntKind.i64.wrap (c.2.1+1),())/\μ_1 (d.1,IntKind.i64.wrap (c.2.1+1),())<μ_1 c))/\(decide (c.2.1<(↑(gx [] x.1.2.2 (gx (0:Int) x.2.1 p.1)).length:Int))=false->c.1.length<=(100000:Nat)/\∀(l':List EE),tE.sl.wf l'->l'.Perm c.1->List.Pairwise (fun(a b:Int×(Bool×List Int)×List Int)=>¬Cb b.1 a.1<0) l'->(0<=p.1/\p.1<(p.2.1.length:Int))/\I (IntKind.i64.wrap (p.1+1),List.set p.2.1 (Int.toNat p.1) l',())/\μ (IntKind.i64.wrap (p.1+1),List.set p.2.1 (Int.toNat p.1) l',())<μ p))/\(decide (p.1<(x.2.1.length:Int))=false->(¬C3 x.1->((x.2.1.length:Int),(x.2.2.1.length:Int),p.2.1)=zm/\(0:Int)=(1:Int))/\(C3 x.1->(((∃(i:Int),i∈x.2.1/\(i<(0:Int)\/x.1.1<=i))\/∃(i:Int),i∈x.2.2.1/\(i<(0:Int)\/x.1.2.1<=i))->((x.2.1.length:Int),(x.2.2.1.length:Int),p.2.1)=zm/\(0:Int)=(3:Int))/\(¬((∃(i:Int),i∈x.2.1/\(i<(0:Int)\/x.1.1<=i))\/∃(i:Int),i∈x.2.2.1/\(i<(0:Int)\/x.1.2.1<=i))->(16384<x.2.1.length\/16384<x.2.2.1.length->((x.2.1.length:Int),(x.2.2.1.length:Int),p.2.1)=zm/\(0:Int)=(8:Int))/\(x.2.1.length<=(16384:Nat)/\x.2.2.1.length<=(16384:Nat)->Em x.2.1.length x.2.2.1.length (fun(i j:Nat)=>el x.1 (x.2.1.getD i (0:Int)).toNat (x.2.2.1.getD j (0:Int)).toNat) ((x.2.1.length:Int),(x.2.2.1.length:Int),p.2.1)/\(0:Int)=(0:Int))))))))
theorem Vg (x:A5 C9.args):A5h x=Ax x:=by kernel_rfl
theorem A0i:Tryz.f21.body.getD .skip= .seq (iZ (AI 0)) (.seq (iZ (AI 1)) (.seq (iZ (AI 2)) (.seq (iZ (AI 3)) (.seq (iZ (AI 4)) (.seq (iZ (AI 5)) (.seq A2q (AI 7))))))):=by kernel_rfl
set_option maxRecDepth 100000 in
theorem GN (hsp:Kr Tryz.prog J9) (h:∀x,awf C9.args x->C9.pre x->Ax x):B8 Tryz.prog 21 C9:=by
 refine gQ (cx:=⟨Tryz.prog,Dx⟩) (fn:=Tryz.f21) (c:=Tryz.f21.body.getD .skip) Tryz.func21 (by kernel_rfl) (Nat.le_of_ble_eq_true (by kernel_rfl)) (by kernel_rfl) Et fun x hw hp za w0 E w Z B hb0 hr=> ?_
 have hs:A5h x:=(Vg x).mpr (h x hw hp);rw[A0i];exact cJ (Gl (cx:=⟨Tryz.prog,Dx⟩) (an:=E6) Et hsp hb0 hr hs) fun _ _ _ _ _ hr hs=>cJ (Gl (cx:=⟨Tryz.prog,Dx⟩) (an:=E6) Et hsp hb0 hr hs) fun _ _ _ _ _ hr hs=>cJ (Gl (cx:=⟨Tryz.prog,Dx⟩) (an:=E6) Et hsp hb0 hr hs) fun _ _ _ _ _ hr hs=>cJ (Gl (cx:=⟨Tryz.prog,Dx⟩) (an:=E6) Et hsp hb0 hr hs) fun _ _ _ _ _ hr hs=>cJ (Gl (cx:=⟨Tryz.prog,Dx⟩) (an:=E6) Et hsp hb0 hr hs) fun _ _ _ _ _ hr hs=>cJ (Gl (cx:=⟨Tryz.prog,Dx⟩) (an:=E6) Et hsp hb0 hr hs) fun _ _ _ _ _ hr hs=>cJ (pD (kk:=⟨fin ⟨Tryz.prog,Dx⟩ C9 Tryz.f21.results.toList x,fun _ _=>False,fin ⟨Tryz.prog,Dx⟩ C9 Tryz.f21.results.toList x⟩) hb0 hr hs) fun _ _ _ _ _ hr hs=>Gl (cx:=⟨Tryz.prog,Dx⟩) (an:=E6) Et hsp hb0 hr hs
theorem Dy (x:A5 H0.args) (hw:awf H0.args x) (hp:H0.pre x):X3 x:=by
 obtain⟨l,⟨ok,φ⟩,_⟩:=x;have hl:l.length<=9223372036854775807:=hw.1.1;change List Int at l;have hp:∀i∈l,ok (i,()):=hp;simp only[X3];refine⟨fun p=>0<=p.1/\p.1<=(l.length:Int)/\∀y∈l.take p.1.toNat,φ (y,())=false,fun p=>((l.length:Int)-p.1).toNat,⟨Int.le_refl _,Int.natCast_nonneg _,by simp⟩, ?_⟩;rintro⟨i,_⟩ _ ⟨h0,h1,h2⟩;change Int at i;simp only at h0 h1 h2⊢;refine⟨fun h=> ?_,fun h=> ?_⟩
 . have h:=of_decide_eq_true h;refine⟨⟨h0,h⟩,by trivial,hp _ (L6 h0 h),fun _=>⟨fun ht=> ?_,fun hf=> ?_⟩⟩
   . have hfi:l.findIdx? (fun i=>φ (i,()))=some i.toNat:=by
      rw[List.findIdx?_eq_some_iff_getElem];have hg:=H2 (d:=(0:Int)) h0 h;have hlt:i.toNat<l.length:=by omega
      rw[List.getElem?_eq_getElem hlt]at hg;refine⟨hlt,by rw[Option.some.inj hg];exact ht,fun j hj=> ?_⟩;have:=h2 l[j] (List.mem_iff_getElem.2 ⟨j,by rw[List.length_take];omega,by simp⟩);simp[this]
     unfold XK;rw[hfi];show i=((i.toNat:Nat):Int);omega
   . rw[wr (by omega) (by omega)];exact⟨⟨by omega,by omega,Cf h0 h h2 hf⟩,by omega⟩
 . have h:=of_decide_eq_false h;rw[F6 (by omega)]at h2;unfold XK;have:l.findIdx? (fun i=>φ (i,()))=none:=by
    rw[List.findIdx?_eq_none_iff];exact h2
   rw[this]
theorem pE (p:Int->Bool) (l:List Int):0<=XK p l↔∃i,i∈l/\p i=true:=by
 unfold XK;cases h:l.findIdx? p with
 |none=>
  rw[List.findIdx?_eq_none_iff]at h;constructor
  . intro h2;simp at h2
  . rintro⟨i,hi,hp⟩;have:=h i hi;rw[this]at hp;cases hp
 |some k=>
  rw[List.findIdx?_eq_some_iff_getElem]at h;obtain⟨hk,hp,_⟩:=h;exact⟨fun _=>⟨_,List.getElem_mem hk,hp⟩,fun _=>Int.natCast_nonneg _⟩
theorem Ce (x:A5 F1.args) (hw:awf F1.args x) (hp:F1.pre x):S6 x:=by
 obtain⟨l,⟨ok,φ⟩,_⟩:=x;change List Int at l;have hp:∀i∈l,ok (i,()):=hp;simp only[S6];refine⟨by trivial,by trivial,hp, ?_⟩;rintro⟨r,_⟩ _ hr;simp only at hr⊢;rw[hr];exact decide_eq_decide.2 (pE _ _)
theorem Mf (x:A5 I1.args) (hw:awf I1.args x) (_:I1.pre x):Fo x:=by
 simp only[Fo];rw[L3,Bool.decide_or]
theorem fT {a b:List F8} (h:a.Perm b) (j:Int):C5 a j=C5 b j:=by
 induction h with
 |nil=>rfl
 |cons e _ ih=>rw[C5,C5,ih]
 |swap e f l=>simp only[C5];rw[<-Rat.add_assoc, <-Rat.add_assoc,Rat.add_comm (if f.1=j then rv f.2 else 0)]
 |trans _ _ h1 h2=>rw[h1,h2]
theorem oM {a b:Int} (h:¬Cb b a<0):a<=b:=by
 unfold Cb at h;split at h
 . omega
 . split at h<;>omega
theorem pU {cs:List Int} {c q:Int} :q∈grp cs c↔∃n:Nat,n<cs.length/\q=(n:Int)/\cs.getD n 0=c:=by
 unfold grp XF;rw[List.mem_map];constructor
 . rintro⟨n,hn,rfl⟩;obtain⟨h1,h2⟩:=List.mem_filter.1 hn;exact⟨n,List.mem_range.1 h1,rfl,of_decide_eq_true h2⟩
 . rintro⟨n,h1,rfl,h2⟩;exact⟨n,List.mem_filter.2 ⟨List.mem_range.2 h1,decide_eq_true h2⟩,rfl⟩
theorem gC (cs:List Int) (c:Int):(grp cs c).Nodup:=by
 unfold grp XF List.Nodup;rw[List.pairwise_map];exact(List.nodup_range.filter _).imp fun h e=>h (Int.ofNat.inj e)
theorem dU {l:List Int} {n:Nat} (h:l.Nodup) (hl:∀x∈l,∃q:Nat,q<n/\x=(q:Int)):l.length<=n:=by
 have:=fD (b:=(List.range n).map fun(i:Nat)=>(i:Int)) h fun x hx=>by
  obtain⟨q,h1,h2⟩:=hl x hx;exact List.mem_map.2 ⟨q,List.mem_range.2 h1,h2.symm⟩
 simpa using this
theorem IM (v:G3) (j:Int):∀ {L:List Int},L.Nodup->C5 (L.map fun q=>(q,v)) j=if j∈L then rv v else 0
 | [],_=>rfl
 |q::L,h=>by
  obtain⟨h1,h2⟩:=List.nodup_cons.1 h;rw[List.map_cons,C5,IM v j h2];by_cases hq:q=j
  . subst hq;rw[if_pos rfl,if_neg h1,if_pos List.mem_cons_self,Rat.add_zero]
  . rw[if_neg hq,Rat.zero_add];by_cases hj:j∈L
    . rw[if_pos hj,if_pos (List.mem_cons_of_mem _ hj)]
    . rw[if_neg hj,if_neg fun hh=>by rcases List.mem_cons.1 hh with e|e;exact hq e.symm;exact hj e]
theorem Vh (x:A5 C9.args) (hw:awf C9.args x) (hp:C9.pre x):Ax x:=by
 obtain⟨⟨R,C,D⟩,rows,cols,_⟩:=x;have hlm:bK (R,C,D):=HJ hw.1.2.2.2;change Int at R C;change List (List F8)at D;change List Int at rows cols;obtain⟨hs,hlr,hlc⟩:Gu K1 (R,C,D)/\rows.length<=1000/\cols.length<=1000:=hp;simp only[Ax];refine⟨trivial, ?_⟩;rintro⟨r,_⟩ _ hr;simp only at hr⊢;by_cases hv:C3 (R,C,D)
 . have hr:r=true:=by rw[hr];exact decide_eq_true hv
   rw[hr];obtain⟨v1,v2,v3,v4,_,_⟩:=id hv;have v5:(D.length:Int)=R:=hv.2.2.2.2.1;have v6:∀w∈D,G7 w C:=hv.2.2.2.2.2;simp only at v1 v2 v3 v4;refine⟨fun h=>(by cases h),fun _=>⟨by trivial,by trivial,fun _ _=>trivial, ?_⟩⟩;rintro⟨b1,_⟩ _ hb1;simp only at hb1⊢;refine⟨by trivial,by trivial,fun _ _ _=>trivial, ?_⟩;rintro⟨b2,_⟩ hb2;simp only at hb2⊢;rw[L3];have key:(b1||b2)=true↔((∃i,i∈rows/\(i<0\/R<=i))\/∃i,i∈cols/\(i<0\/C<=i)):=by
    by_cases h1:∃i,i∈rows/\(i<0\/R<=i)
    . have:b1=true:=by
       rw[hb1];obtain⟨i,hi,hc⟩:=h1;exact decide_eq_true ⟨i,hi,decide_eq_true hc⟩
      rw[this];exact⟨fun _=> .inl h1,fun _=>rfl⟩
    . have h1':b1=false:=by
       rw[hb1];exact decide_eq_false fun⟨i,hi,hc⟩=>h1 ⟨i,hi,of_decide_eq_true hc⟩
      have hb2:=(hb2 h1').2;rw[h1',Bool.false_or,hb2];constructor
      . intro h;obtain⟨i,hi,hc⟩:=of_decide_eq_true h;exact .inr ⟨i,hi,of_decide_eq_true hc⟩
      . rintro(h| ⟨i,hi,hc⟩)
        . exact absurd h h1
        . exact decide_eq_true ⟨i,hi,decide_eq_true hc⟩
   refine⟨fun h=> ?_,fun h=>⟨trivial, ?_⟩⟩
   . have h:=key.1 h;exact⟨fun h2=>absurd hv h2,fun _=>⟨fun _=>⟨rfl,by trivial⟩,fun h2=>absurd h h2⟩⟩
   have hnot:¬((∃i,i∈rows/\(i<0\/R<=i))\/∃i,i∈cols/\(i<0\/C<=i)):=fun h2=>by rw[key.2 h2]at h;cases h
   have hrows:∀i∈rows,0<=i/\i<R:=fun i hi=>Decidable.byContradiction fun hn=>hnot (.inl ⟨i,hi,by omega⟩)
   have hcols:∀i∈cols,0<=i/\i<C:=fun i hi=>Decidable.byContradiction fun hn=>hnot (.inr ⟨i,hi,by omega⟩)
   rintro⟨b3,_⟩ _ hb3;simp only at hb3⊢;refine⟨fun _=>trivial, ?_⟩;rintro⟨b4,_⟩ hb4;simp only at hb4⊢;have h3:b3=true:=by rw[hb3];exact decide_eq_true ⟨by omega,by omega⟩
   have h4:b4=true:=by rw[(hb4 (by rw[h3];rfl)).2];exact decide_eq_true ⟨by omega,by omega⟩
   rw[h3,h4];refine⟨fun h=>(by cases h),fun _=> ?_⟩;clear hb1 hb2 hb3 hb4 key h;refine⟨by omega,fun es hes=> ?_⟩;rw[Int.toNat_natCast];refine⟨⟨by omega,Int.le_refl _,by omega,by omega⟩,fun p=>0<=p.1/\p.1<=(rows.length:Int)/\PR rows.length p.1.toNat (fun i=>TT cols.length fun j=>el (R,C,D) (rows.getD i 0).toNat (cols.getD j 0).toNat) p.2.1,fun p=>((rows.length:Int)-p.1).toNat,⟨Int.le_refl _,Int.natCast_nonneg _,kK List.length_replicate⟩, ?_⟩;rintro⟨k,out,_⟩ _ ⟨k0,k1,hf⟩;change Int at k;change List (List F8)at out;simp only at k0 k1 hf⊢;have hol:=hf.1;refine⟨fun hk=> ?_,fun hk=> ?_⟩
   . have hk:=of_decide_eq_true hk;have hg:=P7 (d:=(0:Int)) k0 hk;have hri:=hrows _ (L6 (d:=(0:Int)) k0 hk);rw[hg]at hri⊢;have hfs:∀ {w:List F8},TT cols.length (fun j=>el (R,C,D) (rows.getD k.toNat 0).toNat (cols.getD j 0).toNat) w->PR rows.length (k+1).toNat (fun i=>TT cols.length fun j=>el (R,C,D) (rows.getD i 0).toNat (cols.getD j 0).toNat) (out.set k.toNat w):=fun {w} hw2=>PS hf k0 hk hw2
     generalize rows.getD k.toNat 0=ri' at*;have hrD:ri'<(D.length:Int):=by omega
     rw[CP hri.1 hrD];have hme:D.getD ri'.toNat []∈D:=K4 (by omega);have hrow:=Xx hv hs hme;have hvr:=v6 _ hme;have hcmp:∀c:Int,0<=c->C5 (D.getD ri'.toNat []) c=el (R,C,D) ri'.toNat c.toNat:=fun c hc=>IQ _ _ hc
     generalize D.getD ri'.toNat []=row at*;have hrl:=hrow.2.2;refine⟨⟨k0,hk⟩,⟨hri.1,hrD⟩,fun p=>0<=p.2.1/\p.2.1<=(row.length:Int)/\(p.1.map fun e=>e.1).Nodup/\(∀x∈p.1,∃q:Nat,q<cols.length/\x.1=(q:Int)/\(∃y∈row.take p.2.1.toNat,y.1=cols.getD q 0)/\rv x.2≠0/\x.2=rc (rv x.2))/\∀j:Nat,j<cols.length->C5 p.1 (j:Int)=C5 (row.take p.2.1.toNat) (cols.getD j 0),fun p=>((row.length:Int)-p.2.1).toNat,⟨Int.le_refl _,Int.natCast_nonneg _,List.nodup_nil,fun _ h=>(by cases h),fun j _=>rfl⟩, ?_⟩;rintro⟨o,t,_⟩ _ ⟨t0,t1,o2,o3,o4⟩;change List F8 at o;change Int at t;simp only at t0 t1 o2 o3 o4⊢;have o1:o.length<=cols.length:=by
      have:=dU o2 fun x hx=>by
       obtain⟨y,hy,rfl⟩:=List.mem_map.1 hx;obtain⟨q,h1,h2,_⟩:=o3 y hy;exact⟨q,h1,h2⟩
      rwa[List.length_map]at this
     refine⟨fun ht=> ?_,fun ht=> ?_⟩
     . have ht:=of_decide_eq_true ht;have hem:=L6 (d:=C8) t0 ht;obtain⟨e0,e1,ez⟩:=hvr.2 _ hem;have hse:=hrow.2.1 _ hem;have hct:=PK (d:=C8) t0 ht;have hbef:∀y∈row.take t.toNat,y.1≠(gx C8 row t).1:=fun x hx hxe=>by
        have h1:(row.take (t+1).toNat).Pairwise (fun a b=>a.1<b.1):=hrow.1.take;rw[show(t+1).toNat=t.toNat+1 from by omega,List.take_add_one,H2 (d:=C8) t0 ht,List.pairwise_append]at h1;have:=h1.2.2 x hx (gx C8 row t) (by simp);omega
       have hsub:∀y∈row.take t.toNat,y∈row.take (t+1).toNat:=fun y hy=>by
        rw[show(t+1).toNat=t.toNat+1 from by omega,List.take_add_one];exact List.mem_append.2 (.inl hy)
       have hnew:gx C8 row t∈row.take (t+1).toNat:=by
        rw[show(t+1).toNat=t.toNat+1 from by omega,List.take_add_one,H2 (d:=C8) t0 ht];simp
       generalize gx C8 row t=e at*;have hL:=hes e.1 (by omega) (by omega);rw[hL];have hLm:=fun q=>pU (cs:=cols) (c:=e.1) (q:=q)
       have hLn:=gC cols e.1;generalize grp cols e.1=L at*;have hLl:L.length<=cols.length:=dU hLn fun x hx=>by
        obtain⟨q,h1,h2,_⟩:=(hLm x).1 hx;exact⟨q,h1,h2⟩
       refine⟨⟨t0,ht⟩,fun p=>0<=p.2.1/\p.2.1<=(L.length:Int)/\p.1=o++(L.take p.2.1.toNat).map fun q=>(q,rc (rv e.2)),fun p=>((L.length:Int)-p.2.1).toNat,⟨Int.le_refl _,Int.natCast_nonneg _,by simp⟩, ?_⟩;rintro⟨o',u,_⟩ _ ⟨u0,u1,ho'⟩;change List F8 at o';change Int at u;simp only at u0 u1 ho'⊢;have hol':o'.length<=o.length+L.length:=by
        rw[ho',List.length_append,List.length_map,List.length_take];omega
       refine⟨fun hu=> ?_,fun hu=> ?_⟩
       . have hu:=of_decide_eq_true hu;refine⟨⟨u0,hu⟩,Er hse (by decide), ?_⟩;rintro⟨q,_⟩ _ hq;simp only at hq⊢;rw[wr (by omega) (by omega)];refine⟨⟨by simp only[List.length_singleton];omega,by simp only[List.length_singleton];omega⟩,⟨by omega,by omega, ?_⟩,by omega⟩;rw[ho',hq,show(u+1).toNat=u.toNat+1 from by omega,List.take_add_one,H2 (d:=(0:Int)) u0 hu,List.map_append,List.append_assoc];rfl
       . have hu:=of_decide_eq_false hu;rw[F6 (l:=L) (i:=u) (by omega)]at ho';rw[wr (by omega) (by omega)];have hcj:∀j:Nat,j<cols.length->C5 (row.take (t+1).toNat) (cols.getD j 0)=C5 (row.take t.toNat) (cols.getD j 0)+if e.1=cols.getD j 0 then rv e.2 else 0:=fun j _=>hct _
         have hmono:∀x∈o,∃q:Nat,q<cols.length/\x.1=(q:Int)/\(∃y∈row.take (t+1).toNat,y.1=cols.getD q 0)/\rv x.2≠0/\x.2=rc (rv x.2):=fun x hx=>by
          obtain⟨q,h1,h2,⟨y,hy,h3⟩,h4,h5⟩:=o3 x hx;exact⟨q,h1,h2,⟨y,hsub y hy,h3⟩,h4,h5⟩
         subst ho';refine⟨⟨by omega,by omega, ?_,fun x hx=> ?_,fun j hj=> ?_⟩,by omega⟩
         . show((o++L.map fun q=>(q,rc (rv e.2))).map fun e:F8=>e.1).Nodup;rw[List.map_append,List.nodup_append,List.map_map];have hid:L.map ((fun e:F8=>e.1) ∘ fun q=>(q,rc (rv e.2)))=L:=(List.map_congr_left fun _ _=>rfl).trans (List.map_id _);rw[hid];refine⟨o2,hLn,fun a ha b hb hab=> ?_⟩;obtain⟨x,hx,rfl⟩:=List.mem_map.1 ha;obtain⟨q,h1,h2,⟨y,hy,h3⟩,_⟩:=o3 x hx;obtain⟨q',g1,g2,g3⟩:=(hLm b).1 hb;have:q'=q:=by omega
           subst this;exact hbef y hy (by rw[h3,g3])
         . rcases List.mem_append.1 hx with hx|hx
           . exact hmono x hx
           . obtain⟨q,hq,rfl⟩:=List.mem_map.1 hx;obtain⟨n,g1,g2,g3⟩:=(hLm q).1 hq;exact⟨n,g1,g2,⟨e,hnew,g3.symm⟩,by rw[W5];exact ez,by rw[W5]⟩
         . show C5 (o++L.map fun q=>(q,rc (rv e.2))) (j:Int)= _;rw[M5,IM _ _ hLn,o4 j hj,hcj j hj,W5];congr 1;by_cases hq:((j:Int))∈L
           . obtain⟨n,g1,g2,g3⟩:=(hLm _).1 hq;have:n=j:=by omega
             subst this;rw[if_pos hq,if_pos g3.symm]
           . rw[if_neg hq,if_neg fun h=>hq ((hLm _).2 ⟨j,hj,rfl,h.symm⟩)]
     . have ht:=of_decide_eq_false ht;rw[F6 (by omega)]at o4;refine⟨by omega,fun l' _ hpm hst=> ?_⟩;have hst:l'.Pairwise fun a b:F8=>¬Cb b.1 a.1<0:=hst
       rw[wr (by omega) (by omega)];refine⟨⟨k0,by omega⟩,⟨by omega,by omega,hfs ?_⟩,by omega⟩;have hnd2:(l'.map fun e:F8=>e.1).Nodup:=(hpm.map _).nodup_iff.2 o2;have hasc:Ex l':=by
        unfold List.Nodup at hnd2;rw[List.pairwise_map]at hnd2;refine List.Pairwise.imp₂ ?_ hst hnd2;intro a b h1 h2;have:=oM h1;omega
       have hx:∀x∈l',∃q:Nat,q<cols.length/\x.1=(q:Int)/\rv x.2≠0/\x.2=rc (rv x.2):=fun x hx=>by
        obtain⟨q,h1,h2,_,h4,h5⟩:=o3 x (hpm.mem_iff.1 hx);exact⟨q,h1,h2,h4,h5⟩
       refine⟨⟨hasc,fun x hx'=> ?_⟩,fun x hx'=> ?_,fun j hj=> ?_⟩
       . obtain⟨q,_,_,h4,h5⟩:=hx x hx';exact⟨h4,h5⟩
       . obtain⟨q,h1,h2,_⟩:=hx x hx';omega
       . rw[fT hpm,o4 j hj];exact hcmp _ (hcols _ (K4 hj)).1
   . have hk:=of_decide_eq_false hk;exact⟨fun h=>absurd hv h,fun _=>⟨fun h2=>absurd h2 hnot,fun _=>⟨fun h2=>absurd h2 (by omega),fun _=>⟨⟨rfl,rfl,hf.1,fun i hi=>hf.2 i (by omega)⟩,by trivial⟩⟩⟩⟩
 . have hr:r=false:=by rw[hr];exact decide_eq_false hv
   rw[hr];exact⟨fun _=>⟨fun _=>⟨rfl,by trivial⟩,fun h=>absurd h hv⟩,fun h=>(by cases h)⟩
def SL:An:= {loop:= [(4,⟨[1],[0],[(3,false,[.val (.int .i64)])],[],[]⟩)],plan:= [(6,[1,4,6],[],true, .done)]}
def VY:An:= {loop:= [(3,⟨[0,4,5],[0],[(6,false,[.val (.int .i64)])],[(1,25,[.val (.int .i64), .val (.int .i64), .own (.sl tE) 65])],[]⟩)],plan:= [(5,[1,5],[8,10],false, .done)]}
def GF:An:= {loop:= [(3,⟨[1,3],[0],[(4,false,[.val (.int .i64)])],[],[(1, .row (.sl tQ) 28)]⟩)],plan:= [(5,[3,6,8],[14],true, .done)]}
def BY:An:= {loop:= [(4,⟨[2,3],[0,1],[(5,false,[.val (.int .i64)])],[],[]⟩)],plan:= [(6,[1,4,6,9],[],true, .done)]}
def BI:A5 Fj.args->Prop:=fun(x:MM×Unit)=>(E5 (E5 (E5 (E5 (decide (x.1.1<0)) true (decide (16384<x.1.1))) true (decide (x.1.2.1<0))) true (decide (16384<x.1.2.1))) true (decide ((x.1.2.2.length:Int)≠x.1.1))=true->false=decide (C3 x.1))/\(E5 (E5 (E5 (E5 (decide (x.1.1<0)) true (decide (16384<x.1.1))) true (decide (x.1.2.1<0))) true (decide (16384<x.1.2.1))) true (decide ((x.1.2.2.length:Int)≠x.1.1))=false->∃(I:Int×Unit->Prop),∃(μ:Int×Unit->Nat),I ((0:Int),())/\∀(p:Int×Unit),(Ty.int IntKind.i64).wf p.1/\True->I p->(decide (p.1<x.1.1)=true->(0<=p.1/\p.1<(x.1.2.2.length:Int))/\EJ K1 (gx [] x.1.2.2 p.1)/\∀(r:Bool×Unit),True/\True->r.1=decide (G7 (gx [] x.1.2.2 p.1) x.1.2.1)->((!r.1)=true->false=decide (C3 x.1))/\((!r.1)=false->I (IntKind.i64.wrap (p.1+1),())/\μ (IntKind.i64.wrap (p.1+1),())<μ p))/\(decide (p.1<x.1.1)=false->true=decide (C3 x.1)))
def FW:A5 Ia.args->Prop:=fun(x:List (List QQ)×Int×Unit)=>∃(I:Int×Int×Int×List (List EE)×Unit->Prop),∃(μ:Int×Int×Int×List (List EE)×Unit->Nat),I ((0:Int),(x.1.length:Int),x.2.1,[],())/\∀(p:Int×Int×Int×List (List EE)×Unit),(Ty.int IntKind.i64).wf p.1/\(Ty.int IntKind.i64).wf p.2.1/\(Ty.int IntKind.i64).wf p.2.2.1/\tE.sl.sl.wf p.2.2.2.1/\True->I p->(decide (p.1<(x.1.length:Int))=true->(0<=p.1/\p.1<(x.1.length:Int))/\((gx [] x.1 p.1).length<=(100000:Nat)/\szL K1 (gx [] x.1 p.1))/\∀(r:List EE×Unit),Mn r.1/\True->TT (gx [] x.1 p.1).length (fun(j:Nat)=>rv ((gx [] x.1 p.1).getD j zr)) r.1->((p.2.2.2.1.length+ [r.1].length)*(24:Nat)<=(140737488355328:Nat)/\p.2.2.2.1.length+ [r.1].length<=9223372036854775807)/\I (IntKind.i64.wrap (p.1+1),p.2.1,p.2.2.1,p.2.2.2.1++ [r.1],())/\μ (IntKind.i64.wrap (p.1+1),p.2.1,p.2.2.1,p.2.2.2.1++ [r.1],())<μ p)/\(decide (p.1<(x.1.length:Int))=false->p.2.1=(↑x.1.length:Int)/\p.2.2.1=(↑x.2.1.toNat:Int)/\p.2.2.2.1.length=x.1.length/\∀(i:Nat),i<x.1.length->Ey (p.2.2.2.1.getD i [])/\(∀(e:F8),e∈p.2.2.2.1.getD i []->0<=e.1/\e.1<(↑x.2.1.toNat:Int))/\∀(j:Nat),j<x.2.1.toNat->C5 (p.2.2.2.1.getD i []) (↑j:Int)=rv ((x.1.getD i []).getD j zr))
def Ou:A5 Ac.args->Prop:=fun(x:MM×Unit)=>(0<=x.1.1/\x.1.1<=x.1.1/\(↑(24:Nat):Int)*x.1.1<=281474976710656/\x.1.1<=9223372036854775807)/\∃(I:Int×List (List QQ)×Unit->Prop),∃(μ:Int×List (List QQ)×Unit->Nat),I ((0:Int),List.replicate (Int.toNat x.1.1) [],())/\∀(p:Int×List (List QQ)×Unit),(Ty.int IntKind.i64).wf p.1/\oG p.2.1/\True->I p->(decide (p.1<x.1.1)=true->(0<=p.1/\p.1<(x.1.2.2.length:Int))/\(DT K1 (gx [] x.1.2.2 p.1)/\G7 (gx [] x.1.2.2 p.1) x.1.2.1/\0<=x.1.2.1/\x.1.2.1<=16384)/\∀(r:List QQ×Bool×Unit),WfL r.1/\True/\True->r.1=dl x.1.2.1 (C5 (gx [] x.1.2.2 p.1))/\r.2.1=true->(0<=p.1/\p.1<(p.2.1.length:Int))/\I (IntKind.i64.wrap (p.1+1),List.set p.2.1 (Int.toNat p.1) r.1,())/\μ (IntKind.i64.wrap (p.1+1),List.set p.2.1 (Int.toNat p.1) r.1,())<μ p)/\(decide (p.1<x.1.1)=false->p.2.1=oB x.1)
def Mj:A5 X1.args->Prop:=fun(x:MM×MM×Unit)=>(E5 (E5 (decide (x.1.1≠x.2.1.1)) true (decide (x.1.2.1≠x.2.1.2.1))) true (decide ((x.1.2.2.length:Int)≠(x.2.1.2.2.length:Int)))=true->(false=true↔x.1=x.2.1/\∀(v:List EE),v∈x.1.2.2->∀(e:EE),e∈v->e.2=rc (rv e.2)))/\(E5 (E5 (decide (x.1.1≠x.2.1.1)) true (decide (x.1.2.1≠x.2.1.2.1))) true (decide ((x.1.2.2.length:Int)≠(x.2.1.2.2.length:Int)))=false->∃(I:Int×Unit->Prop),∃(μ:Int×Unit->Nat),I ((0:Int),())/\∀(p:Int×Unit),(Ty.int IntKind.i64).wf p.1/\True->I p->(decide (p.1<(x.1.2.2.length:Int))=true->(0<=p.1/\p.1<(x.1.2.2.length:Int))/\(0<=p.1/\p.1<(x.2.1.2.2.length:Int))/\EJ K1 (gx [] x.1.2.2 p.1)/\∀(r:Bool×Unit),True/\True->r.1=decide (gx [] x.1.2.2 p.1=gx [] x.2.1.2.2 p.1/\∀(e:EE),e∈gx [] x.1.2.2 p.1->e.2=rc (rv e.2))->((!r.1)=true->(false=true↔x.1=x.2.1/\∀(v:List EE),v∈x.1.2.2->∀(e:EE),e∈v->e.2=rc (rv e.2)))/\((!r.1)=false->I (IntKind.i64.wrap (p.1+1),())/\μ (IntKind.i64.wrap (p.1+1),())<μ p))/\(decide (p.1<(x.1.2.2.length:Int))=false->(true=true↔x.1=x.2.1/\∀(v:List EE),v∈x.1.2.2->∀(e:EE),e∈v->e.2=rc (rv e.2))))
theorem HC (x:A5 Fj.args) (hw:awf Fj.args x) (hp:Fj.pre x):BI x:=by
 obtain⟨⟨R,C,D⟩,_⟩:=x;have hD:D.length<=9223372036854775807:=hw.1.2.2.1;change Int at R C;change List (List F8)at D;have hs:Gu K1 (R,C,D):=hp;simp only[BI];simp only[L3];refine⟨fun h=> ?_,fun h=> ?_⟩
 . refine(decide_eq_false fun hv=> ?_).symm;obtain⟨v1,v2,v3,v4,v5,_⟩:=hv;simp only at v1 v2 v3 v4 v5;simp only[Bool.or_eq_true,decide_eq_true_eq]at h;omega
 . simp only[Bool.or_eq_false_iff,decide_eq_false_iff_not,Decidable.not_not]at h;obtain⟨⟨⟨⟨a,b⟩,c⟩,d⟩,e⟩:=h;refine⟨fun p=>0<=p.1/\∀v∈D.take p.1.toNat,G7 v C,fun p=>(R-p.1).toNat,⟨Int.le_refl _,by simp⟩, ?_⟩;rintro⟨i,_⟩ _ ⟨h0,h1⟩;change Int at i;simp only at h0 h1⊢;refine⟨fun hi=> ?_,fun hi=> ?_⟩
   . have hi:=of_decide_eq_true hi;have hiD:i<(D.length:Int):=by omega
     have hme:=L6 (d:=([]:List F8)) h0 hiD;refine⟨⟨h0,hiD⟩,hs _ hme, ?_⟩;rintro⟨q,_⟩ _ hq;simp only at hq⊢;refine⟨fun h2=> ?_,fun h2=> ?_⟩
     . refine(decide_eq_false fun hv=> ?_).symm;rw[hq,decide_eq_true (hv.2.2.2.2.2 _ hme)]at h2;cases h2
     . rw[hq]at h2;have h2:decide (G7 (gx [] D i) C)=true:=by simpa using h2
       rw[wr (by omega) (by omega)];exact⟨⟨by omega,Cf (d:=([]:List F8)) (q:=fun v=>G7 v C) h0 hiD h1 (of_decide_eq_true h2)⟩,by omega⟩
   . have hi:=of_decide_eq_false hi;rw[F6 (by omega)]at h1;exact(decide_eq_true (show C3 (R,C,D)from⟨by show 0<=R;omega,by show R<= _;omega,by show 0<=C;omega,by show C<= _;omega,e,h1⟩)).symm
theorem MX (x:A5 Ia.args) (hw:awf Ia.args x) (hp:Ia.pre x):FW x:=by
 obtain⟨D,C,_⟩:=x;change List (List G3)at D;change Int at C;obtain⟨hs,c0,c1,hl⟩:(∀l∈D,szL K1 l/\(l.length:Int)=C)/\0<=C/\C<=16384/\D.length<=16384:=hp;simp only[FW];refine⟨fun p=>0<=p.1/\p.1<=(D.length:Int)/\p.2.1=(D.length:Int)/\p.2.2.1=C/\p.2.2.2.1.length=p.1.toNat/\∀i,i<p.1.toNat->TT C.toNat (fun j=>rv ((D.getD i []).getD j zr)) (p.2.2.2.1.getD i []),fun p=>((D.length:Int)-p.1).toNat,⟨Int.le_refl _,Int.natCast_nonneg _,rfl,rfl,rfl,fun i hi=>by simp at hi⟩, ?_⟩;rintro⟨i,a,b,rows,_⟩ _ ⟨i0,i1,ha,hb,hrl,hf⟩;change Int at i a b;change List (List F8)at rows;simp only at i0 i1 ha hb hrl hf⊢;refine⟨fun h=> ?_,fun h=> ?_⟩
 . have h:=of_decide_eq_true h;have hme:=L6 (d:=([]:List G3)) i0 h;obtain⟨h1,h2⟩:=hs _ hme;refine⟨⟨i0,h⟩,⟨by omega,h1⟩, ?_⟩;rintro⟨v,_⟩ _ hv;simp only at hv⊢;rw[wr (by omega) (by omega)];rw[show(gx [] D i).length=C.toNat from by omega,P7 i0 h]at hv;refine⟨⟨by simp only[List.length_singleton];omega,by simp only[List.length_singleton];omega⟩,⟨by omega,by omega,ha,hb,by rw[List.length_append,List.length_singleton];omega,fun k hk=> ?_⟩,by omega⟩;show TT _ _ ((rows++ [v]).getD k []);by_cases hk2:k<rows.length
   . have h9:(rows++ [v]).getD k []=rows.getD k []:=by
      rw[List.getD_eq_getElem?_getD,List.getElem?_append_left hk2, <-List.getD_eq_getElem?_getD]
     rw[h9];exact hf k (by omega)
   . have hk3:k=i.toNat:=by omega
     have h9:(rows++ [v]).getD k []=v:=by
      rw[List.getD_eq_getElem?_getD,List.getElem?_append_right (by omega),show k-rows.length=0 from by omega];rfl
     rw[h9,hk3];exact hv
 . have h:=of_decide_eq_false h;exact⟨ha,by omega,by omega,fun k hk=>hf k (by omega)⟩
theorem Yj (x:A5 Ac.args) (hw:awf Ac.args x) (hp:Ac.pre x):Ou x:=by
 obtain⟨⟨R,C,D⟩,_⟩:=x;change Int at R C;change List (List F8)at D;obtain⟨hs,hv⟩:Gu K1 (R,C,D)/\C3 (R,C,D):=hp;obtain⟨v1,v2,v3,v4,_,_⟩:=id hv;have v5:(D.length:Int)=R:=hv.2.2.2.2.1;have v6:∀w∈D,G7 w C:=hv.2.2.2.2.2;simp only at v1 v2 v3 v4;simp only[Ou];refine⟨⟨v1,Int.le_refl _,by omega,by omega⟩,fun p=>0<=p.1/\p.1<=R/\fill R.toNat p.1.toNat (fun i=>dl C (C5 (D.getD i []))) p.2.1,fun p=>(R-p.1).toNat,⟨Int.le_refl _,v1,A1c List.length_replicate⟩, ?_⟩;rintro⟨k,rows,_⟩ _ ⟨k0,k1,hf⟩;change Int at k;change List (List G3)at rows;simp only at k0 k1 hf⊢;have:=hf.1;refine⟨fun h=> ?_,fun h=> ?_⟩
 . have h:=of_decide_eq_true h;have hkD:k<(D.length:Int):=by omega
   have hme:=L6 (d:=([]:List F8)) k0 hkD;refine⟨⟨k0,hkD⟩,⟨Xx hv hs hme,v6 _ hme,v3,v4⟩, ?_⟩;rintro⟨l,b,_⟩ _ ⟨hl,_⟩;simp only at hl⊢;rw[wr (by omega) (by omega)];refine⟨⟨k0,by omega⟩,⟨by omega,by omega,WS hf k0 (by omega) ?_⟩,by omega⟩;rw[hl,CP k0 hkD]
 . have h:=of_decide_eq_false h;exact WR hf (by omega)
theorem Vl (x:A5 X1.args) (hw:awf X1.args x) (hp:X1.pre x):Mj x:=by
 obtain⟨⟨R,C,D⟩,⟨R',C',D'⟩,_⟩:=x;have hDl:D.length<=9223372036854775807:=hw.1.2.2.1;change Int at R C R' C';change List (List F8)at D D';have hs:Gu K1 (R,C,D):=hp;simp only[Mj];simp only[L3];refine⟨fun h=> ?_,fun h=> ?_⟩
 . simp only[Bool.or_eq_true,decide_eq_true_eq]at h;refine⟨fun h2=>(by cases h2),fun h2=> ?_⟩;have h3:=h2.1;simp only[Prod.mk.injEq]at h3;obtain⟨rfl,rfl,rfl⟩:=h3;simp at h
 . simp only[Bool.or_eq_false_iff,decide_eq_false_iff_not,Decidable.not_not]at h;obtain⟨⟨rfl,rfl⟩,hlen⟩:=h;refine⟨fun p=>0<=p.1/\p.1<=(D.length:Int)/\D.take p.1.toNat=D'.take p.1.toNat/\∀v∈D.take p.1.toNat,∀e∈v,e.2=rc (rv e.2),fun p=>((D.length:Int)-p.1).toNat,⟨Int.le_refl _,Int.natCast_nonneg _,by simp,by simp⟩, ?_⟩;rintro⟨i,_⟩ _ ⟨h0,h1,h2,h3⟩;change Int at i;simp only at h0 h1 h2 h3⊢;refine⟨fun h=> ?_,fun h=> ?_⟩
   . have h:=of_decide_eq_true h;have hme:=L6 (d:=([]:List F8)) h0 h;have ga:=H2 (d:=([]:List F8)) h0 h;have gb:=H2 (d:=([]:List F8)) (l:=D') h0 (by omega);have hta:D.take (i+1).toNat=D.take i.toNat++ [gx [] D i]:=by
      rw[show(i+1).toNat=i.toNat+1 from by omega,List.take_add_one,ga];rfl
     have htb:D'.take (i+1).toNat=D'.take i.toNat++ [gx [] D' i]:=by
      rw[show(i+1).toNat=i.toNat+1 from by omega,List.take_add_one,gb];rfl
     refine⟨⟨h0,h⟩,⟨h0,by omega⟩,hs _ hme, ?_⟩;rintro⟨q,_⟩ _ hq;simp only at hq⊢;refine⟨fun h4=>⟨fun h5=>(by cases h5),fun h5=> ?_⟩,fun h4=> ?_⟩
     . obtain⟨h6,h7⟩:=h5;simp only[Prod.mk.injEq,true_and]at h6;subst h6;rw[hq,decide_eq_true (⟨rfl,h7 _ hme⟩: _ /\ _)]at h4;cases h4
     . rw[hq]at h4;have h4:gx [] D i=gx [] D' i/\∀e∈gx [] D i,e.2=rc (rv e.2):=of_decide_eq_true (by simpa using h4);rw[wr (by omega) (by omega)];refine⟨⟨by omega,by omega,by rw[hta,htb,h2,h4.1],fun v hv=> ?_⟩,by omega⟩;rw[hta]at hv;rcases List.mem_append.1 hv with hv|hv
       . exact h3 v hv
       . rw[List.mem_singleton.1 hv];exact h4.2
   . have h:=of_decide_eq_false h;rw[F6 (by omega),F6 (by omega)]at h2;rw[F6 (by omega)]at h3;subst h2;exact⟨fun _=>⟨rfl,h3⟩,fun _=>by trivial⟩
def NO:An:= {loop:= [(2,⟨[0,1],[],[(5,false,[.val (.int .i64)])],[],[]⟩)]}
def NN:An:= {loop:= [(13,⟨[1,2,6,8,9,10],[1],[(11,false,[.val (.int .i64)])],[],[(2, .rows tQ 28 46)]⟩),(10,⟨[1,2,6,8,9],[1],[(10,false,[.val (.int .i64)])],[],[(2, .rows tQ 28 46)]⟩)],plan:= [(15,[5,10,12,16,18],[20,22],false, .done)]}
def Wm:A5 Dl.args->Prop:=fun(x:List Int×Int×Unit)=>∃(I:Int×Unit->Prop),∃(μ:Int×Unit->Nat),I ((0:Int),())/\∀(p:Int×Unit),(Ty.int IntKind.i64).wf p.1/\True->I p->(decide (p.1<(x.1.length:Int))=true->(0<=p.1/\p.1<(x.1.length:Int))/\(decide (gx (0:Int) x.1 p.1<0)=false->0<=p.1/\p.1<(x.1.length:Int))/\(E5 (decide (gx (0:Int) x.1 p.1<0)) true (decide (x.2.1<=gx (0:Int) x.1 p.1))=true->false=decide (∀(i:Int),i∈x.1->(0:Int)<=i/\i<x.2.1))/\(E5 (decide (gx (0:Int) x.1 p.1<0)) true (decide (x.2.1<=gx (0:Int) x.1 p.1))=false->I (IntKind.i64.wrap (p.1+1),())/\μ (IntKind.i64.wrap (p.1+1),())<μ p))/\(decide (p.1<(x.1.length:Int))=false->true=decide (∀(i:Int),i∈x.1->(0:Int)<=i/\i<x.2.1))
def Wl:A5 Dk.args->Prop:=fun(x:MM×List Int×List Int×Unit)=>Gu K1 x.1/\∀(r:Bool×Unit),True/\True->r.1=decide (C3 x.1)->((!r.1)=true->(¬C3 x.1->((0:Int),(0:Int),[])=zm/\(1:Int)=(1:Int))/\(C3 x.1->(((∃(i:Int),i∈x.2.1/\(i<(0:Int)\/x.1.1<=i))\/∃(i:Int),i∈x.2.2.1/\(i<(0:Int)\/x.1.2.1<=i))->((0:Int),(0:Int),[])=zm/\(1:Int)=(3:Int))/\(¬((∃(i:Int),i∈x.2.1/\(i<(0:Int)\/x.1.1<=i))\/∃(i:Int),i∈x.2.2.1/\(i<(0:Int)\/x.1.2.1<=i))->(16384<x.2.1.length\/16384<x.2.2.1.length->((0:Int),(0:Int),[])=zm/\(1:Int)=(8:Int))/\(x.2.1.length<=(16384:Nat)/\x.2.2.1.length<=(16384:Nat)->Em x.2.1.length x.2.2.1.length (fun(i j:Nat)=>el x.1 (x.2.1.getD i (0:Int)).toNat (x.2.2.1.getD j (0:Int)).toNat) ((0:Int),(0:Int),[])/\(1:Int)=(0:Int)))))/\((!r.1)=false->True/\∀(r:Bool×Unit),True/\True->r.1=decide (∀(i:Int),i∈x.2.1->(0:Int)<=i/\i<x.1.1)->((!r.1)=false->True)/\∀(b:Bool×Unit),((!r.1)=false->(True/\True)/\b.1=decide (∀(i:Int),i∈x.2.2.1->(0:Int)<=i/\i<x.1.2.1))->((E5 (!r.1) true !b.1)=true->(¬C3 x.1->((0:Int),(0:Int),[])=zm/\(3:Int)=(1:Int))/\(C3 x.1->(((∃(i:Int),i∈x.2.1/\(i<(0:Int)\/x.1.1<=i))\/∃(i:Int),i∈x.2.2.1/\(i<(0:Int)\/x.1.2.1<=i))->((0:Int),(0:Int),[])=zm/\(3:Int)=(3:Int))/\(¬((∃(i:Int),i∈x.2.1/\(i<(0:Int)\/x.1.1<=i))\/∃(i:Int),i∈x.2.2.1/\(i<(0:Int)\/x.1.2.1<=i))->(16384<x.2.1.length\/16384<x.2.2.1.length->((0:Int),(0:Int),[])=zm/\(3:Int)=(8:Int))/\(x.2.1.length<=(16384:Nat)/\x.2.2.1.length<=(16384:Nat)->Em x.2.1.length x.2.2.1.length (fun(i j:Nat)=>el x.1 (x.2.1.getD i (0:Int)).toNat (x.2.2.1.getD j (0:Int)).toNat) ((0:Int),(0:Int),[])/\(3:Int)=(0:Int)))))/\((E5 (!r.1) true !b.1)=false->(E5 (decide ((16384:Int)<(x.2.1.length:Int))) true (decide ((16384:Int)<(x.2.2.1.length:Int)))=true->(¬C3 x.1->((0:Int),(0:Int),[])=zm/\(8:Int)=(1:Int))/\(C3 x.1->(((∃(i:Int),i∈x.2.1/\(i<(0:Int)\/x.1.1<=i))\/∃(i:Int),i∈x.2.2.1/\(i<(0:Int)\/x.1.2.1<=i))->((0:Int),(0:Int),[])=zm/\(8:Int)=(3:Int))/\(¬((∃(i:Int),i∈x.2.1/\(i<(0:Int)\/x.1.1<=i))\/∃(i:Int),i∈x.2.2.1/\(i<(0:Int)\/x.1.2.1<=i))->(16384<x.2.1.length\/16384<x.2.2.1.length->((0:Int),(0:Int),[])=zm/\(8:Int)=(8:Int))/\(x.2.1.length<=(16384:Nat)/\x.2.2.1.length<=(16384:Nat)->Em x.2.1.length x.2.2.1.length (fun(i j:Nat)=>el x.1 (x.2.1.getD i (0:Int)).toNat (x.2.2.1.getD j (0:Int)).toNat) ((0:Int),(0:Int),[])/\(8:Int)=(0:Int)))))/\(E5 (decide ((16384:Int)<(x.2.1.length:Int))) true (decide ((16384:Int)<(x.2.2.1.length:Int)))=false->(Gu K1 x.1/\C3 x.1)/\∀(r:List (List QQ)×Unit),oG r.1/\True->r.1=oB x.1->((0:Int)<=(x.2.1.length:Int)/\(x.2.1.length:Int)<=(x.2.1.length:Int)/\(↑(24:Nat):Int)*(x.2.1.length:Int)<=(281474976710656:Int)/\(x.2.1.length:Int)<=(9223372036854775807:Int))/\∃(I:Int×List (List QQ)×Unit->Prop),∃(μ:Int×List (List QQ)×Unit->Nat),I ((0:Int),List.replicate (x.2.1.length:Int).toNat [],())/\∀(p:Int×List (List QQ)×Unit),(Ty.int IntKind.i64).wf p.1/\oG p.2.1/\True->I p->(decide (p.1<(x.2.1.length:Int))=true->∃(I_1:Int×List (List QQ)×Unit->Prop),∃(μ_1:Int×List (List QQ)×Unit->Nat),I_1 ((0:Int),p.2.1,())/\∀(a:Int×List (List QQ)×Unit),(Ty.int IntKind.i64).wf a.1/\oG a.2.1/\True->I_1 a->(decide (a.1<(x.2.2.1.length:Int))=true->(0<=p.1/\p.1<(a.2.1.length:Int))/\(0<=p.1/\p.1<(x.2.1.length:Int))/\((0:Int)<=gx (0:Int) x.2.1 p.1/\gx (0:Int) x.2.1 p.1<(r.1.length:Int))/\(0<=a.1/\a.1<(x.2.2.1.length:Int))/\((0:Int)<=gx (0:Int) x.2.2.1 a.1/\gx (0:Int) x.2.2.1 a.1<(↑(gx [] r.1 (gx (0:Int) x.2.1 p.1)).length:Int))/\(((List.getD a.2.1 (Int.toNat p.1) []).length+ [gx dQ (gx [] r.1 (gx (0:Int) x.2.1 p.1)) (gx (0:Int) x.2.2.1 a.1)].length)*(56:Nat)<=(140737488355328:Nat)/\(List.getD a.2.1 (Int.toNat p.1) []).length+ [gx dQ (gx [] r.1 (gx (0:Int) x.2.1 p.1)) (gx (0:Int) x.2.2.1 a.1)].length<=9223372036854775807)/\(0<=p.1/\p.1<(a.2.1.length:Int))/\Int.toNat p.1=Int.toNat p.1/\I_1 (IntKind.i64.wrap (a.1+1),List.set a.2.1 (Int.toNat p.1) (List.getD a.2.1 (Int.toNat p.1) []++ [gx dQ (gx [] r.1 (gx (0:Int) x.2.1 p.1)) (gx (0:Int) x.2.2.1 a.1)]),())/\μ_1 (IntKind.i64.wrap (a.1+1),List.set a.2.1 (Int.toNat p.1) (List.getD a.2.1 (Int.toNat p.1) []++ [gx dQ (gx [] r.1 (gx (0:Int) x.2.1 p.1)) (gx (0:Int) x.2.2.1 a.1)]),())<μ_1 a)/\(decide (a.1<(x.2.2.1.length:Int))=false->I (IntKind.i64.wrap (p.1+1),a.2.1,())/\μ (IntKind.i64.wrap (p.1+1),a.2.1,())<μ p))/\(decide (p.1<(x.2.1.length:Int))=false->((∀(l:List QQ),l∈p.2.1->szL K1 l/\(↑l.length:Int)=(x.2.2.1.length:Int))/\(0:Int)<=(x.2.2.1.length:Int)/\(x.2.2.1.length:Int)<=(16384:Int)/\List.length p.2.1<=16384)/\∀(r:MM×Unit),SF r.1/\True->Em (List.length p.2.1) (x.2.2.1.length:Int).toNat (fun(i j:Nat)=>rv ((List.getD p.2.1 i []).getD j zr)) r.1->(¬C3 x.1->r.1=zm/\(0:Int)=(1:Int))/\(C3 x.1->(((∃(i:Int),i∈x.2.1/\(i<(0:Int)\/x.1.1<=i))\/∃(i:Int),i∈x.2.2.1/\(i<(0:Int)\/x.1.2.1<=i))->r.1=zm/\(0:Int)=(3:Int))/\(¬((∃(i:Int),i∈x.2.1/\(i<(0:Int)\/x.1.1<=i))\/∃(i:Int),i∈x.2.2.1/\(i<(0:Int)\/x.1.2.1<=i))->(16384<x.2.1.length\/16384<x.2.2.1.length->r.1=zm/\(0:Int)=(8:Int))/\(x.2.1.length<=(16384:Nat)/\x.2.2.1.length<=(16384:Nat)->Em x.2.1.length x.2.2.1.length (fun(i j:Nat)=>el x.1 (x.2.1.getD i (0:Int)).toNat (x.2.2.1.getD j (0:Int)).toNat) r.1/\(0:Int)=(0:Int))))))))
def grown (n m i j:Nat) (f:Nat->Nat->Rat) (rows:List (List G3)):Prop:=rows.length=n/\∀k,k<n->rows.getD k []=(List.range (if k<i then m else if k=i then j else 0)).map fun l=>rc (f k l)
theorem A2o {n m:Nat} {f:Nat->Nat->Rat} :grown n m 0 0 f (List.replicate n []):=⟨List.length_replicate,fun k hk=>by
 rw[List.getD_eq_getElem?_getD,List.getElem?_replicate,if_pos hk,if_neg (by omega)];by_cases h:k=0
 . rw[if_pos h];rfl
 . rw[if_neg h];rfl⟩
theorem bA {n m i j:Nat} {f:Nat->Nat->Rat} {rows:List (List G3)} {v:G3} (h:grown n m i j f rows) (hi:i<n) (hv:v=rc (f i j)):grown n m i (j+1) f (rows.set i (rows.getD i []++ [v])):=⟨by rw[List.length_set];exact h.1,fun k hk=>by
 rw[List.getD_eq_getElem?_getD,List.getElem?_set];by_cases he:i=k
 . subst he;rw[if_pos rfl,if_pos (by rw[h.1];exact hk)];show rows.getD i []++ [v]= _;rw[h.2 i hk,if_neg (by omega),if_pos rfl,if_neg (by omega),if_pos rfl,List.range_succ,List.map_append,hv];rfl
 . rw[if_neg he, <-List.getD_eq_getElem?_getD,h.2 k hk,if_neg (fun e:k=i=>he e.symm),if_neg (fun e:k=i=>he e.symm)]⟩
theorem aZ {n m i:Nat} {f:Nat->Nat->Rat} {rows:List (List G3)} (h:grown n m i m f rows):grown n m (i+1) 0 f rows:=⟨h.1,fun k hk=>by
 rw[h.2 k hk];have e:(if k<i then m else if k=i then m else 0)=(if k<i+1 then m else if k=i+1 then 0 else 0):=by
  by_cases h1:k<i
  . rw[if_pos h1,if_pos (by omega)]
  . rw[if_neg h1];by_cases h2:k=i
    . rw[if_pos h2,if_pos (by omega)]
    . rw[if_neg h2,if_neg (by omega)];split<;>rfl
 rw[e]⟩
theorem fZ {n m i j:Nat} {f:Nat->Nat->Rat} {rows:List (List G3)} (h:grown n m i j f rows) (hi:i<n):(rows.getD i []).length=j:=by
 rw[h.2 i hi,if_neg (by omega),if_pos rfl];simp
theorem XE {n m:Nat} {f:Nat->Nat->Rat} {rows:List (List G3)} (h:grown n m n 0 f rows) {k:Nat} (hk:k<n):rows.getD k []=(List.range m).map fun l=>rc (f k l):=by
 rw[h.2 k hk,if_pos hk]
theorem aY {n m:Nat} {f:Nat->Nat->Rat} {rows:List (List G3)} (h:grown n m n 0 f rows) (hq:∀i j,i<n->j<m->qs K1 (f i j)):∀l∈rows,szL K1 l/\(l.length:Int)=(m:Int):=fun l hl=>by
 obtain⟨k,hk,rfl⟩:=Qy [] hl;rw[h.1]at hk;rw[XE h hk];refine⟨fun x hx=> ?_,by simp⟩;obtain⟨c,hc,rfl⟩:=List.mem_map.1 hx;exact hq k c hk (List.mem_range.1 hc)
theorem gA {n m:Nat} {f:Nat->Nat->Rat} {rows:List (List G3)} (h:grown n m n 0 f rows) {i j:Nat} (hi:i<n) (hj:j<m):rv ((rows.getD i []).getD j zr)=f i j:=by
 rw[XE h hi,List.getD_eq_getElem?_getD,List.getElem?_map,List.getElem?_range hj];exact W5 _
theorem kG {m:Bc} (i:Int) (h0:0<=i) (h1:i<m.1):gx [] (oB m) i=dl m.2.1 (C5 (m.2.2.getD i.toNat [])):=by
 rw[P7 h0 (by rw[dL];omega),kF (by omega)]
theorem oU {m:Bc} {i:Int} (h0:0<=i) (h1:i<m.1):(gx [] (oB m) i).length=m.2.1.toNat:=by rw[kG i h0 h1,jY]
theorem oV {m:Bc} {i j:Int} (h0:0<=i) (h1:i<m.1) (j0:0<=j) (j1:j<m.2.1):gx dQ (gx [] (oB m) i) j=rc (el m i.toNat j.toNat):=by
 rw[kG i h0 h1,P7 j0 (by rw[jY];omega),oR _ (by omega)];rfl
theorem EU (x:A5 Dl.args) (hw:awf Dl.args x) (hp:Dl.pre x):Wm x:=by
 obtain⟨l,n,_⟩:=x;have hl:l.length<=9223372036854775807:=hw.1.1;change List Int at l;change Int at n;simp only[Wm];refine⟨fun p=>0<=p.1/\∀i∈l.take p.1.toNat,0<=i/\i<n,fun p=>((l.length:Int)-p.1).toNat,⟨Int.le_refl _,by simp⟩, ?_⟩;rintro⟨i,_⟩ _ ⟨h0,h1⟩;change Int at i;simp only at h0 h1⊢;refine⟨fun h=> ?_,fun h=> ?_⟩
 . have h:=of_decide_eq_true h;have hme:=L6 (d:=(0:Int)) h0 h;rw[L3,wr (by omega) (by omega)];refine⟨⟨h0,h⟩,fun _=>⟨h0,h⟩,fun h2=> ?_,fun h2=> ?_⟩
   . refine(decide_eq_false fun hv=> ?_).symm;simp only[Bool.or_eq_true,decide_eq_true_eq]at h2;have:=hv _ hme;omega
   . simp only[Bool.or_eq_false_iff,decide_eq_false_iff_not]at h2;exact⟨⟨by omega,Cf (d:=(0:Int)) (q:=fun i=>0<=i/\i<n) h0 h h1 (by omega)⟩,by omega⟩
 . have h:=of_decide_eq_false h;rw[F6 (by omega)]at h1;exact(decide_eq_true h1).symm
theorem ET (x:A5 Dk.args) (hw:awf Dk.args x) (hp:Dk.pre x):Wl x:=by
 obtain⟨⟨R,C,D⟩,P,Q,_⟩:=x;have hlm:bK (R,C,D):=HJ hw.1.2.2.2;change Int at R C;change List (List F8)at D;change List Int at P Q;obtain⟨hs,hP,hQ⟩:Gu K1 (R,C,D)/\P.length<=1000/\Q.length<=1000:=hp;simp only[Wl];refine⟨hs, ?_⟩;rintro⟨r,_⟩ _ hr;simp only at hr⊢;by_cases hv:C3 (R,C,D)
 case neg=>
  have hr:r=false:=by rw[hr];exact decide_eq_false hv
  rw[hr];exact⟨fun _=>⟨fun _=>⟨rfl,by trivial⟩,fun h=>absurd h hv⟩,fun h=>(by cases h)⟩
 have hr:r=true:=by rw[hr];exact decide_eq_true hv
 rw[hr];obtain⟨v1,v2,v3,v4,_,_⟩:=id hv;simp only at v1 v2 v3 v4;refine⟨fun h=>(by cases h),fun _=>⟨trivial, ?_⟩⟩;rintro⟨r1,_⟩ _ h1;simp only at h1⊢;refine⟨fun _=>trivial, ?_⟩;rintro⟨r2,_⟩ h2;simp only at h2⊢;rw[L3]
 let F:Prop:=(∃i∈P,i<0\/R<=i)\/∃i∈Q,i<0\/C<=i
 by_cases hin:(∀i∈P,0<=i/\i<R)/\∀i∈Q,0<=i/\i<C
 case neg=>
  have hF:(∃i∈P,i<0\/R<=i)\/∃i∈Q,i<0\/C<=i:=Decidable.byContradiction fun hn=>hin ⟨fun i hi=>by
   refine Decidable.byContradiction fun h3=>hn (Or.inl ⟨i,hi, ?_⟩)
   omega,fun i hi=>by
   refine Decidable.byContradiction fun h3=>hn (Or.inr ⟨i,hi, ?_⟩)
   omega⟩
  have hc:(!r1|| !r2)=true:=by
   by_cases h3:∀i∈P,0<=i/\i<R
   . have e1:r1=true:=by rw[h1];exact decide_eq_true h3
     have e2:=(h2 (by rw[e1];rfl)).2;rw[e2,decide_eq_false fun h4=>hin ⟨h3,h4⟩];simp
   . rw[h1,decide_eq_false h3];rfl
  rw[hc];exact⟨fun _=>⟨fun h=>absurd hv h,fun _=>⟨fun _=>⟨rfl,by trivial⟩,fun h=>absurd hF h⟩⟩,fun h=>(by cases h)⟩
 have hF:¬((∃i∈P,i<0\/R<=i)\/∃i∈Q,i<0\/C<=i):=by
  rintro(⟨i,hi,h⟩ | ⟨i,hi,h⟩)
  . have:=hin.1 i hi;omega
  . have:=hin.2 i hi;omega
 have e1:r1=true:=by rw[h1];exact decide_eq_true hin.1
 have e2:=(h2 (by rw[e1];rfl)).2;have e2:r2=true:=by rw[e2];exact decide_eq_true hin.2
 rw[e1,e2];refine⟨fun h=>(by cases h),fun _=> ?_⟩;rw[L3,decide_eq_false (show¬(16384<(P.length:Int))by omega),decide_eq_false (show¬(16384<(Q.length:Int))by omega)];refine⟨fun h=>(by cases h),fun _=>⟨⟨hs,hv⟩, ?_⟩⟩;rintro⟨e,_⟩ _ he;simp only at he⊢;have hel:e.length=R.toNat:=by rw[he];exact dL _
 refine⟨⟨by omega,Int.le_refl _,by omega,by omega⟩, ?_⟩
 let f:Nat->Nat->Rat:=fun i j=>el (R,C,D) (P.getD i 0).toNat (Q.getD j 0).toNat
 rw[show((P.length:Int)).toNat=P.length from Int.toNat_natCast _,show((Q.length:Int)).toNat=Q.length from Int.toNat_natCast _];refine⟨fun p=>0<=p.1/\p.1<=(P.length:Int)/\grown P.length Q.length p.1.toNat 0 f p.2.1,fun p=>((P.length:Int)-p.1).toNat,⟨Int.le_refl _,by simp,A2o⟩, ?_⟩;rintro⟨i,rows,_⟩ _ ⟨i0,i1,hg⟩;change Int at i;change List (List G3)at rows;simp only at i0 i1 hg⊢;refine⟨fun h1=> ?_,fun h1=> ?_⟩
 . have h1:=of_decide_eq_true h1;refine⟨fun p=>0<=p.1/\p.1<=(Q.length:Int)/\grown P.length Q.length i.toNat p.1.toNat f p.2.1,fun p=>((Q.length:Int)-p.1).toNat,⟨Int.le_refl _,by simp,hg⟩, ?_⟩;rintro⟨j,rows,_⟩ _ ⟨j0,j1,hg⟩;change Int at j;change List (List G3)at rows;simp only at j0 j1 hg⊢;have hl:=hg.1;have hlen:=fZ hg (by omega);refine⟨fun h2=> ?_,fun h2=> ?_⟩
   . have h2:=of_decide_eq_true h2;have p1:=hin.1 _ (L6 (d:=(0:Int)) i0 h1);have p2:=hin.2 _ (L6 (d:=(0:Int)) j0 h2);have hrow:(gx [] e (gx 0 P i)).length=C.toNat:=by rw[he];exact oU p1.1 p1.2
     have hval:gx dQ (gx [] e (gx 0 P i)) (gx 0 Q j)=rc (f i.toNat j.toNat):=by
      rw[he,oV p1.1 p1.2 p2.1 p2.2,P7 i0 h1,P7 j0 h2]
     rw[wr (by omega) (by omega)];refine⟨⟨i0,by omega⟩,⟨i0,h1⟩,⟨p1.1,by omega⟩,⟨j0,h2⟩,⟨p2.1,by omega⟩,⟨by rw[hlen,List.length_singleton];omega,by rw[hlen,List.length_singleton];omega⟩,⟨i0,by omega⟩,by trivial,⟨by omega,by omega, ?_⟩,by omega⟩;rw[show(j+1).toNat=j.toNat+1 from by omega];exact bA hg (by omega) hval
   . have h2:=of_decide_eq_false h2;rw[wr (by omega) (by omega),show(i+1).toNat=i.toNat+1 from by omega];rw[show j.toNat=Q.length from by omega]at hg;exact⟨⟨by omega,by omega,aZ hg⟩,by omega⟩
 . have h1:=of_decide_eq_false h1;rw[show i.toNat=P.length from by omega]at hg;have hl:=hg.1;refine⟨⟨fun l hl=> ?_,by omega,by omega,by omega⟩, ?_⟩
   . exact aY hg (fun i j _ _=>A4k hv hlm hs (by decide) _ _) l hl
   . rintro⟨m,_⟩ _ hm;simp only at hm⊢;rw[hl]at hm;exact⟨fun h=>absurd hv h,fun _=>⟨fun h=>absurd h hF,fun _=>⟨fun h=>by omega,fun _=>⟨Kz hm fun i j hi hj=>gA hg hi hj,by trivial⟩⟩⟩⟩
def VM:An:= {}
def VN:An:= {}
def Yu:An:= {plan:= [(1,[3,7],[],true, .done),(4,[3,7,10],[],true, .done)]}
def BR:An:= {}
def Um:An:= {join:= [(12,⟨[0,1,2,6,7,8,9,10,11],[1,2,3],[],[(0,63,[.val (.sl (.int .i64)), .val (.int .i64)]),(4,46,[.val .bool, .val (.sl (.int .u32)), .val (.sl (.int .u32))])],[]⟩)],loop:= [(7,⟨[0,1,2,6,7,8],[1,2],[(9,false,[.own tQ 46]),(10,false,[.val (.int .i64)])],[(0,63,[.val (.sl (.int .i64)), .val (.int .i64)])],[]⟩),(3,⟨[0,1,2,6],[1],[(7,false,[.own (.sl tQ) 28]),(8,false,[.val (.int .i64)])],[(0,63,[.val (.sl (.int .i64)), .val (.int .i64)])],[]⟩)]}
def Ys:An:= {}
def FK:A5 Ho.args->Prop:=fun(x:Int×Int×Unit)=>IntKind.u64.wrap x.2.1≠0/\(0<x.2.1->(0:Int)<=IntKind.i64.wrap ((IntKind.u64.wrap x.1).tmod (IntKind.u64.wrap x.2.1))/\IntKind.i64.wrap ((IntKind.u64.wrap x.1).tmod (IntKind.u64.wrap x.2.1))<x.2.1/\IntKind.i64.wrap ((IntKind.u64.wrap x.1).tmod (IntKind.u64.wrap x.2.1))=(IntKind.u64.wrap x.1).tmod x.2.1)
def ZL:A5 Hp.args->Prop:=fun(x:List Int×Unit)=>(x.1,(0:Int))=(x.1,(0:Int))
def Jn:A5 T4.args->Prop:=fun(x:(List Int×Int)×Int×Unit)=>(decide ((x.1.1.length:Int)<=x.1.2)=true->((0:Int)<=(0:Int)/\0<x.2.1)/\x.1.1=x.1.1/\0<=x.1.2/\x.1.2<=(↑x.1.1.length:Int))/\(decide ((x.1.1.length:Int)<=x.1.2)=false->((0:Int)<=IntKind.i64.wrap (IntKind.i64.wrap (x.1.2+1)-(1:Int))/\IntKind.i64.wrap (IntKind.i64.wrap (x.1.2+1)-(1:Int))<(x.1.1.length:Int))/\0<x.2.1/\∀(r:Int×Unit),L4 r.1/\True->(0<x.2.1->0<=r.1/\r.1<x.2.1/\r.1=(IntKind.u64.wrap (gx (0:Int) x.1.1 (IntKind.i64.wrap (IntKind.i64.wrap (x.1.2+1)-(1:Int))))).tmod x.2.1)->(0<=r.1/\r.1<x.2.1)/\x.1.1=x.1.1/\(0:Int)<=IntKind.i64.wrap (x.1.2+1)/\IntKind.i64.wrap (x.1.2+1)<=(↑x.1.1.length:Int))
def Me:A5 W7.args->Prop:=fun(x:(List Int×Int)×Unit)=>((0:Int)<(13:Int)/\0<=x.1.2/\x.1.2<=(x.1.1.length:Int))/\∀(r:Int×Unit) (o:(List Int×Int)×Unit),L4 r.1/\True->((Ty.int IntKind.i64).sl.pair (Ty.int IntKind.i64)).wf o.1/\True->0<=r.1/\r.1<13->o.1.1=x.1.1/\0<=o.1.2/\o.1.2<=(x.1.1.length:Int)->((0:Int)<(4:Int)/\0<=o.1.2/\o.1.2<=(o.1.1.length:Int))/\∀(b:Int×Unit) (a:(List Int×Int)×Unit),L4 b.1/\True->((Ty.int IntKind.i64).sl.pair (Ty.int IntKind.i64)).wf a.1/\True->0<=b.1/\b.1<4->a.1.1=o.1.1/\0<=a.1.2/\a.1.2<=(o.1.1.length:Int)->True/\∀(c:QQ×Unit),U7 c.1/\True->c.1=rc (Rat.divInt (IntKind.i64.wrap (r.1-6)) (IntKind.i64.wrap (1+b.1)))->TK c.1/\a.1.1=x.1.1/\0<=a.1.2/\a.1.2<=(↑x.1.1.length:Int)
def Gb:A5 O9.args->Prop:=fun(x:(List Int×Int)×Int×Int×Unit)=>∃(I:List (List QQ)×Int×List Int×Int×Unit->Prop),∃(μ:List (List QQ)×Int×List Int×Int×Unit->Nat),I ([],(0:Int),x.1.1,x.1.2,())/\∀(p:List (List QQ)×Int×List Int×Int×Unit),tQ.sl.sl.wf p.1/\(Ty.int IntKind.i64).wf p.2.1/\(Ty.int IntKind.i64).sl.wf p.2.2.1/\(Ty.int IntKind.i64).wf p.2.2.2.1/\True->I p->(decide (p.2.1<x.2.1)=true->∃(I_1:List QQ×Int×List Int×Int×Unit->Prop),∃(μ_1:List QQ×Int×List Int×Int×Unit->Nat),I_1 ([],(0:Int),p.2.2.1,p.2.2.2.1,())/\∀(a:List QQ×Int×List Int×Int×Unit),tQ.sl.wf a.1/\(Ty.int IntKind.i64).wf a.2.1/\(Ty.int IntKind.i64).sl.wf a.2.2.1/\(Ty.int IntKind.i64).wf a.2.2.2.1/\True->I_1 a->(decide (a.2.1<x.2.2.1)=true->True/\∀(r:QQ×Unit),U7 r.1/\True->r.1=rc (0:Rat)->∃(J:List Int×Int×Bool×List Int×List Int×Unit->Prop),(((0:Int)<(3:Int)/\0<=a.2.2.2.1/\a.2.2.2.1<=(a.2.2.1.length:Int))/\∀(c:Int×Unit) (o:(List Int×Int)×Unit),L4 c.1/\True->((Ty.int IntKind.i64).sl.pair (Ty.int IntKind.i64)).wf o.1/\True->0<=c.1/\c.1<3->o.1.1=a.2.2.1/\0<=o.1.2/\o.1.2<=(a.2.2.1.length:Int)->(decide (0<c.1)=true->(0<=o.1.2/\o.1.2<=(o.1.1.length:Int))/\∀(r:QQ×Unit) (b:(List Int×Int)×Unit),U7 r.1/\True->((Ty.int IntKind.i64).sl.pair (Ty.int IntKind.i64)).wf b.1/\True->TK r.1->b.1.1=o.1.1/\0<=b.1.2/\b.1.2<=(o.1.1.length:Int)->J (b.1.1,b.1.2,r.1.1.1,r.1.1.2,r.1.2,()))/\(decide (0<c.1)=false->J (o.1.1,o.1.2,r.1.1.1,r.1.1.2,r.1.2,())))/\∀(p:List Int×Int×Bool×List Int×List Int×Unit),(Ty.int IntKind.i64).sl.wf p.1/\(Ty.int IntKind.i64).wf p.2.1/\Ty.bool.wf p.2.2.1/\(Ty.int IntKind.u32).sl.wf p.2.2.2.1/\(Ty.int IntKind.u32).sl.wf p.2.2.2.2.1/\True->J p->((a.1.length+ [((p.2.2.1,p.2.2.2.1),p.2.2.2.2.1)].length)*(56:Nat)<=(140737488355328:Nat)/\a.1.length+ [((p.2.2.1,p.2.2.2.1),p.2.2.2.2.1)].length<=9223372036854775807)/\I_1 (a.1++ [((p.2.2.1,p.2.2.2.1),p.2.2.2.2.1)],IntKind.i64.wrap (a.2.1+1),p.1,p.2.1,())/\μ_1 (a.1++ [((p.2.2.1,p.2.2.2.1),p.2.2.2.2.1)],IntKind.i64.wrap (a.2.1+1),p.1,p.2.1,())<μ_1 a)/\(decide (a.2.1<x.2.2.1)=false->((p.1.length+ [a.1].length)*(24:Nat)<=(140737488355328:Nat)/\p.1.length+ [a.1].length<=9223372036854775807)/\I (p.1++ [a.1],IntKind.i64.wrap (p.2.1+1),a.2.2.1,a.2.2.2.1,())/\μ (p.1++ [a.1],IntKind.i64.wrap (p.2.1+1),a.2.2.1,a.2.2.2.1,())<μ p))/\(decide (p.2.1<x.2.1)=false->((∀(l:List QQ),l∈p.1->szL K1 l/\(↑l.length:Int)=x.2.2.1)/\0<=x.2.2.1/\x.2.2.1<=16384/\p.1.length<=(16384:Nat))/\∀(r:MM×Unit),SF r.1/\True->Em p.1.length (Int.toNat x.2.2.1) (fun(i j:Nat)=>rv ((p.1.getD i []).getD j zr)) r.1->A2n x.2.1.toNat x.2.2.1.toNat r.1/\p.2.2.1=x.1.1/\0<=p.2.2.2.1/\p.2.2.2.1<=(↑x.1.1.length:Int))
def AP:A5 T2.args->Prop:=fun(x:List Int×Int×Unit)=>(decide (x.2.1<(x.1.length:Int))=true->((0:Int)<=(0:Int)/\0<=x.2.1/\x.2.1<=(x.1.length:Int))/\List.drop (Int.toNat (0:Int)) (List.take (Int.toNat x.2.1) x.1)=List.take x.2.1.toNat x.1)/\(decide (x.2.1<(x.1.length:Int))=false->x.1=List.take x.2.1.toNat x.1)
theorem LW (x:A5 Hp.args) (_:awf Hp.args x) (_:Hp.pre x):ZL x:=rfl
theorem Sg (x:A5 T4.args) (hw:awf T4.args x) (hp:T4.pre x):Jn x:=by
 obtain⟨⟨l,i⟩,n,_⟩:=x;have hl:l.length<=9223372036854775807:=hw.1.1.1;change Int at i n;change List Int at l;obtain⟨p0,p1,p2⟩:0<n/\0<=i/\i<=(l.length:Int):=hp;simp only[Jn];refine⟨fun h=>⟨⟨by omega,p0⟩,by trivial,p1,p2⟩,fun h=> ?_⟩;have h:=of_decide_eq_false h;rw[wr (a:=i+1) (by omega) (by omega),wr (a:=i+1-1) (by omega) (by omega)];refine⟨⟨by omega,by omega⟩,p0, ?_⟩;rintro⟨r,_⟩ _ hr;exact⟨⟨(hr p0).1,(hr p0).2.1⟩,by trivial,by omega,by omega⟩
theorem LV (x:A5 Ho.args) (hw:awf Ho.args x) (hp:Ho.pre x):FK x:=by
 obtain⟨a,b,_⟩:=x;change Int at a b;have hb:0<b:=hp;have h1:Iz .i64 b:=hw.2.1;unfold Iz at h1;rw[show IntKind.i64.min= -9223372036854775808 from by decide,show IntKind.i64.max=9223372036854775807 from by decide]at h1;simp only[FK];have e:IntKind.u64.wrap b=b:=by simp[IntKind.wrap,IntKind.bits,IntKind.signed];omega
 have h2:0<=IntKind.u64.wrap a:=by simp[IntKind.wrap,IntKind.bits,IntKind.signed];omega
 rw[e];have h3:0<=(IntKind.u64.wrap a).tmod b:=Int.tmod_nonneg _ h2;have h4:(IntKind.u64.wrap a).tmod b<b:=Int.tmod_lt_of_pos _ hb;rw[wr (by omega) (by omega)];exact⟨by omega,fun _=>⟨h3,h4,rfl⟩⟩
theorem kL {α:Type} (l:List α) (n:Int) (h0:0<=n):(decide (n<(l.length:Int))=true->((0:Int)<=0/\0<=n/\n<=(l.length:Int))/\List.drop (Int.toNat 0) (List.take n.toNat l)=List.take n.toNat l)/\(decide (n<(l.length:Int))=false->l=List.take n.toNat l):=by
 refine⟨fun h=>⟨⟨Int.le_refl _,h0,Int.le_of_lt (of_decide_eq_true h)⟩,rfl⟩,fun h=> ?_⟩;have h:=of_decide_eq_false h;exact(F6 (Int.not_lt.1 h)).symm
theorem Sa (x:A5 T2.args) (_:awf T2.args x) (hp:T2.pre x):AP x:=kL (α:=Int) x.1 x.2.1 hp
theorem XC {a b:Int} (ha:a.natAbs<4294967296) (h0:0<b) (hb:b.natAbs<4294967296):TK (rc (Rat.divInt a b)):=by
 refine⟨_, ?_,rfl⟩;rw[IS h0];exact LD (by omega) (Ct (by simpa using ha)) (Ct (by simpa using hb))
theorem Vf (x:A5 W7.args) (hw:awf W7.args x) (hp:W7.pre x):Me x:=by
 obtain⟨⟨l,i⟩,_⟩:=x;change Int at i;change List Int at l;obtain⟨p1,p2⟩:0<=i/\i<=(l.length:Int):=hp;simp only[Me];refine⟨⟨by omega,p1,p2⟩, ?_⟩;rintro⟨a,_⟩ ⟨⟨l1,i1⟩,_⟩ _ _ ha ho;change Int at i1 a;change List Int at l1;simp only at ha ho⊢;obtain⟨rfl,h1,h2⟩:=ho;refine⟨⟨by omega,h1,h2⟩, ?_⟩;rintro⟨b,_⟩ ⟨⟨l2,i2⟩,_⟩ _ _ hb ho;change Int at i2 b;change List Int at l2;simp only at hb ho⊢;obtain⟨rfl,h1,h2⟩:=ho;refine⟨trivial, ?_⟩;rintro⟨q,_⟩ _ hq;simp only at hq⊢;rw[wr (by omega) (by omega),wr (by omega) (by omega)]at hq;exact⟨by rw[hq];exact XC (by omega) (by omega) (by omega),by trivial,h1,h2⟩
theorem pB {x:G3} (h:TK x):qs 1 (rv x):=by
 obtain⟨q,hq,rfl⟩:=h;rw[W5];exact hq
theorem dS {x:G3} (h:TK x) {k:Nat} (hk:1<=k):sz k x:=by
 obtain⟨q,hq,rfl⟩:=h;exact⟨Nat.le_trans hq.1 hk,Nat.le_trans hq.2 hk⟩
theorem Oa (x:A5 O9.args) (hw:awf O9.args x) (hp:O9.pre x):Gb x:=by
 obtain⟨⟨l,i⟩,R,C,_⟩:=x;change Int at i R C;change List Int at l;obtain⟨r0,r1,c0,c1,p1,p2⟩:0<=R/\R<=20/\0<=C/\C<=20/\0<=i/\i<=(l.length:Int):=hp;simp only[Gb];refine⟨fun p=>0<=p.2.1/\p.2.1<=R/\(p.1.length:Int)=p.2.1/\(∀v∈p.1,(v.length:Int)=C/\∀e∈v,TK e)/\p.2.2.1=l/\0<=p.2.2.2.1/\p.2.2.2.1<=(l.length:Int),fun p=>(R-p.2.1).toNat,⟨Int.le_refl _,r0,rfl,fun e he=>(by cases he),rfl,p1,p2⟩, ?_⟩;rintro⟨o,k,l1,i1,_⟩ _ ⟨h0,h1,h2,h3,h4,h5,h6⟩;change Int at k i1;change List Int at l1;change List (List G3)at o;simp only at h0 h1 h2 h3 h4 h5 h6⊢;subst h4;refine⟨fun h=> ?_,fun h=> ?_⟩
 . have h:=of_decide_eq_true h;refine⟨fun p=>0<=p.2.1/\p.2.1<=C/\(p.1.length:Int)=p.2.1/\(∀e∈p.1,TK e)/\p.2.2.1=l1/\0<=p.2.2.2.1/\p.2.2.2.1<=(l1.length:Int),fun p=>(C-p.2.1).toNat,⟨Int.le_refl _,c0,rfl,fun e he=>(by cases he),rfl,h5,h6⟩, ?_⟩;rintro⟨u,j,l2,i2,_⟩ _ ⟨g0,g1,g2,g3,g4,g5,g6⟩;change Int at j i2;change List Int at l2;change List G3 at u;simp only at g0 g1 g2 g3 g4 g5 g6⊢;subst g4;refine⟨fun h=> ?_,fun h=> ?_⟩
   . have h:=of_decide_eq_true h;refine⟨trivial, ?_⟩;rintro⟨z,_⟩ _ hz;simp only at hz⊢;refine⟨fun p=>p.1=l2/\0<=p.2.1/\p.2.1<=(l2.length:Int)/\TK ((p.2.2.1,p.2.2.2.1),p.2.2.2.2.1),⟨⟨by omega,g5,g6⟩, ?_⟩, ?_⟩
     . rintro⟨a,_⟩ ⟨⟨l3,i3⟩,_⟩ _ _ ha ho;change Int at i3 a;change List Int at l3;simp only at ha ho⊢;obtain⟨rfl,f1,f2⟩:=ho;refine⟨fun _=>⟨⟨f1,f2⟩, ?_⟩,fun _=> ?_⟩
       . rintro⟨q,_⟩ ⟨⟨l4,i4⟩,_⟩ _ _ hq ho;change Int at i4;change List Int at l4;simp only at hq ho⊢;obtain⟨rfl,e1,e2⟩:=ho;exact⟨by trivial,e1,e2,hq⟩
       . exact⟨by trivial,f1,f2,⟨0,Es (by decide),hz⟩⟩
     . rintro⟨l3,i3,b,m,d,_⟩ _ ⟨f1,f2,f3,f4⟩;change Int at i3;change List Int at l3;simp only at f1 f2 f3 f4⊢;subst f1;rw[wr (by omega) (by omega)];refine⟨⟨by rw[List.length_singleton];omega,by rw[List.length_singleton];omega⟩,⟨by omega,by omega,by rw[List.length_append,List.length_singleton];omega,fun e he=> ?_,by trivial,f2,f3⟩,by omega⟩;rcases List.mem_append.1 he with he|he
       . exact g3 e he
       . rw[List.mem_singleton.1 he];exact f4
   . have h:=of_decide_eq_false h;rw[wr (by omega) (by omega)];refine⟨⟨by rw[List.length_singleton];omega,by rw[List.length_singleton];omega⟩,⟨by omega,by omega,by rw[List.length_append,List.length_singleton];omega,fun e he=> ?_,by trivial,g5,g6⟩,by omega⟩;rcases List.mem_append.1 he with he|he
     . exact h3 e he
     . rw[List.mem_singleton.1 he];exact⟨by omega,g3⟩
 . have h:=of_decide_eq_false h;refine⟨⟨fun v hv=>⟨fun e he=>dS ((h3 v hv).2 e he) (by decide),(h3 v hv).1⟩,c0,by omega,by omega⟩, ?_⟩;rintro⟨m,_⟩ _ hm;simp only at hm⊢;refine⟨⟨_,fun a b=> ?_,by rw[show R.toNat=o.length from by omega];exact hm⟩,by trivial,h5,h6⟩;by_cases ha:a<o.length
   . by_cases hb:b<(o.getD a []).length
     . exact pB ((h3 _ (K4 ha)).2 _ (K4 hb))
     . rw[List.getD_eq_getElem?_getD (l:=o.getD a []),List.getElem?_eq_none (by omega)];exact Es (by decide)
   . rw[List.getD_eq_getElem?_getD (l:=o),List.getElem?_eq_none (by omega)];exact Es (by decide)
def NH:An:= {loop:= [(7,⟨[0,2,3,9,10,11,15,16],[0,1],[(6,false,[.own tQ 46]),(17,false,[.val (.int .i64)])],[],[]⟩),(3,⟨[0,2,9,10],[0],[(3,false,[.own (.sl tQ) 28]),(11,false,[.val (.int .i64)])],[],[]⟩)]}
def HY:An:= {plan:= [(4,[11,18,25],[],false, .done)]}
def NI:An:= {}
def We:A5 De.args->Prop:=fun(x:List (List Int)×Unit)=>∃(I:List (List QQ)×Int×Unit->Prop),∃(μ:List (List QQ)×Int×Unit->Nat),I ([],(0:Int),())/\∀(p:List (List QQ)×Int×Unit),tQ.sl.sl.wf p.1/\(Ty.int IntKind.i64).wf p.2.1/\True->I p->(decide (p.2.1<(x.1.length:Int))=true->(0<=p.2.1/\p.2.1<(x.1.length:Int))/\∃(I_1:List QQ×Int×Unit->Prop),∃(μ_1:List QQ×Int×Unit->Nat),I_1 ([],(0:Int),())/\∀(a:List QQ×Int×Unit),tQ.sl.wf a.1/\(Ty.int IntKind.i64).wf a.2.1/\True->I_1 a->(decide (a.2.1<(↑(gx [] x.1 p.2.1).length:Int))=true->(0<=a.2.1/\a.2.1<(↑(gx [] x.1 p.2.1).length:Int))/\True/\∀(r:QQ×Unit),U7 r.1/\True->r.1=ri (gx (0:Int) (gx [] x.1 p.2.1) a.2.1)->((a.1.length+ [r.1].length)*(56:Nat)<=(140737488355328:Nat)/\a.1.length+ [r.1].length<=9223372036854775807)/\I_1 (a.1++ [r.1],IntKind.i64.wrap (a.2.1+1),())/\μ_1 (a.1++ [r.1],IntKind.i64.wrap (a.2.1+1),())<μ_1 a)/\(decide (a.2.1<(↑(gx [] x.1 p.2.1).length:Int))=false->((p.1.length+ [a.1].length)*(24:Nat)<=(140737488355328:Nat)/\p.1.length+ [a.1].length<=9223372036854775807)/\I (p.1++ [a.1],IntKind.i64.wrap (p.2.1+1),())/\μ (p.1++ [a.1],IntKind.i64.wrap (p.2.1+1),())<μ p))/\(decide (p.2.1<(x.1.length:Int))=false->((0:Int)<=(0:Int)/\(0:Int)<(x.1.length:Int))/\((∀(l:List QQ),l∈p.1->szL K1 l/\(↑l.length:Int)=(↑(gx [] x.1 (0:Int)).length:Int))/\(0:Int)<=(↑(gx [] x.1 (0:Int)).length:Int)/\(↑(gx [] x.1 (0:Int)).length:Int)<=(16384:Int)/\p.1.length<=(16384:Nat))/\∀(r:MM×Unit),SF r.1/\True->Em p.1.length (↑(gx [] x.1 (0:Int)).length:Int).toNat (fun(i j:Nat)=>rv ((p.1.getD i []).getD j zr)) r.1->r.1.1=(↑x.1.length:Int)/\r.1.2.1=(↑(x.1.getD (0:Nat) []).length:Int)/\List.length r.1.2.2=x.1.length/\∀(i:Nat),i<x.1.length->Ey (List.getD r.1.2.2 i [])/\(∀(e:F8),e∈List.getD r.1.2.2 i []->0<=e.1/\e.1<(↑(x.1.getD (0:Nat) []).length:Int))/\∀(j:Nat),j<(x.1.getD (0:Nat) []).length->C5 (List.getD r.1.2.2 i []) (↑j:Int)=(↑((x.1.getD i []).getD j (0:Int)):Rat))
def qc (r:MM×Unit) (b:MM×Int×Unit) (c:MM×Int×Unit) (a:MM×Int×Unit) (d:Bool×Unit) (f:Bool×Unit):Prop:=∀(r:MM×Unit),(E5 (E5 (E5 (E5 (decide (b.2.1=0)) (decide (c.2.1=0)) false) (decide (a.2.1=0)) false) d.1 false) f.1 false=true->(SF r.1/\True)/\Em [[(3:Int)],[(3:Int)]].length ([[(3:Int)],[(3:Int)]].getD (0:Nat) []).length (fun(i j:Nat)=>(↑(([[(3:Int)],[(3:Int)]].getD i []).getD j (0:Int)):Rat)) r.1)->(E5 (E5 (E5 (E5 (decide (b.2.1=0)) (decide (c.2.1=0)) false) (decide (a.2.1=0)) false) d.1 false) f.1 false=true->Gu K1 a.1)/\∀(h:Bool×Unit),(E5 (E5 (E5 (E5 (decide (b.2.1=0)) (decide (c.2.1=0)) false) (decide (a.2.1=0)) false) d.1 false) f.1 false=true->(True/\True)/\(h.1=true↔a.1=r.1/\∀(v:List EE),v∈a.1.2.2->∀(e:EE),e∈v->e.2=rc (rv e.2)))->E5 (E5 (E5 (E5 (E5 (decide (b.2.1=0)) (decide (c.2.1=0)) false) (decide (a.2.1=0)) false) d.1 false) f.1 false) h.1 false=true
def qd:Prop:= [[(3:Int)],[(3:Int)]]≠ []/\ [[(3:Int)],[(3:Int)]].length<=(10:Nat)/\∀(l:List Int),l∈ [[(3:Int)],[(3:Int)]]->l.length=([[(3:Int)],[(3:Int)]].getD (0:Nat) []).length/\l.length<=(10:Nat)/\∀(v:Int),v∈l->v.natAbs<(4294967296:Nat)
def Sf:A5 Bm.args->Prop:=fun(x:Unit)=>([[(2:Int),(1:Int)],[(4:Int),(5:Int)]]≠ []/\ [[(2:Int),(1:Int)],[(4:Int),(5:Int)]].length<=(10:Nat)/\∀(l:List Int),l∈ [[(2:Int),(1:Int)],[(4:Int),(5:Int)]]->l.length=([[(2:Int),(1:Int)],[(4:Int),(5:Int)]].getD (0:Nat) []).length/\l.length<=(10:Nat)/\∀(v:Int),v∈l->v.natAbs<(4294967296:Nat))/\∀(r:MM×Unit),SF r.1/\True->Em [[(2:Int),(1:Int)],[(4:Int),(5:Int)]].length ([[(2:Int),(1:Int)],[(4:Int),(5:Int)]].getD (0:Nat) []).length (fun(i j:Nat)=>(↑(([[(2:Int),(1:Int)],[(4:Int),(5:Int)]].getD i []).getD j (0:Int)):Rat)) r.1->Gu K0 r.1/\∀(b:MM×Int×Unit),SF b.1/\L4 b.2.1/\True->(¬C3 r.1->b.1=zm/\b.2.1=1)/\(C3 r.1->(¬((0:Int)<=(0:Int)/\0<r.1.1/\(0:Int)<=(0:Int)/\0<r.1.2.1)->b.1=zm/\b.2.1=3)/\((0:Int)<=(0:Int)/\0<r.1.1/\(0:Int)<=(0:Int)/\0<r.1.2.1->(el r.1 (Int.toNat (0:Int)) (Int.toNat (0:Int))=(0:Rat)->b.1=zm/\b.2.1=5)/\(el r.1 (Int.toNat (0:Int)) (Int.toNat (0:Int))≠(0:Rat)->Em (r.1.1-1).toNat (r.1.2.1-1).toNat (UO r.1 (Int.toNat (0:Int)) (Int.toNat (0:Int))) b.1/\b.2.1=0)))->([[(1:Int),(2:Int)]]≠ []/\ [[(1:Int),(2:Int)]].length<=(10:Nat)/\∀(l:List Int),l∈ [[(1:Int),(2:Int)]]->l.length=([[(1:Int),(2:Int)]].getD (0:Nat) []).length/\l.length<=(10:Nat)/\∀(v:Int),v∈l->v.natAbs<(4294967296:Nat))/\∀(r:MM×Unit),SF r.1/\True->Em [[(1:Int),(2:Int)]].length ([[(1:Int),(2:Int)]].getD (0:Nat) []).length (fun(i j:Nat)=>(↑(([[(1:Int),(2:Int)]].getD i []).getD j (0:Int)):Rat)) r.1->([[(3:Int)],[(4:Int)]]≠ []/\ [[(3:Int)],[(4:Int)]].length<=(10:Nat)/\∀(l:List Int),l∈ [[(3:Int)],[(4:Int)]]->l.length=([[(3:Int)],[(4:Int)]].getD (0:Nat) []).length/\l.length<=(10:Nat)/\∀(v:Int),v∈l->v.natAbs<(4294967296:Nat))/\∀(g:MM×Unit),SF g.1/\True->Em [[(3:Int)],[(4:Int)]].length ([[(3:Int)],[(4:Int)]].getD (0:Nat) []).length (fun(i j:Nat)=>(↑(([[(3:Int)],[(4:Int)]].getD i []).getD j (0:Int)):Rat)) g.1->(Gu K0 r.1/\Gu K0 g.1/\r.1.2.1<=1000)/\∀(c:MM×Int×Unit),SF c.1/\L4 c.2.1/\True->(¬(C3 r.1/\C3 g.1)->c.1=zm/\c.2.1=1)/\(C3 r.1/\C3 g.1->(r.1.2.1≠g.1.1->c.1=zm/\c.2.1=4)/\(r.1.2.1=g.1.1->Em (Int.toNat r.1.1) (Int.toNat g.1.2.1) (fun(i j:Nat)=>Cl (Int.toNat r.1.2.1) fun(k:Nat)=>el r.1 i k*el g.1 k j) c.1/\c.2.1=0))->([[(1:Int),(2:Int)],[(3:Int),(4:Int)]]≠ []/\ [[(1:Int),(2:Int)],[(3:Int),(4:Int)]].length<=(10:Nat)/\∀(l:List Int),l∈ [[(1:Int),(2:Int)],[(3:Int),(4:Int)]]->l.length=([[(1:Int),(2:Int)],[(3:Int),(4:Int)]].getD (0:Nat) []).length/\l.length<=(10:Nat)/\∀(v:Int),v∈l->v.natAbs<(4294967296:Nat))/\∀(r:MM×Unit),SF r.1/\True->Em [[(1:Int),(2:Int)],[(3:Int),(4:Int)]].length ([[(1:Int),(2:Int)],[(3:Int),(4:Int)]].getD (0:Nat) []).length (fun(i j:Nat)=>(↑(([[(1:Int),(2:Int)],[(3:Int),(4:Int)]].getD i []).getD j (0:Int)):Rat)) r.1->(Gu K1 r.1/\ [(1:Int),(1:Int)].length<=(1000:Nat)/\ [(0:Int)].length<=(1000:Nat))/\∀(a:MM×Int×Unit),SF a.1/\L4 a.2.1/\True->(¬C3 r.1->a.1=zm/\a.2.1=1)/\(C3 r.1->(((∃(i:Int),i∈ [(1:Int),(1:Int)]/\(i<(0:Int)\/r.1.1<=i))\/∃(i:Int),i∈ [(0:Int)]/\(i<(0:Int)\/r.1.2.1<=i))->a.1=zm/\a.2.1=3)/\(¬((∃(i:Int),i∈ [(1:Int),(1:Int)]/\(i<(0:Int)\/r.1.1<=i))\/∃(i:Int),i∈ [(0:Int)]/\(i<(0:Int)\/r.1.2.1<=i))->((16384:Nat)< [(1:Int),(1:Int)].length\/(16384:Nat)< [(0:Int)].length->a.1=zm/\a.2.1=8)/\([(1:Int),(1:Int)].length<=(16384:Nat)/\ [(0:Int)].length<=(16384:Nat)->Em [(1:Int),(1:Int)].length [(0:Int)].length (fun(i j:Nat)=>el r.1 ([(1:Int),(1:Int)].getD i (0:Int)).toNat ([(0:Int)].getD j (0:Int)).toNat) a.1/\a.2.1=0)))->(E5 (E5 (decide (b.2.1=0)) (decide (c.2.1=0)) false) (decide (a.2.1=0)) false=true-> [[(3:Int)]]≠ []/\ [[(3:Int)]].length<=(10:Nat)/\∀(l:List Int),l∈ [[(3:Int)]]->l.length=([[(3:Int)]].getD (0:Nat) []).length/\l.length<=(10:Nat)/\∀(v:Int),v∈l->v.natAbs<(4294967296:Nat))/\∀(r:MM×Unit),(E5 (E5 (decide (b.2.1=0)) (decide (c.2.1=0)) false) (decide (a.2.1=0)) false=true->(SF r.1/\True)/\Em [[(3:Int)]].length ([[(3:Int)]].getD (0:Nat) []).length (fun(i j:Nat)=>(↑(([[(3:Int)]].getD i []).getD j (0:Int)):Rat)) r.1)->(E5 (E5 (decide (b.2.1=0)) (decide (c.2.1=0)) false) (decide (a.2.1=0)) false=true->Gu K1 b.1)/\∀(d:Bool×Unit),(E5 (E5 (decide (b.2.1=0)) (decide (c.2.1=0)) false) (decide (a.2.1=0)) false=true->(True/\True)/\(d.1=true↔b.1=r.1/\∀(v:List EE),v∈b.1.2.2->∀(e:EE),e∈v->e.2=rc (rv e.2)))->(E5 (E5 (E5 (decide (b.2.1=0)) (decide (c.2.1=0)) false) (decide (a.2.1=0)) false) d.1 false=true-> [[(11:Int)]]≠ []/\ [[(11:Int)]].length<=(10:Nat)/\∀(l:List Int),l∈ [[(11:Int)]]->l.length=([[(11:Int)]].getD (0:Nat) []).length/\l.length<=(10:Nat)/\∀(v:Int),v∈l->v.natAbs<(4294967296:Nat))/\∀(r:MM×Unit),(E5 (E5 (E5 (decide (b.2.1=0)) (decide (c.2.1=0)) false) (decide (a.2.1=0)) false) d.1 false=true->(SF r.1/\True)/\Em [[(11:Int)]].length ([[(11:Int)]].getD (0:Nat) []).length (fun(i j:Nat)=>(↑(([[(11:Int)]].getD i []).getD j (0:Int)):Rat)) r.1)->(E5 (E5 (E5 (decide (b.2.1=0)) (decide (c.2.1=0)) false) (decide (a.2.1=0)) false) d.1 false=true->Gu K1 c.1)/\∀(f:Bool×Unit),(E5 (E5 (E5 (decide (b.2.1=0)) (decide (c.2.1=0)) false) (decide (a.2.1=0)) false) d.1 false=true->(True/\True)/\(f.1=true↔c.1=r.1/\∀(v:List EE),v∈c.1.2.2->∀(e:EE),e∈v->e.2=rc (rv e.2)))->((E5 (E5 (E5 (E5 (decide (b.2.1=0)) (decide (c.2.1=0)) false) (decide (a.2.1=0)) false) d.1 false) f.1 false=true->qd)/\qc r b c a d f)/\(E5 (E5 (E5 (E5 (decide (b.2.1=0)) (decide (c.2.1=0)) false) (decide (a.2.1=0)) false) d.1 false) f.1 false=true->qd)/\qc r b c a d f
def Wg:A5 Df.args->Prop:=fun(x:MM×Int×MM×Int×Unit)=>(decide (x.2.1=x.2.2.2.1)=true->Gu K1 x.1)/\∀(r:Bool×Unit),(decide (x.2.1=x.2.2.2.1)=true->(True/\True)/\(r.1=true↔x.1=x.2.2.1/\∀(v:List EE),v∈x.1.2.2->∀(e:EE),e∈v->e.2=rc (rv e.2)))->(E5 (decide (x.2.1=x.2.2.2.1)) r.1 false=true↔x.2.1=x.2.2.2.1/\x.1=x.2.2.1/\∀(v:List EE),v∈x.1.2.2->∀(e:EE),e∈v->e.2=rc (rv e.2))
theorem EN (x:A5 De.args) (hw:awf De.args x) (hp:De.pre x):We x:=by
 obtain⟨L,_⟩:=x;change List (List Int)at L;obtain⟨hne,hl,hr⟩:L≠ []/\L.length<=10/\∀l∈L,l.length=(L.getD 0 []).length/\l.length<=10/\∀v∈l,v.natAbs<4294967296:=hp;have hpos:0<L.length:=List.length_pos_iff.2 hne;have h0:gx [] L 0=L.getD 0 []:=P7 (Int.le_refl _) (by omega)
 let G:Nat->List G3:=fun i=>(L.getD i []).map ri
 simp only[We];refine⟨fun p=>0<=p.2.1/\p.2.1<=(L.length:Int)/\p.1=(List.range p.2.1.toNat).map G,fun p=>((L.length:Int)-p.2.1).toNat,⟨Int.le_refl _,by show(0:Int)<= _;omega,rfl⟩, ?_⟩;rintro⟨o,k,_⟩ _ ⟨k0,k1,ho⟩;change Int at k;change List (List G3)at o;simp only at k0 k1 ho⊢;refine⟨fun h=> ?_,fun h=> ?_⟩
 . have h:=of_decide_eq_true h;have hm:=hr _ (L6 (d:=([]:List Int)) k0 h);have hG:G k.toNat=(gx [] L k).map ri:=by show(L.getD k.toNat []).map ri= _;rw[P7 k0 h]
   refine⟨⟨k0,h⟩, ?_⟩;generalize gx [] L k=l at hm hG⊢;refine⟨fun p=>0<=p.2.1/\p.2.1<=(l.length:Int)/\p.1=(l.take p.2.1.toNat).map ri,fun p=>((l.length:Int)-p.2.1).toNat,⟨Int.le_refl _,by simp,rfl⟩, ?_⟩;rintro⟨u,j,_⟩ _ ⟨j0,j1,hu⟩;change Int at j;change List G3 at u;simp only at j0 j1 hu⊢;refine⟨fun h2=> ?_,fun h2=> ?_⟩
   . have h2:=of_decide_eq_true h2;refine⟨⟨j0,h2⟩,trivial, ?_⟩;rintro⟨q,_⟩ _ hq;simp only at hq⊢;have hul:u.length=j.toNat:=by rw[hu];simp;omega
     rw[wr (by omega) (by omega)];refine⟨⟨by rw[List.length_singleton];omega,by rw[List.length_singleton];omega⟩,⟨by omega,by omega, ?_⟩,by omega⟩;rw[show(j+1).toNat=j.toNat+1 from by omega,List.take_add_one,H2 (d:=(0:Int)) j0 h2,List.map_append,hu,hq];rfl
   . have h2:=of_decide_eq_false h2;rw[F6 (by omega)]at hu;have hol:o.length=k.toNat:=by rw[ho];simp
     rw[wr (by omega) (by omega)];refine⟨⟨by rw[List.length_singleton];omega,by rw[List.length_singleton];omega⟩,⟨by omega,by omega, ?_⟩,by omega⟩;rw[XZ G k0, <-ho,hG,hu]
 . have h:=of_decide_eq_false h;have hol:o.length=L.length:=by rw[ho];simp;omega
   have hat:∀i,i<L.length->o.getD i []=G i:=fun i hi=>by
    rw[ho,List.getD_eq_getElem?_getD,List.getElem?_map,List.getElem?_range (by omega)];rfl
   have hc:=hr _ (K4 (d:=([]:List Int)) hpos);have hval:∀i j,i<L.length->j<(L.getD 0 []).length->rv ((o.getD i []).getD j zr)=(((L.getD i []).getD j 0:Int):Rat):=fun i j hi hj=>by
    have h5:=(hr _ (K4 (d:=([]:List Int)) hi)).1;rw[hat i hi];show rv (List.getD (List.map ri _) j zr)= _;have e1:=List.getElem?_eq_getElem (l:=L.getD i []) (i:=j) (by omega);rw[List.getD_eq_getElem?_getD,List.getElem?_map,List.getD_eq_getElem?_getD (l:=L.getD i []),e1];show rv (ri _)= _;rw[A1j,W5];rfl
   refine⟨⟨Int.le_refl _,by omega⟩,⟨fun v hv=> ?_,by omega,by rw[h0];omega,by omega⟩, ?_⟩
   . rw[ho]at hv;obtain⟨i,hi,rfl⟩:=List.mem_map.1 hv;rw[List.mem_range]at hi;have h5:=hr _ (K4 (d:=([]:List Int)) (i:=i) (l:=L) (by omega));refine⟨fun e he=> ?_,by rw[h0];show((List.map ri _).length:Int)= _;rw[List.length_map,h5.1]⟩;obtain⟨v,hv,rfl⟩:=List.mem_map.1 he;rw[A1j];exact dS ⟨_,nF (h5.2.2 v hv),rfl⟩ (by decide)
   . rintro⟨m,_⟩ _ hm;simp only at hm⊢;rw[hol,h0,Int.toNat_natCast]at hm;exact Kz hm hval
theorem EO (x:A5 Df.args) (hw:awf Df.args x) (hp:Df.pre x):Wg x:=by
 obtain⟨m,c,m',c',_⟩:=x;change Int at c c';simp only[Wg];refine⟨fun _=>hp, ?_⟩;rintro⟨r,_⟩ hr;simp only at hr⊢;rw[J1];by_cases h:c=c'
 . rw[decide_eq_true h];have hr:=(hr (decide_eq_true h)).2;rw[Bool.true_and,hr];exact⟨fun h2=>⟨h,h2⟩,fun h2=>h2.2⟩
 . rw[decide_eq_false h];exact⟨fun h2=>(by cases h2),fun h2=>absurd h2.1 h⟩
theorem CR {R C:Nat} {f:Nat->Nat->Rat} {m:Bc} (h:Em R C f m):∀v∈m.2.2,∀e∈v,e.2=rc (rv e.2):=fun v hv e he=>by
 obtain⟨i,hi,rfl⟩:=Qy [] hv;exact((h.2.2.2 i (by rw[<-h.2.2.1];exact hi)).1.2 e he).2
theorem Mz {R C k:Nat} {f:Nat->Nat->Rat} {m:Bc} (h:Em R C f m) (hk:1<=k) (hf:∀i j,i<R->j<C->∃v:Int,f i j=(v:Rat)/\v.natAbs<4294967296):Gu k m:=bG h hk fun i j hi hj=>by
 obtain⟨v,e,hv⟩:=hf i j hi hj;rw[e];exact Gk (nF hv) hk
theorem Ng {L:List (List Int)} (h:∀l∈L,∀v∈l,v.natAbs<4294967296) (i j:Nat):∃v:Int,(((L.getD i []).getD j 0:Int):Rat)=(v:Rat)/\v.natAbs<4294967296:=by
 refine⟨_,rfl, ?_⟩;by_cases hi:i<L.length
 . by_cases hj:j<(L.getD i []).length
   . exact h _ (K4 hi) _ (K4 hj)
   . rw[List.getD_eq_getElem?_getD (l:=L.getD i []),List.getElem?_eq_none (by omega)];decide
 . rw[List.getD_eq_getElem?_getD (l:=L),List.getElem?_eq_none (by omega)];simp
theorem fN:(5:Rat)-4*1/2=3:=by decide+kernel
theorem aK:(0:Rat)+1*3+2*4=11:=by decide+kernel
theorem AT (x:A5 Bm.args) (hw:awf Bm.args x) (hp:Bm.pre x):Sf x:=by
 simp only[Sf,qc,qd];refine⟨by decide, ?_⟩;rintro⟨A,_⟩ _ hA;simp only at hA⊢;have vA:=La hA (by decide) (by decide);refine⟨Mz hA (by decide) fun i j _ _=>Ng (by decide) i j, ?_⟩;rintro⟨P,c1,_⟩ _ ⟨_,hP⟩;change Int at c1;simp only at hP⊢;have A1:A.1=2:=hA.1;have A2:A.2.1=2:=hA.2.1;have hP:=(hP vA).2 (by rw[A1,A2];decide);have el00:el A 0 0=2:=Ka hA (by decide) (by decide);have el01:el A 0 1=1:=Ka hA (by decide) (by decide);have el10:el A 1 0=4:=Ka hA (by decide) (by decide);have el11:el A 1 1=5:=Ka hA (by decide) (by decide);obtain⟨hP2,rfl⟩:=hP.2 (by show el A 0 0≠0;rw[el00];decide);clear hP;rw[A1,A2]at hP2;have hP:Em 1 1 (fun i j=>(((([[3]]:List (List Int)).getD i []).getD j 0:Int):Rat)) P:=Kz hP2 fun i j hi hj=>by
  have:i=0:=by omega
  subst this;have:j=0:=by have:j<1:=hj;omega
  subst this;show el A 1 1-el A 1 0*el A 0 1/el A 0 0=3;rw[el00,el01,el10,el11];exact fN
 refine⟨by decide, ?_⟩;rintro⟨B,_⟩ _ hB;simp only at hB⊢;have vB:=La hB (by decide) (by decide);refine⟨by decide, ?_⟩;rintro⟨C,_⟩ _ hC;simp only at hC⊢;have vC:=La hC (by decide) (by decide);have B1:B.1=1:=hB.1;have B2:B.2.1=2:=hB.2.1;have C1:C.1=2:=hC.1;have C2:C.2.1=1:=hC.2.1;refine⟨⟨Mz hB (by decide) fun i j _ _=>Ng (by decide) i j,Mz hC (by decide) fun i j _ _=>Ng (by decide) i j,by rw[B2];decide⟩, ?_⟩;rintro⟨Q,c2,_⟩ _ ⟨_,hQ⟩;change Int at c2;simp only at hQ⊢;obtain⟨hQ2,rfl⟩:=(hQ ⟨vB,vC⟩).2 (by rw[B2,C1]);clear hQ;rw[B1,B2,C2]at hQ2;have hQ:Em 1 1 (fun i j=>(((([[11]]:List (List Int)).getD i []).getD j 0:Int):Rat)) Q:=Kz hQ2 fun i j hi hj=>by
  have:i=0:=by have:i<1:=hi;omega
  subst this;have:j=0:=by have:j<1:=hj;omega
  subst this;have b0:el B 0 0=1:=Ka hB (by decide) (by decide);have b1:el B 0 1=2:=Ka hB (by decide) (by decide);have d0:el C 0 0=3:=Ka hC (by decide) (by decide);have d1:el C 1 0=4:=Ka hC (by decide) (by decide);show(0:Rat)+el B 0 0*el C 0 0+el B 0 1*el C 1 0=11;rw[b0,b1,d0,d1];exact aK
 refine⟨by decide, ?_⟩;rintro⟨D,_⟩ _ hD;simp only at hD⊢;have vD:=La hD (by decide) (by decide);have D1:D.1=2:=hD.1;have D2:D.2.1=2:=hD.2.1;refine⟨⟨Mz hD (by decide) fun i j _ _=>Ng (by decide) i j,by decide,by decide⟩, ?_⟩;rintro⟨S,c3,_⟩ _ ⟨_,hS⟩;change Int at c3;simp only at hS⊢;have hS:=(hS vD).2 (by rw[D1,D2];decide);obtain⟨hS2,rfl⟩:=hS.2 (by decide);clear hS;have hS:Em 2 1 (fun i j=>(((([[3],[3]]:List (List Int)).getD i []).getD j 0:Int):Rat)) S:=Kz hS2 fun i j hi hj=>by
  have:j=0:=by have:j<1:=hj;omega
  subst this;have d0:el D 1 0=3:=Ka hD (by decide) (by decide);have hi:i<2:=hi;rcases(by omega:i=0\/i=1)with rfl|rfl
  . exact d0
  . exact d0
 refine⟨fun _=>by decide, ?_⟩;rintro⟨P',_⟩ hP';simp only at hP'⊢;have hP':=(hP' rfl).2;refine⟨fun _=>Mz hP (by decide) fun i j _ _=>Ng (by decide) i j, ?_⟩;rintro⟨b1,_⟩ hb1;simp only at hb1⊢;have hb1:b1=true:=(hb1 rfl).2.2 ⟨HH hP hP' fun _ _ _ _=>rfl,CR hP⟩;subst hb1;refine⟨fun _=>by decide, ?_⟩;rintro⟨Q',_⟩ hQ';simp only at hQ'⊢;have hQ':=(hQ' rfl).2;refine⟨fun _=>Mz hQ (by decide) fun i j _ _=>Ng (by decide) i j, ?_⟩;rintro⟨b2,_⟩ hb2;simp only at hb2⊢;have hb2:b2=true:=(hb2 rfl).2.2 ⟨HH hQ hQ' fun _ _ _ _=>rfl,CR hQ⟩;subst hb2;have key:∀(S':Bc),Em 2 1 (fun i j=>(((([[3],[3]]:List (List Int)).getD i []).getD j 0:Int):Rat)) S'->∀b3:Bool,(b3=true↔S=S'/\∀v∈S.2.2,∀e∈v,e.2=rc (rv e.2))->b3=true:=fun S' hS' b3 hb=>hb.2 ⟨HH hS hS' fun _ _ _ _=>rfl,CR hS⟩
 have kS:Gu K1 S:=Mz hS (by decide) fun i j _ _=>Ng (by decide) i j
 refine⟨⟨fun _=>by decide, ?_⟩,fun _=>by decide, ?_⟩
 . rintro⟨S',_⟩ hS';simp only at hS'⊢;refine⟨fun _=>kS, ?_⟩;rintro⟨b3,_⟩ hb3;simp only at hb3⊢;rw[key S' (hS' rfl).2 b3 (hb3 rfl).2];rfl
 . rintro⟨S',_⟩ hS';simp only at hS'⊢;refine⟨fun _=>kS, ?_⟩;rintro⟨b3,_⟩ hb3;simp only at hb3⊢;rw[key S' (hS' rfl).2 b3 (hb3 rfl).2];rfl
end Go.Proofs.YtdlnpbmmdnmkaaaGreat
