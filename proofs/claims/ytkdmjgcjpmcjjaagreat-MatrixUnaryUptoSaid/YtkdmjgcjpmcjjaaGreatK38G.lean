/- Part. -/
import Derived.Test.YtkdmjgcjpmcjjaaGreatK38F
namespace Go.Proofs.YtkdmjgcjpmcjjaaGreat
open Go.Vc Go.Gw
theorem C8b {l:List Ent} (h:∀x∈l,WfE x):G2k l:=fun e he=>⟨A6 (h e he).2.1.2.2,A6 (h e he).2.2.2⟩
theorem B9k {q:L5} (h:WfQ q):F5s q:=⟨A6 h.1.2.2,A6 h.2.2⟩
theorem B2e (x:A7 F9.args) (hw:awf F9.args x) (_:F9.pre x):A0v x:=by
 obtain⟨l,_⟩:=x;have hl:l.length<=9223372036854775807:=hw.1.1;change List Ent at l;simp only[A0v];refine⟨fun p=>1<=p.1/\∀s t:Nat,s<t->t<p.1.toNat->t<l.length->(l.getD s dEE).1<(l.getD t dEE).1,fun p=>((l.length:Int)-p.1).toNat,⟨Int.le_refl _,fun s t h1 h2=>by simp at h2;omega⟩, ?_⟩;rintro⟨k,_⟩ _ ⟨h0,h1⟩;change Int at k;simp only at h0 h1⊢;refine⟨fun h=> ?_,fun h=> ?_⟩
 . have h:=of_decide_eq_true h;rw[wr (a:=k-1) (by omega) (by omega)];refine⟨⟨by omega,by omega⟩,⟨by omega,h⟩,fun hb=> ?_,fun hb=> ?_⟩
   . have hb:=of_decide_eq_true hb;refine(decide_eq_false fun hp=> ?_).symm;unfold asc at hp;rw[List.pairwise_iff_getElem]at hp;have:=hp (k-1).toNat k.toNat (by omega) (by omega) (by omega);have e1:=K5 (d:=dEE) (l:=l) (i:=k) (by omega) h;have e2:=K5 (d:=dEE) (l:=l) (i:=k-1) (by omega) (by omega);rw[List.getElem?_eq_getElem (by omega)]at e1 e2;rw[Option.some.inj e1,Option.some.inj e2]at this;omega
   . have hb:=of_decide_eq_false hb;rw[wr (a:=k+1) (by omega) (by omega)];rw[W9 (by omega) h,W9 (by omega) (by omega)]at hb;refine⟨⟨by omega,fun s t h2 h3 h4=> ?_⟩,by omega⟩;by_cases ht:t=k.toNat
     . by_cases hs:s=(k-1).toNat
       . rw[ht,hs];omega
       . have:=h1 s (k-1).toNat (by omega) (by omega) (by omega);rw[ht];omega
     . exact h1 s t h2 (by omega) h4
 . have h:=of_decide_eq_false h;refine(decide_eq_true ?_).symm;unfold asc;rw[List.pairwise_iff_getElem];intro i j hi hj hij;have:=h1 i j hij (by omega) hj;rw[List.getD_eq_getElem?_getD,List.getElem?_eq_getElem hi,List.getD_eq_getElem?_getD,List.getElem?_eq_getElem hj]at this;exact this
theorem B6b (x:A7 K7.args) (hw:awf K7.args x) (hp:K7.pre x):A2s x:=by
 obtain⟨l,_⟩:=x;have ha:asc l:=hp;simp only[A2s];refine⟨trivial, ?_⟩;rintro⟨r,_⟩ _ hr;simp only at hr⊢;refine⟨fun _=>trivial,fun h=> ?_⟩;rw[hr,decide_eq_true ha]at h;cases h
theorem G7h {α:Type} (e:α) (a:List α):List.drop (Int.toNat 1) (List.take (((e::a).length:Int)).toNat (e::a))=a:=by
 rw[Int.toNat_natCast,List.take_length];rfl
theorem C2k (x:A7 P6.args) (hw:awf P6.args x) (hp:P6.pre x):A5o x:=by
 obtain⟨A,B,⟨ok,φ⟩,_⟩:=x;change List Ent at A B;obtain⟨hA,hB,hok⟩:A.length<=100000/\B.length<=100000/\∀u v:L5,(u=zr\/∃e∈A,e.2=u)->(v=zr\/∃e∈B,e.2=v)->ok (u,v,()):=hp;simp only[A5o];have e0:List.replicate (Int.toNat 0) dEE= []:=rfl;rw[e0];refine⟨⟨Int.le_refl _,by omega,by omega,by omega⟩, ?_⟩;refine⟨fun p=>(∀e∈p.1,e∈A)/\(∀e∈p.2.1,e∈B)/\p.2.2.1++O1 φ p.1 p.2.1=O1 φ A B/\p.2.2.1.length+(p.1.length+p.2.1.length)<=A.length+B.length,fun p=>p.1.length+p.2.1.length,⟨fun _ h=>h,fun _ h=>h,rfl,by simp⟩, ?_⟩;rintro⟨a,b,res,_⟩ _ ⟨ha,hb,hm,hl⟩;change List Ent at a b res;simp only at ha hb hm hl⊢;refine⟨fun hc=> ?_,fun hc=> ?_⟩
 . refine⟨fun q=>(q.1.length+q.2.1.length<a.length+b.length)/\(∀e∈q.1,e∈A)/\(∀e∈q.2.1,e∈B)/\(((q.2.2.2.1,q.2.2.2.2.1),q.2.2.2.2.2.1)=zr\/∃e∈A,e.2=((q.2.2.2.1,q.2.2.2.2.1),q.2.2.2.2.2.1))/\(((q.2.2.2.2.2.2.1,q.2.2.2.2.2.2.2.1),q.2.2.2.2.2.2.2.2.1)=zr\/∃e∈B,e.2=((q.2.2.2.2.2.2.1,q.2.2.2.2.2.2.2.1),q.2.2.2.2.2.2.2.2.1))/\O1 φ a b=put q.2.2.1 (φ (((q.2.2.2.1,q.2.2.2.2.1),q.2.2.2.2.2.1),((q.2.2.2.2.2.2.1,q.2.2.2.2.2.2.2.1),q.2.2.2.2.2.2.2.2.1),())) (O1 φ q.1 q.2.1),⟨fun h=>⟨Int.le_refl _,of_decide_eq_true h.1⟩,fun h=>⟨Int.le_refl _,by have:=of_decide_eq_false h.2;omega⟩,fun h=> ?_,fun h=> ?_⟩, ?_⟩
   . cases a with
     |nil=>
      cases b with
      |nil=>simp[sel]at hc
      |cons f b=>simp[sel]at h;omega
     |cons e a=>
      have hin:e∈A:=ha e (List.mem_cons_self ..);have ha':∀z∈a,z∈A:=fun z hz=>ha z (List.mem_cons_of_mem _ hz)
      have hl1:(0:Int)<((e::a).length:Int):=by simp only[List.length_cons];omega
      rw[G7h];refine⟨⟨Int.le_refl _,hl1⟩,⟨Int.le_refl _,hl1⟩,⟨by omega,by simp only[List.length_cons];omega,Int.le_refl _⟩,fun h=>⟨Int.le_refl _,of_decide_eq_true h⟩,fun h2=> ?_,fun h2=> ?_⟩
      . cases b with
        |nil=>simp[sel]at h2
        |cons f b=>
         rw[G7h];have hl2:(0:Int)<((f::b).length:Int):=by simp only[List.length_cons];omega
         refine⟨⟨Int.le_refl _,hl2⟩,⟨by omega,by simp only[List.length_cons];omega,Int.le_refl _⟩,by simp only[List.length_cons];omega,ha',fun z hz=>hb z (List.mem_cons_of_mem _ hz), .inr ⟨e,hin,rfl⟩, .inr ⟨f,hb f (List.mem_cons_self ..),rfl⟩, ?_⟩;rw[S9,Bool.and_eq_true,decide_eq_true_eq,decide_eq_true_eq]at h2;have h3:f.1=e.1:=h2.2;show O1 φ (e::a) (f::b)=put e.1 (φ (e.2,f.2,())) (O1 φ a b);rw[O1,if_neg (by omega),if_pos h3.symm]
      . refine⟨by simp only[List.length_cons];omega,ha',hb, .inr ⟨e,hin,rfl⟩, .inl rfl, ?_⟩;show O1 φ (e::a) b=put e.1 (φ (e.2,zr,())) (O1 φ a b);cases b with
        |nil=>rw[O1]
        |cons f b=>
         have h3:¬f.1=e.1:=by
          have:decide ((gx dEE (f::b) 0).1=(gx dEE (e::a) 0).1)=false:=by simpa[sel]using h2
          exact of_decide_eq_false this
         have h4:e.1<=f.1:=by
          have:decide ((gx dEE (e::a) 0).1<=(gx dEE (f::b) 0).1)=true:=by
           rw[Q0,S9]at h;simp only[List.length_cons,Bool.or_eq_true,Bool.and_eq_true,decide_eq_true_eq]at h;rcases h with h|h
           . omega
           . exact decide_eq_true h.2
          exact of_decide_eq_true this
         rw[O1,if_pos (by omega)]
   . rw[Q0,S9]at h;simp only[Bool.or_eq_false_iff,Bool.and_eq_false_iff,decide_eq_false_iff_not]at h;obtain⟨hb0,h⟩:=h;cases b with
     |nil=>simp at hb0
     |cons f b=>
      have hl2:(0:Int)<((f::b).length:Int):=by simp only[List.length_cons];omega
      rw[G7h];refine⟨⟨Int.le_refl _,hl2⟩,⟨Int.le_refl _,hl2⟩,⟨by omega,by simp only[List.length_cons];omega,Int.le_refl _⟩,by simp only[List.length_cons];omega,ha,fun z hz=>hb z (List.mem_cons_of_mem _ hz), .inl rfl, .inr ⟨f,hb f (List.mem_cons_self ..),rfl⟩, ?_⟩;show O1 φ a (f::b)=put f.1 (φ (zr,f.2,())) (O1 φ a b);cases a with
      |nil=>rw[O1]
      |cons e a=>
       have h3:¬e.1<=f.1:=by
        rcases h with h|h
        . simp at h
        . exact h
       rw[O1,if_neg (by omega),if_neg (by omega)]
   . rintro⟨a',b',i,u1,u2,u3,v1,v2,v3,_⟩ _ ⟨j1,j2,j3,j4,j5,j6⟩;change Int at i;simp only at j1 j2 j3 j4 j5 j6⊢;refine⟨by trivial,hok _ _ j4 j5,fun _=>⟨trivial, ?_⟩⟩;rintro⟨s,_⟩ _ hs;simp only at hs⊢;generalize φ (((u1,u2),u3),((v1,v2),v3),())=z at*;have hlen:∀(α:Type) (l:List α) (y:α),(l++ [y]).length=l.length+1:=fun α l y=>by simp
     refine⟨fun h=>⟨⟨by simp only[List.length_singleton];omega,by simp only[List.length_singleton];omega⟩,⟨j2,j3, ?_, ?_⟩,j1⟩,fun h=>⟨⟨j2,j3, ?_,by omega⟩,j1⟩⟩
     . have h:=of_decide_eq_true h;have hz:¬rv z=0:=fun h0=>h (by rw[hs,h0];rfl)
       rw[<-hm,j6,put,if_neg hz,List.append_assoc];rfl
     . show(res++ [(i,z)]).length+ _ <= _;rw[hlen];omega
     . have h:=of_decide_eq_false h;have hz:rv z=0:=D1w (by rw[<-hs];exact Decidable.not_not.1 h);rw[<-hm,j6,put,if_pos hz]
 . rw[Q0]at hc;simp only[Bool.or_eq_false_iff,decide_eq_false_iff_not]at hc;have h1:a= []:=List.eq_nil_of_length_eq_zero (by omega);have h2:b= []:=List.eq_nil_of_length_eq_zero (by omega);subst h1 h2;rw[O1,List.append_nil]at hm;exact hm
theorem C2v (x:A7 P5.args) (hw:awf P5.args x) (_:P5.pre x):A5v x:=by
 obtain⟨l,n,_⟩:=x;have hl:l.length<=9223372036854775807:=hw.1.1;change List Ent at l;change Int at n;simp only[A5v];refine⟨trivial, ?_⟩;rintro⟨r,_⟩ _ hr;simp only at hr⊢;refine⟨fun h=> ?_,fun h=> ?_⟩
 . have:¬asc l:=by
    rw[hr]at h;simpa using h
   exact(decide_eq_false fun hv=>this hv.1).symm
 have ha:asc l:=by
  rw[hr]at h;simpa using h
 refine⟨fun p=>0<=p.1/\∀e∈l.take p.1.toNat,0<=e.1/\e.1<n/\rv e.2≠0,fun p=>((l.length:Int)-p.1).toNat,⟨Int.le_refl _,by simp⟩, ?_⟩;rintro⟨i,_⟩ _ ⟨h0,h1⟩;change Int at i;simp only at h0 h1⊢;refine⟨fun hi=> ?_,fun hi=> ?_⟩
 . have hi:=of_decide_eq_true hi;refine⟨⟨h0,hi⟩,fun _=>trivial, ?_⟩;rintro⟨s,_⟩ hs;simp only at hs⊢;simp only[Q0]at hs⊢;have hme:gx dEE l i∈l:=L3 h0 hi;refine⟨fun hb=> ?_,fun hb=> ?_⟩
   . refine(decide_eq_false fun hv=> ?_).symm;have:=hv.2 _ hme;simp only[Bool.or_eq_true,decide_eq_true_eq]at hb;rcases hb with(hb|hb) |hb
     . omega
     . omega
     . have h2:=(hs (by simp only[Bool.or_eq_false_iff,decide_eq_false_iff_not];omega)).2;exact this.2.2 (D1w (by rw[<-h2];exact hb))
   . simp only[Bool.or_eq_false_iff,decide_eq_false_iff_not]at hb;have h2:=(hs (by simp only[Bool.or_eq_false_iff,decide_eq_false_iff_not];exact hb.1)).2;rw[wr (by omega) (by omega)];refine⟨⟨by omega,A2r (d:=dEE) (q:=fun e=>0<=e.1/\e.1<n/\rv e.2≠0) h0 hi h1 ⟨by omega,by omega,fun h3=>hb.2 (by rw[h2,h3];rfl)⟩⟩,by omega⟩
 . have hi:=of_decide_eq_false hi;rw[D7 (by omega)]at h1;exact(decide_eq_true ⟨ha,h1⟩).symm
theorem G4d {k:Nat} {v:List Ent} (h:szV k v) {u:L5} (hu:u=zr\/∃e∈v,e.2=u):sz k u:=by
 rcases hu with rfl| ⟨e,he,rfl⟩
 . exact⟨Nat.zero_le _,Nat.zero_le _⟩
 . exact h e he
theorem D0n (x:A7 R2.args) (hw:awf R2.args x) (hp:R2.pre x):A9y x:=by
 obtain⟨v,k,_⟩:=x;have hlv:G2k v:=C8b hw.1.2;have hll:v.length<=9223372036854775807:=hw.1.1;change List Ent at v;change Int at k;obtain⟨ha,hs,hl⟩:okV K1 v:=hp;simp only[A9y];refine⟨trivial, ?_⟩;rintro⟨z,_⟩ _ hz;simp only at hz⊢;have hz:z=rc 0:=by rw[hz, <-E6t];rfl
 refine⟨fun p=>0<=p.1/\p.1<=(v.length:Int)/\((p.2.1,p.2.2.1),p.2.2.2.1)=rc (E2 (v.take p.1.toNat) k),fun p=>((v.length:Int)-p.1).toNat,⟨Int.le_refl _,Int.natCast_nonneg _,by rw[hz];rfl⟩, ?_⟩;rintro⟨i,b,m,d,_⟩ _ ⟨h0,h1,h2⟩;change Int at i;simp only at h0 h1 h2⊢;refine⟨fun h=> ?_,fun h=> ?_⟩
 . have h:=of_decide_eq_true h;have hme:gx dEE v i∈v:=L3 h0 h;have hts:v.take (i+1).toNat=v.take i.toNat++ [gx dEE v i]:=by
    rw[show(i+1).toNat=i.toNat+1 from by omega,List.take_add_one,K5 (d:=dEE) h0 h];rfl
   have hq:=B0n (v:=v.take i.toNat) (k:=K1) (ha.take) (fun e he=>hlv e (List.mem_of_mem_take he)) (fun e he=>hs e (List.mem_of_mem_take he)) (by decide) k;have hse:=hs _ hme;have hct:E2 (v.take (i+1).toNat) k=E2 (v.take i.toNat) k+if(gx dEE v i).1=k then rv (gx dEE v i).2 else 0:=by
    rw[hts,A6g];simp only[E2,Rat.add_zero]
   generalize gx dEE v i=e at*;refine⟨fun p=>((p.1,p.2.1),p.2.2.1)=rc (E2 (v.take (i+1).toNat) k),⟨⟨h0,h⟩,fun he=>⟨⟨?_,A0c (k:=K1) hse (by decide)⟩, ?_⟩,fun he=> ?_⟩, ?_⟩
   . rw[h2];exact A2a hq (by decide)
   . have he:=of_decide_eq_true he;rintro⟨r,_⟩ _ hr;simp only at hr⊢;show r= _;rw[hr,h2,U4,hct,if_pos he]
   . have he:=of_decide_eq_false he;show((b,m),d)= _;rw[h2,hct,if_neg he,Rat.add_zero]
   . rintro⟨b',m',d',_⟩ _ hr;simp only at hr⊢;rw[wr (by omega) (by omega)];exact⟨⟨by omega,by omega,hr⟩,by omega⟩
 . have h:=of_decide_eq_false h;rw[D7 (by omega)]at h2;exact h2
theorem F7o {l:List L5} {i:Int} (h0:0<=i) (h1:i<(l.length:Int)):gx dQ l i=l.getD i.toNat zr:=W9 (d:=zr) h0 h1
theorem A9l (x:A7 F7.args) (hw:awf F7.args x) (hp:F7.pre x):Y6 x:=by
 obtain⟨p,q,f,_⟩:=x;have lq:F5s q:=B9k hw.2.1;have lf:F5s f:=B9k hw.2.2.1;change L5 at p q f;obtain⟨hp',hq,hf⟩:sz K1 p/\sz K1 q/\sz K1 f:=hp;simp only[Y6];refine⟨trivial, ?_⟩;rintro⟨s,_⟩ _ hs;simp only at hs⊢;refine⟨fun h=>⟨A0c hp' (by decide), ?_⟩,fun _=>⟨⟨A0c hf (by decide),A0c hq (by decide)⟩, ?_⟩⟩
 . rintro⟨r,_⟩ _ hr;simp only at hr⊢;have h:=of_decide_eq_true h;rw[hs]at h;rw[hr,D1w h,Rat.mul_zero,Rat.add_zero]
 . rintro⟨r,_⟩ _ hr;simp only at hr⊢;have hm:=A2n (B2h lf hf (by decide)) (B2h lq hq (by decide));refine⟨⟨A0c hp' (by decide),by rw[hr];exact A2a hm (by decide)⟩, ?_⟩;rintro⟨t,_⟩ _ ht;simp only at ht⊢;rw[ht,hr,U4]
theorem B2c (x:A7 H3.args) (hw:awf H3.args x) (hp:H3.pre x):A1a x:=by
 obtain⟨a,f,b,_⟩:=x;change List Ent at a b;change L5 at f;obtain⟨⟨a1,a2,a3⟩,hf,b1,b2,b3⟩:okV K1 a/\sz K1 f/\okV K1 b:=hp;simp only[A1a];refine⟨a1, ?_⟩;rintro⟨r,_⟩ _ hr;simp only at hr⊢;subst hr;refine⟨b1, ?_⟩;rintro⟨s,_⟩ _ hs;simp only at hs⊢;subst hs;refine⟨fun y=>sz K1 y.1/\sz K1 y.2.1,fun y=>rc (rv y.1+rv f*rv y.2.1), ?_,⟨a3,b3,fun u v hu hv=>⟨G4d a2 hu,G4d b2 hv⟩⟩, ?_⟩
 . rintro⟨u,v,_⟩ _ ⟨hu,hv⟩;exact⟨⟨hu,hv,hf⟩,fun z _ hz=>⟨by trivial,hz⟩⟩
 . rintro⟨r,_⟩ _ hr;simp only at hr⊢;rw[hr];obtain⟨m1,_,m3⟩:=F0q (fun y=>rc (rv y.1+rv f*rv y.2.1)) (fun p q=>p+rv f*q) (by rw[Rat.mul_zero,Rat.add_zero]) _ _ (fun _ _ _ _=>rfl) a1 b1;exact⟨m1,m3⟩
def F3v:An:= {join:= [(4,⟨[0,1,4,5,6],[0],[],[(1,31,[.val .bool, .val (.sl (.int .u32)), .val (.sl (.int .u32))])],[]⟩)],loop:= [(3,⟨[0,1,4,5],[0],[(6,false,[.val (.int .i64)])],[(1,31,[.val .bool, .val (.sl (.int .u32)), .val (.sl (.int .u32))])],[]⟩)],plan:= [(6,[0,5],[7],true,(.q 0 (.p 1 (.p 2 (.p 3 (.p 4 (.q 5 (.e 6 (.e 7 .done)))))))))]}
def E0n:B4:= [(32,A0p),(75,Q7)]
def D8l:An:= {join:= [(7,⟨[5,6,9,10,11],[],[(3,false,[.own (.int .i64) 3])],[],[]⟩)],loop:= [(9,⟨[3,5,6,9,10,11],[1],[(7,false,[.val (.int .i64)])],[],[]⟩),(6,⟨[5,9,10,11],[],[(3,false,[.own (.int .i64) 3]),(6,false,[.val (.int .i64)])],[],[]⟩),(3,⟨[9,10],[],[(3,false,[.own (.int .i64) 3]),(11,false,[.val (.int .i64)])],[],[]⟩)],plan:= [(9,[8,13],[],true,(.p 0 (.p 1 (.p 2 (.p 3 (.p 4 (.p 5 (.p 6 (.p 7 (.q 8 (.p 9 (.p 10 (.p 11 (.p 12 (.q 13 (.p 14 (.p 15 .done))))))))))))))))),(11,[8,13],[],true,(.p 0 (.p 1 (.p 2 (.p 3 (.p 4 (.p 5 (.p 6 (.p 7 (.q 8 (.p 9 (.p 10 (.p 11 (.p 12 (.q 13 (.p 14 (.p 15 .done)))))))))))))))))]}
def B7a:B4:= []
def F1i:An:= {join:= [(8,⟨[0,9,10,11],[],[(3,false,[.own tE 94])],[],[]⟩)],loop:= [(3,⟨[0,9,10],[],[(3,false,[.own tE 94]),(11,false,[.val (.int .i64)])],[],[]⟩)]}
def D4q:B4:= [(29,U8),(120,A0q),(199,R4)]
def C9s:An:= {loop:= [(4,⟨[0,1],[],[(5,false,[.val (.int .i64)])],[],[]⟩)],plan:= [(6,[4,9,16,25,30],[],false,(.p 0 (.p 1 (.p 2 (.p 3 (.q 4 (.p 5 (.p 6 (.p 7 (.p 8 (.q 9 (.p 10 (.p 11 (.p 12 (.p 13 (.p 14 (.p 15 (.q 16 (.e 17 (.p 18 (.p 19 (.p 20 (.p 21 (.p 22 (.p 23 (.p 24 (.q 25 (.p 26 (.p 27 (.p 28 (.p 29 (.q 30 (.e 31 (.p 32 (.p 33 .done)))))))))))))))))))))))))))))))))))]}
def B1f:B4:= [(17,Q5),(102,J7)]
def E8i:An:= {loop:= [(2,⟨[0,1],[],[(5,false,[.val (.int .i64)])],[],[]⟩)],plan:= [(4,[4,11,23,29,38],[],true,(.p 0 (.p 1 (.p 2 (.p 3 (.q 4 (.p 5 (.p 6 (.p 7 (.p 8 (.p 9 (.p 10 (.q 11 (.p 12 (.p 13 (.p 14 (.p 15 (.p 16 (.p 17 (.p 18 (.p 19 (.p 20 (.p 21 (.p 22 (.q 23 (.p 24 (.p 25 (.p 26 (.p 27 (.p 28 (.q 29 (.p 30 (.p 31 (.p 32 (.p 33 (.p 34 (.p 35 (.p 36 (.p 37 (.q 38 (.e 39 (.p 40 (.p 41 .done)))))))))))))))))))))))))))))))))))))))))))]}
def C8o:B4:= [(29,U8)]
def D0j:An:= {loop:= [(3,⟨[0],[],[(3,false,[.own tE 94]),(4,false,[.val (.int .i64)])],[],[]⟩)]}
def B1l:B4:= [(164,Z9)]
def E7y:An:= {loop:= [(5,⟨[0,1,6],[],[(7,false,[.val (.int .i64)])],[],[(0, .row tQ 31)]⟩)]}
def C8v:B4:= [(104,W5),(120,A0q),(164,Z9)]
def F0j:An:= {loop:= [(4,⟨[0,1],[],[(5,false,[.val (.int .i64)])],[],[]⟩)],plan:= [(6,[3,10,18,22],[],false,(.p 0 (.p 1 (.p 2 (.q 3 (.e 4 (.p 5 (.p 6 (.p 7 (.p 8 (.p 9 (.q 10 (.e 11 (.p 12 (.p 13 (.p 14 (.p 15 (.p 16 (.p 17 (.q 18 (.p 19 (.p 20 (.p 21 (.q 22 (.e 23 (.p 24 (.p 25 .done)))))))))))))))))))))))))))]}
def D4c:B4:= [(17,Q5),(102,J7)]
def F4e:An:= {loop:= [(5,⟨[0,1,4,6],[0],[(7,false,[.val (.int .i64)])],[(1,31,[.val .bool, .val (.sl (.int .u32)), .val (.sl (.int .u32))])],[]⟩)],plan:= [(7,[0,4,8],[11],true,(.q 0 (.p 1 (.p 2 (.p 3 (.q 4 (.p 5 (.p 6 (.p 7 (.q 8 (.e 9 (.e 10 (.e 11 .done)))))))))))))]}
def D9w:B4:= [(24,A2f),(32,A0p),(75,Q7)]
def C7y:A7 A0q.args->Prop:=fun(x:List EE×Int×Unit)=>True/\∀(r:QQ×Unit),WfQ r.1/\True->r.1=rc (0:Rat)->∃(I:Int×Bool×List Int×List Int×Unit->Prop),∃(μ:Int×Bool×List Int×List Int×Unit->Nat),I ((0:Int),r.1.1.1,r.1.1.2,r.1.2,())/\∀(p:Int×Bool×List Int×List Int×Unit),D5 p.1/\True/\WfU p.2.2.1/\WfU p.2.2.2.1/\True->I p->(decide (p.1<(x.1.length:Int))=true->∃(J:Bool×List Int×List Int×Unit->Prop),((0<=p.1/\p.1<(x.1.length:Int))/\(decide ((gx dEE x.1 p.1).1=x.2.1)=true->(0<=p.1/\p.1<(x.1.length:Int))/\(sh3 ((p.2.1,p.2.2.1),p.2.2.2.1)/\sh3 (gx dEE x.1 p.1).2)/\∀(r:QQ×Unit),WfQ r.1/\True->r.1=rc (rv ((p.2.1,p.2.2.1),p.2.2.2.1)+rv (gx dEE x.1 p.1).2)->J (r.1.1.1,r.1.1.2,r.1.2,()))/\(decide ((gx dEE x.1 p.1).1=x.2.1)=false->J (p.2.1,p.2.2.1,p.2.2.2.1,())))/\∀(a:Bool×List Int×List Int×Unit),True/\WfU a.2.1/\WfU a.2.2.1/\True->J a->I (IntKind.i64.wrap (p.1+1),a.1,a.2.1,a.2.2.1,())/\μ (IntKind.i64.wrap (p.1+1),a.1,a.2.1,a.2.2.1,())<μ p)/\(decide (p.1<(x.1.length:Int))=false->((p.2.1,p.2.2.1),p.2.2.2.1)=rc (E2 x.1 x.2.1))
theorem E1a (x:A7 A0q.args):H4 Tryz.prog tys E0n F3v A0q Tryz.f120 x=C7y x:=by kernel_rfl
def A7n:A7 R4.args->Prop:=fun(x:List (List EE)×Unit)=>∃(I:List Int×Int×Unit->Prop),∃(μ:List Int×Int×Unit->Nat),I ([],(0:Int),())/\∀(p:List Int×Int×Unit),WfI p.1/\D5 p.2.1/\True->I p->(decide (p.2.1<(x.1.length:Int))=true->(0<=p.2.1/\p.2.1<(x.1.length:Int))/\∃(I_1:List Int×Int×Unit->Prop),∃(μ_1:List Int×Int×Unit->Nat),I_1 (p.1,(0:Int),())/\∀(a:List Int×Int×Unit),WfI a.1/\D5 a.2.1/\True->I_1 a->(decide (a.2.1<(↑(gx [] x.1 p.2.1).length:Int))=true->∃(J:List Int×Unit->Prop),(∃(I:Int×Unit->Prop),∃(μ:Int×Unit->Nat),I ((0:Int),())/\∀(b:Int×Unit),D5 b.1/\True->I b->(decide (b.1<(a.1.length:Int))=true->0<=b.1/\b.1<(a.1.length:Int))/\(decide (b.1<(a.1.length:Int))=true->0<=a.2.1/\a.2.1<(↑(gx [] x.1 p.2.1).length:Int))/\(sel (decide (b.1<(a.1.length:Int))) (decide (List.getD a.1 (Int.toNat b.1) (0:Int)<(gx dEE (gx [] x.1 p.2.1) a.2.1).1)) false=true->I (IntKind.i64.wrap (b.1+1),())/\μ (IntKind.i64.wrap (b.1+1),())<μ b)/\(sel (decide (b.1<(a.1.length:Int))) (decide (List.getD a.1 (Int.toNat b.1) (0:Int)<(gx dEE (gx [] x.1 p.2.1) a.2.1).1)) false=false->(decide (b.1<(a.1.length:Int))=true->0<=b.1/\b.1<(a.1.length:Int))/\(decide (b.1<(a.1.length:Int))=true->0<=a.2.1/\a.2.1<(↑(gx [] x.1 p.2.1).length:Int))/\(sel (decide (b.1<(a.1.length:Int))) (decide (List.getD a.1 (Int.toNat b.1) (0:Int)=(gx dEE (gx [] x.1 p.2.1) a.2.1).1)) false=true->J (a.1,()))/\(sel (decide (b.1<(a.1.length:Int))) (decide (List.getD a.1 (Int.toNat b.1) (0:Int)=(gx dEE (gx [] x.1 p.2.1) a.2.1).1)) false=false->((0:Int)<=(0:Int)/\0<=b.1/\b.1<=(a.1.length:Int))/\(((0:Nat)+(List.drop (Int.toNat (0:Int)) (List.take (Int.toNat b.1) a.1)).length)*(8:Nat)<=(140737488355328:Nat)/\(0:Nat)+(List.drop (Int.toNat (0:Int)) (List.take (Int.toNat b.1) a.1)).length<=9223372036854775807)/\(0<=a.2.1/\a.2.1<(↑(gx [] x.1 p.2.1).length:Int))/\(((List.drop (Int.toNat (0:Int)) (List.take (Int.toNat b.1) a.1)).length+ [(gx dEE (gx [] x.1 p.2.1) a.2.1).1].length)*(8:Nat)<=(140737488355328:Nat)/\(List.drop (Int.toNat (0:Int)) (List.take (Int.toNat b.1) a.1)).length+ [(gx dEE (gx [] x.1 p.2.1) a.2.1).1].length<=9223372036854775807)/\(0<=b.1/\b.1<=(a.1.length:Int)/\(a.1.length:Int)<=(a.1.length:Int))/\(((List.drop (Int.toNat (0:Int)) (List.take (Int.toNat b.1) a.1)++ [(gx dEE (gx [] x.1 p.2.1) a.2.1).1]).length+(List.drop (Int.toNat b.1) (List.take (a.1.length:Int).toNat a.1)).length)*(8:Nat)<=(140737488355328:Nat)/\(List.drop (Int.toNat (0:Int)) (List.take (Int.toNat b.1) a.1)++ [(gx dEE (gx [] x.1 p.2.1) a.2.1).1]).length+(List.drop (Int.toNat b.1) (List.take (a.1.length:Int).toNat a.1)).length<=9223372036854775807)/\J (List.drop (Int.toNat (0:Int)) (List.take (Int.toNat b.1) a.1)++ [(gx dEE (gx [] x.1 p.2.1) a.2.1).1]++List.drop (Int.toNat b.1) (List.take (a.1.length:Int).toNat a.1),()))))/\∀(p:List Int×Unit),WfI p.1/\True->J p->I_1 (p.1,IntKind.i64.wrap (a.2.1+1),())/\μ_1 (p.1,IntKind.i64.wrap (a.2.1+1),())<μ_1 a)/\(decide (a.2.1<(↑(gx [] x.1 p.2.1).length:Int))=false->I (a.1,IntKind.i64.wrap (p.2.1+1),())/\μ (a.1,IntKind.i64.wrap (p.2.1+1),())<μ p))/\(decide (p.2.1<(x.1.length:Int))=false->List.Pairwise (fun(x1 x2:Int)=>x1<x2) p.1/\∀(i:Int),i∈p.1↔∃(v:List EE),v∈x.1/\∃(e:EE),e∈v/\e.1=i)
theorem C8j (x:A7 R4.args):H4 Tryz.prog tys B7a D8l R4 Tryz.f199 x=A7n x:=by kernel_rfl
def B8l:A7 Z9.args->Prop:=fun(x:List EE×Unit)=>([x.1].length<=(4:Nat)/\∀(v:List EE),v∈ [x.1]->v.length<=(100000:Nat))/\∀(r:List Int×Unit),WfI r.1/\True->(List.Pairwise (fun(x1 x2:Int)=>x1<x2) r.1/\∀(i:Int),i∈r.1↔∃(v:List EE),v∈ [x.1]/\∃(e:EE),e∈v/\e.1=i)->∃(I:List EE×Int×Unit->Prop),∃(μ:List EE×Int×Unit->Nat),I ([],(0:Int),())/\∀(p:List EE×Int×Unit),C1l p.1/\D5 p.2.1/\True->I p->(decide (p.2.1<(r.1.length:Int))=true->∃(J:List EE×Unit->Prop),((0<=p.2.1/\p.2.1<(r.1.length:Int))/\okV K1 x.1/\∀(a:QQ×Unit),WfQ a.1/\True->a.1=rc (E2 x.1 (gx (0:Int) r.1 p.2.1))->sh3 a.1/\∀(b:Int×Unit),D5 b.1/\True->b.1=(rv a.1).num.sign->(decide (b.1≠0)=true->((List.length p.1+ [(gx (0:Int) r.1 p.2.1,a.1)].length)*(64:Nat)<=(140737488355328:Nat)/\List.length p.1+ [(gx (0:Int) r.1 p.2.1,a.1)].length<=9223372036854775807)/\J (p.1++ [(gx (0:Int) r.1 p.2.1,a.1)],()))/\(decide (b.1≠0)=false->J (p.1,())))/\∀(c:List EE×Unit),C1l c.1/\True->J c->I (c.1,IntKind.i64.wrap (p.2.1+1),())/\μ (c.1,IntKind.i64.wrap (p.2.1+1),())<μ p)/\(decide (p.2.1<(r.1.length:Int))=false->C8p p.1/\∀(i:Int),E2 p.1 i=E2 x.1 i)
theorem D8f (x:A7 Z9.args):H4 Tryz.prog tys D4q F1i Z9 Tryz.f164 x=B8l x:=by kernel_rfl
def A4p:A7 N8.args->Prop:=fun(x:List EE×List EE×Unit)=>(decide ((x.1.length:Int)≠(x.2.1.length:Int))=true->false=decide (x.1=x.2.1/\∀(e:EE),e∈x.1->e.2=rc (rv e.2)))/\(decide ((x.1.length:Int)≠(x.2.1.length:Int))=false->∃(I:Int×Unit->Prop),∃(μ:Int×Unit->Nat),I ((0:Int),())/\∀(p:Int×Unit),D5 p.1/\True->I p->(decide (p.1<(x.1.length:Int))=true->(0<=p.1/\p.1<(x.1.length:Int))/\(0<=p.1/\p.1<(x.2.1.length:Int))/\(decide ((gx dEE x.1 p.1).1≠(gx dEE x.2.1 p.1).1)=false->0<=p.1/\p.1<(x.1.length:Int))/\(decide ((gx dEE x.1 p.1).1≠(gx dEE x.2.1 p.1).1)=false->sh3 (gx dEE x.1 p.1).2)/\∀(r:Bool×Unit),(decide ((gx dEE x.1 p.1).1≠(gx dEE x.2.1 p.1).1)=false->(True/\True)/\r.1=decide ((gx dEE x.1 p.1).2=rc (rv (gx dEE x.1 p.1).2)))->((sel (decide ((gx dEE x.1 p.1).1≠(gx dEE x.2.1 p.1).1)) true !r.1)=false->0<=p.1/\p.1<(x.1.length:Int))/\((sel (decide ((gx dEE x.1 p.1).1≠(gx dEE x.2.1 p.1).1)) true !r.1)=false->0<=p.1/\p.1<(x.2.1.length:Int))/\((sel (decide ((gx dEE x.1 p.1).1≠(gx dEE x.2.1 p.1).1)) true !r.1)=false->True)/\∀(a:Bool×Unit),((sel (decide ((gx dEE x.1 p.1).1≠(gx dEE x.2.1 p.1).1)) true !r.1)=false->(True/\True)/\a.1=decide ((gx dEE x.1 p.1).2=(gx dEE x.2.1 p.1).2))->((sel (sel (decide ((gx dEE x.1 p.1).1≠(gx dEE x.2.1 p.1).1)) true !r.1) true !a.1)=true->false=decide (x.1=x.2.1/\∀(e:EE),e∈x.1->e.2=rc (rv e.2)))/\((sel (sel (decide ((gx dEE x.1 p.1).1≠(gx dEE x.2.1 p.1).1)) true !r.1) true !a.1)=false->I (IntKind.i64.wrap (p.1+1),())/\μ (IntKind.i64.wrap (p.1+1),())<μ p))/\(decide (p.1<(x.1.length:Int))=false->true=decide (x.1=x.2.1/\∀(e:EE),e∈x.1->e.2=rc (rv e.2))))
theorem B8q (x:A7 N8.args):H4 Tryz.prog tys B1f C9s N8 Tryz.f126 x=A4p x:=by kernel_rfl
def B4l:A7 W5.args->Prop:=fun(x:List EE×Int×Unit)=>∃(I:Int×Unit->Prop),∃(μ:Int×Unit->Nat),I ((0:Int),())/\∀(p:Int×Unit),D5 p.1/\True->I p->(decide (p.1<(x.1.length:Int))=true->(0<=p.1/\p.1<(x.1.length:Int))/\(decide ((gx dEE x.1 p.1).1<(0:Int))=false->0<=p.1/\p.1<(x.1.length:Int))/\(decide (0<p.1)=true/\sel (decide ((gx dEE x.1 p.1).1<(0:Int))) true (decide (x.2.1<=(gx dEE x.1 p.1).1))=false->0<=p.1/\p.1<(x.1.length:Int))/\(decide (0<p.1)=true/\sel (decide ((gx dEE x.1 p.1).1<(0:Int))) true (decide (x.2.1<=(gx dEE x.1 p.1).1))=false->(0:Int)<=IntKind.i64.wrap (p.1-1)/\IntKind.i64.wrap (p.1-1)<(x.1.length:Int))/\(sel (sel (decide ((gx dEE x.1 p.1).1<(0:Int))) true (decide (x.2.1<=(gx dEE x.1 p.1).1))) true (sel (decide (0<p.1)) (decide ((gx dEE x.1 p.1).1<=(gx dEE x.1 (IntKind.i64.wrap (p.1-1))).1)) false)=false->0<=p.1/\p.1<(x.1.length:Int))/\(sel (sel (decide ((gx dEE x.1 p.1).1<(0:Int))) true (decide (x.2.1<=(gx dEE x.1 p.1).1))) true (sel (decide (0<p.1)) (decide ((gx dEE x.1 p.1).1<=(gx dEE x.1 (IntKind.i64.wrap (p.1-1))).1)) false)=false->sh3 (gx dEE x.1 p.1).2)/\∀(r:Int×Unit),(sel (sel (decide ((gx dEE x.1 p.1).1<(0:Int))) true (decide (x.2.1<=(gx dEE x.1 p.1).1))) true (sel (decide (0<p.1)) (decide ((gx dEE x.1 p.1).1<=(gx dEE x.1 (IntKind.i64.wrap (p.1-1))).1)) false)=false->(D5 r.1/\True)/\r.1=(rv (gx dEE x.1 p.1).2).num.sign)->(sel (sel (sel (decide ((gx dEE x.1 p.1).1<(0:Int))) true (decide (x.2.1<=(gx dEE x.1 p.1).1))) true (sel (decide (0<p.1)) (decide ((gx dEE x.1 p.1).1<=(gx dEE x.1 (IntKind.i64.wrap (p.1-1))).1)) false)) true (decide (r.1=0))=true->false=decide (J4 x.1 x.2.1))/\(sel (sel (sel (decide ((gx dEE x.1 p.1).1<(0:Int))) true (decide (x.2.1<=(gx dEE x.1 p.1).1))) true (sel (decide (0<p.1)) (decide ((gx dEE x.1 p.1).1<=(gx dEE x.1 (IntKind.i64.wrap (p.1-1))).1)) false)) true (decide (r.1=0))=false->I (IntKind.i64.wrap (p.1+1),())/\μ (IntKind.i64.wrap (p.1+1),())<μ p))/\(decide (p.1<(x.1.length:Int))=false->true=decide (J4 x.1 x.2.1))
theorem D4n (x:A7 W5.args):H4 Tryz.prog tys C8o E8i W5 Tryz.f104 x=B4l x:=by kernel_rfl
def A4r:A7 N9.args->Prop:=fun(x:List QQ×Unit)=>∃(I:List EE×Int×Unit->Prop),∃(μ:List EE×Int×Unit->Nat),I ([],(0:Int),())/\∀(p:List EE×Int×Unit),C1l p.1/\D5 p.2.1/\True->I p->(decide (p.2.1<(x.1.length:Int))=true->(0<=p.2.1/\p.2.1<(x.1.length:Int))/\((List.length p.1+ [(p.2.1,gx dQ x.1 p.2.1)].length)*(64:Nat)<=(140737488355328:Nat)/\List.length p.1+ [(p.2.1,gx dQ x.1 p.2.1)].length<=9223372036854775807)/\I (p.1++ [(p.2.1,gx dQ x.1 p.2.1)],IntKind.i64.wrap (p.2.1+1),())/\μ (p.1++ [(p.2.1,gx dQ x.1 p.2.1)],IntKind.i64.wrap (p.2.1+1),())<μ p)/\(decide (p.2.1<(x.1.length:Int))=false->okV K1 p.1/\∀(r:List EE×Unit),C1l r.1/\True->isC (E2 p.1) r.1->C8p r.1/\(∀(e:Ent),e∈r.1->0<=e.1/\e.1<(↑x.1.length:Int))/\∀(j:Nat),j<x.1.length->E2 r.1 (↑j:Int)=rv (x.1.getD j zr))
theorem B9y (x:A7 N9.args):H4 Tryz.prog tys B1l D0j N9 Tryz.f105 x=A4r x:=by kernel_rfl
def B3x:A7 Y5.args->Prop:=fun(x:List EE×Int×Unit)=>(sel (decide (x.2.1<0)) true (decide (16384<x.2.1))=false->okV K1 x.1)/\∀(r:List EE×Unit),(sel (decide (x.2.1<0)) true (decide (16384<x.2.1))=false->(C1l r.1/\True)/\isC (E2 x.1) r.1)->(sel (decide (x.2.1<0)) true (decide (16384<x.2.1))=false->szV K1 r.1)/\∀(a:Bool×Unit),(sel (decide (x.2.1<0)) true (decide (16384<x.2.1))=false->(True/\True)/\a.1=decide (J4 r.1 x.2.1))->((sel (sel (decide (x.2.1<0)) true (decide (16384<x.2.1))) true !a.1)=true->B0o QQ=dl x.2.1 (E2 x.1)/\false=true)/\((sel (sel (decide (x.2.1<0)) true (decide (16384<x.2.1))) true !a.1)=false->(0<=x.2.1/\x.2.1<=x.2.1/\(↑(56:Nat):Int)*x.2.1<=281474976710656/\x.2.1<=9223372036854775807)/\∃(I:Int×List QQ×Unit->Prop),∃(μ:Int×List QQ×Unit->Nat),I ((0:Int),List.replicate (Int.toNat x.2.1) dQ,())/\∀(p:Int×List QQ×Unit),D5 p.1/\WfL p.2.1/\True->I p->(decide (p.1<x.2.1)=true->okV K1 x.1/\∀(r:QQ×Unit),WfQ r.1/\True->r.1=rc (E2 x.1 p.1)->(0<=p.1/\p.1<(p.2.1.length:Int))/\I (IntKind.i64.wrap (p.1+1),List.set p.2.1 (Int.toNat p.1) r.1,())/\μ (IntKind.i64.wrap (p.1+1),List.set p.2.1 (Int.toNat p.1) r.1,())<μ p)/\(decide (p.1<x.2.1)=false->p.2.1=dl x.2.1 (E2 x.1)/\true=true))
theorem D4p (x:A7 Y5.args):H4 Tryz.prog tys C8v E7y Y5 Tryz.f131 x=B3x x:=by kernel_rfl
def B9s:A7 A1k.args->Prop:=fun(x:List QQ×List QQ×Unit)=>(decide ((x.1.length:Int)≠(x.2.1.length:Int))=true->false=decide (x.1=x.2.1/\∀(e:QQ),e∈x.1->e=rc (rv e)))/\(decide ((x.1.length:Int)≠(x.2.1.length:Int))=false->∃(I:Int×Unit->Prop),∃(μ:Int×Unit->Nat),I ((0:Int),())/\∀(p:Int×Unit),D5 p.1/\True->I p->(decide (p.1<(x.1.length:Int))=true->(0<=p.1/\p.1<(x.1.length:Int))/\sh3 (gx dQ x.1 p.1)/\∀(r:Bool×Unit),True/\True->r.1=decide (gx dQ x.1 p.1=rc (rv (gx dQ x.1 p.1)))->((!r.1)=false->0<=p.1/\p.1<(x.2.1.length:Int))/\((!r.1)=false->sh3 (gx dQ x.2.1 p.1))/\∀(a:Bool×Unit),((!r.1)=false->(True/\True)/\a.1=decide (gx dQ x.2.1 p.1=rc (rv (gx dQ x.2.1 p.1))))->((sel (!r.1) true !a.1)=false->0<=p.1/\p.1<(x.1.length:Int))/\((sel (!r.1) true !a.1)=false->0<=p.1/\p.1<(x.2.1.length:Int))/\((sel (!r.1) true !a.1)=false->True)/\∀(b:Bool×Unit),((sel (!r.1) true !a.1)=false->(True/\True)/\b.1=decide (gx dQ x.1 p.1=gx dQ x.2.1 p.1))->((sel (sel (!r.1) true !a.1) true !b.1)=true->false=decide (x.1=x.2.1/\∀(e:QQ),e∈x.1->e=rc (rv e)))/\((sel (sel (!r.1) true !a.1) true !b.1)=false->I (IntKind.i64.wrap (p.1+1),())/\μ (IntKind.i64.wrap (p.1+1),())<μ p))/\(decide (p.1<(x.1.length:Int))=false->true=decide (x.1=x.2.1/\∀(e:QQ),e∈x.1->e=rc (rv e))))
theorem D8d (x:A7 A1k.args):H4 Tryz.prog tys D4c F0j A1k Tryz.f38 x=B9s x:=by kernel_rfl
def C7w:A7 A4e.args->Prop:=fun(x:List QQ×List QQ×Unit)=>(decide ((x.1.length:Int)≠(x.2.1.length:Int))=true->x.1.length=x.2.1.length->dQ=rc (Y8 x.1.length fun(i:Nat)=>rv (x.1.getD i zr)*rv (x.2.1.getD i zr))/\false=true)/\(decide ((x.1.length:Int)≠(x.2.1.length:Int))=false->True/\∀(r:QQ×Unit),WfQ r.1/\True->r.1=rc (0:Rat)->∃(I:Int×Bool×List Int×List Int×Unit->Prop),∃(μ:Int×Bool×List Int×List Int×Unit->Nat),I ((0:Int),r.1.1.1,r.1.1.2,r.1.2,())/\∀(p:Int×Bool×List Int×List Int×Unit),D5 p.1/\True/\WfU p.2.2.1/\WfU p.2.2.2.1/\True->I p->(decide (p.1<(x.1.length:Int))=true->(0<=p.1/\p.1<(x.1.length:Int))/\(0<=p.1/\p.1<(x.2.1.length:Int))/\(sh3 (gx dQ x.1 p.1)/\sh3 (gx dQ x.2.1 p.1))/\∀(r:QQ×Unit),WfQ r.1/\True->r.1=rc (rv (gx dQ x.1 p.1)*rv (gx dQ x.2.1 p.1))->(sh3 ((p.2.1,p.2.2.1),p.2.2.2.1)/\sh3 r.1)/\∀(a:QQ×Unit),WfQ a.1/\True->a.1=rc (rv ((p.2.1,p.2.2.1),p.2.2.2.1)+rv r.1)->I (IntKind.i64.wrap (p.1+1),a.1.1.1,a.1.1.2,a.1.2,())/\μ (IntKind.i64.wrap (p.1+1),a.1.1.1,a.1.1.2,a.1.2,())<μ p)/\(decide (p.1<(x.1.length:Int))=false->x.1.length=x.2.1.length->((p.2.1,p.2.2.1),p.2.2.2.1)=rc (Y8 x.1.length fun(i:Nat)=>rv (x.1.getD i zr)*rv (x.2.1.getD i zr))/\true=true))
theorem E2i (x:A7 A4e.args):H4 Tryz.prog tys D9w F4e A4e Tryz.f101 x=C7w x:=by kernel_rfl
theorem E0y {l:List Int} {v:Int} {a:Nat} (hs:l.Pairwise (· < ·)) (h1:∀y∈l.take a,y<v) (h2:∀y,l[a]? =some y->v<y):(l.take a++ [v]++l.drop a).Pairwise (· < ·):=by
 have hd:∀y∈l.drop a,v<y:=fun y hy=>by
  rw[<-List.take_append_drop a l,List.pairwise_append]at hs;cases hc:l.drop a with
  |nil=>rw[hc]at hy;cases hy
  |cons z r=>
   have hz:v<z:=h2 z (by rw[<-List.head?_drop,hc];rfl);rw[hc]at hy;rcases List.mem_cons.1 hy with rfl|hy
   . exact hz
   . have:=hs.2.1;rw[hc,List.pairwise_cons]at this;have:=this.1 y hy;omega
 rw[List.pairwise_append,List.pairwise_append];refine⟨⟨hs.take,List.pairwise_singleton _ _,fun y hy z hz=> ?_⟩,hs.drop,fun y hy z hz=> ?_⟩
 . rw[List.mem_singleton.1 hz];exact h1 y hy
 . rcases List.mem_append.1 hy with hy|hy
   . have:=h1 y hy;have:=hd z hz;omega
   . rw[List.mem_singleton.1 hy];exact hd z hz
theorem C4r (x:A7 R4.args) (hw:awf R4.args x) (hp:R4.pre x):A7n x:=by
 obtain⟨ls,_⟩:=x;change List (List (Int×(Bool×List Int)×List Int))at ls;obtain⟨hl,hv⟩:ls.length<=4/\∀v∈ls,v.length<=100000:=hp;simp only[A7n];refine⟨fun p=>0<=p.2.1/\p.2.1<=(ls.length:Int)/\p.1.length<=100000*p.2.1.toNat/\p.1.Pairwise (· < ·)/\∀i,i∈p.1↔∃v∈ls.take p.2.1.toNat,∃e∈v,e.1=i,fun p=>((ls.length:Int)-p.2.1).toNat,⟨Int.le_refl _,Int.natCast_nonneg _,by simp,List.Pairwise.nil,fun i=>by simp⟩, ?_⟩;rintro⟨out,j,_⟩ _ ⟨h0,h1,h2,h3,h4⟩;change Int at j;change List Int at out;simp only at h0 h1 h2 h3 h4⊢;refine⟨fun h=> ?_,fun h=> ?_⟩
 . have h:=of_decide_eq_true h;have hvl:=hv _ (L3 (d:=([]:List (Int×(Bool×List Int)×List Int))) h0 h);have hts:ls.take (j+1).toNat=ls.take j.toNat++ [gx [] ls j]:=by
    rw[show(j+1).toNat=j.toNat+1 from by omega,List.take_add_one,K5 (d:=([]:List (Int×(Bool×List Int)×List Int))) h0 h];rfl
   generalize gx ([]:List (Int×(Bool×List Int)×List Int)) ls j=v at*;refine⟨⟨h0,h⟩,fun p=>0<=p.2.1/\p.2.1<=(v.length:Int)/\p.1.length<=100000*j.toNat+p.2.1.toNat/\p.1.Pairwise (· < ·)/\∀i,i∈p.1↔(∃v∈ls.take j.toNat,∃e∈v,e.1=i)\/∃e∈v.take p.2.1.toNat,e.1=i,fun p=>((v.length:Int)-p.2.1).toNat,⟨Int.le_refl _,Int.natCast_nonneg _,by simpa using h2,h3,fun i=>by rw[h4];simp⟩, ?_⟩;rintro⟨o,k,_⟩ _ ⟨g0,g1,g2,g3,g4⟩;change Int at k;change List Int at o;simp only at g0 g1 g2 g3 g4⊢;refine⟨fun hk=> ?_,fun hk=> ?_⟩
   . have hk:=of_decide_eq_true hk;have hvs:v.take (k+1).toNat=v.take k.toNat++ [gx dEE v k]:=by
      rw[show(k+1).toNat=k.toNat+1 from by omega,List.take_add_one,K5 (d:=dEE) g0 hk];rfl
     have hmem:∀i,((∃v∈ls.take j.toNat,∃e∈v,e.1=i)\/∃e∈v.take (k+1).toNat,e.1=i)↔(i∈o\/(gx dEE v k).1=i):=fun i=>by
      rw[g4 i,hvs];constructor
      . rintro(h| ⟨e,he,rfl⟩)
        . exact .inl (.inl h)
        . rcases List.mem_append.1 he with he|he
          . exact .inl (.inr ⟨e,he,rfl⟩)
          . rw[List.mem_singleton.1 he];exact .inr rfl
      . rintro((h| ⟨e,he,rfl⟩) |rfl)
        . exact .inl h
        . exact .inr ⟨e,List.mem_append.2 (.inl he),rfl⟩
        . exact .inr ⟨_,List.mem_append.2 (.inr (by simp)),rfl⟩
     generalize gx dEE v k=e at*;refine⟨fun p=>p.1.length<=100000*j.toNat+k.toNat+1/\p.1.Pairwise (· < ·)/\∀i,i∈p.1↔(∃v∈ls.take j.toNat,∃e∈v,e.1=i)\/∃e∈v.take (k+1).toNat,e.1=i, ?_, ?_⟩
     . refine⟨fun p=>0<=p.1/\p.1<=(o.length:Int)/\∀y∈o.take p.1.toNat,y<e.1,fun p=>((o.length:Int)-p.1).toNat,⟨Int.le_refl _,Int.natCast_nonneg _,by simp⟩, ?_⟩;rintro⟨a,_⟩ _ ⟨a0,a1,a2⟩;change Int at a;simp only at a0 a1 a2⊢;refine⟨fun ha=>⟨a0,of_decide_eq_true ha⟩,fun _=>⟨g0,hk⟩,fun ha=> ?_,fun ha=>⟨fun ha=>⟨a0,of_decide_eq_true ha⟩,fun _=>⟨g0,hk⟩,fun hb=> ?_,fun hb=> ?_⟩⟩
       . rw[S9]at ha;simp only[Bool.and_eq_true,decide_eq_true_eq]at ha;rw[wr (by omega) (by omega)];refine⟨⟨by omega,by omega,A2r (d:=(0:Int)) a0 ha.1 a2 ?_⟩,by omega⟩;rw[W9 a0 ha.1];exact ha.2
       . rw[S9]at hb;simp only[Bool.and_eq_true,decide_eq_true_eq]at hb;refine⟨by show o.length<= _;omega,g3,fun i=> ?_⟩;rw[hmem i];constructor
         . exact .inl
         . rintro(hi|rfl)
           . exact hi
           . have:=L3 (d:=(0:Int)) a0 hb.1;rw[W9 a0 hb.1,hb.2]at this;exact this
       . rw[S9]at ha hb;simp only[Bool.and_eq_false_iff,decide_eq_false_iff_not]at ha hb;have e1:(o.take a.toNat).drop (Int.toNat 0)=o.take a.toNat:=rfl;have e2:o.take ((o.length:Int)).toNat=o:=by rw[Int.toNat_natCast,List.take_length]
         rw[e1,e2];have l1:(o.take a.toNat).length<=o.length:=by rw[List.length_take];omega
         have l2:(o.drop a.toNat).length<=o.length:=by rw[List.length_drop];omega
         have l3:(o.take a.toNat++ [e.1]++o.drop a.toNat).length=o.length+1:=by
          simp only[List.length_append,List.length_take,List.length_drop,List.length_singleton];omega
         refine⟨⟨Int.le_refl _,a0,a1⟩,⟨by omega,by omega⟩,⟨g0,hk⟩,⟨by simp only[List.length_singleton];omega,by simp only[List.length_singleton];omega⟩,⟨a0,a1,Int.le_refl _⟩,⟨?_, ?_⟩,⟨by show(o.take a.toNat++ [e.1]++o.drop a.toNat).length<= _;omega, ?_,fun i=> ?_⟩⟩
         . simp only[List.length_append,List.length_singleton];omega
         . simp only[List.length_append,List.length_singleton];omega
         . refine E0y g3 a2 fun y hy=> ?_
           have hlt:a.toNat<o.length:=by
            rcases Nat.lt_or_ge a.toNat o.length with h|h
            . exact h
            . rw[List.getElem?_eq_none h]at hy;cases hy
           have hy2:o.getD a.toNat 0=y:=by rw[List.getD_eq_getElem?_getD,hy];rfl
           rw[hy2]at ha hb;omega
         . rw[hmem i];simp only[List.mem_append,List.mem_singleton];have hsplit:i∈o↔i∈o.take a.toNat\/i∈o.drop a.toNat:=by
            conv=>lhs;rw[<-List.take_append_drop a.toNat o]
            exact List.mem_append
           rw[hsplit];constructor
           . rintro((h|h) |h)
             . exact .inl (.inl h)
             . exact .inr h.symm
             . exact .inl (.inr h)
           . rintro((h|h) |h)
             . exact .inl (.inl h)
             . exact .inr h
             . exact .inl (.inr h.symm)
     . rintro⟨o2,_⟩ _ ⟨k1,k2,k3⟩;simp only at k1 k2 k3⊢;rw[wr (by omega) (by omega)];exact⟨⟨by omega,by omega,by omega,k2,k3⟩,by omega⟩
   . have hk:=of_decide_eq_false hk;rw[wr (by omega) (by omega)];rw[D7 (l:=v) (i:=k) (by omega)]at g4;refine⟨⟨by omega,by omega,by omega,g3,fun i=> ?_⟩,by omega⟩;rw[g4 i,hts];simp only[List.mem_append,List.mem_singleton];constructor
     . rintro(⟨w,h1,h2⟩ |h)
       . exact⟨w, .inl h1,h2⟩
       . exact⟨v, .inr rfl,h⟩
     . rintro⟨w,h1|rfl,h2⟩
       . exact .inl ⟨w,h1,h2⟩
       . exact .inr h2
 . have h:=of_decide_eq_false h;rw[D7 (by omega)]at h4;exact⟨h3,h4⟩
theorem B8c (x:A7 N8.args) (hw:awf N8.args x) (hp:N8.pre x):A4p x:=by
 obtain⟨a,b,_⟩:=x;have hl:a.length<=9223372036854775807:=hw.1.1;change List (Int×(Bool×List Int)×List Int)at a b;have hwh:∀e∈a,sh3 e.2:=fun e he=>A0c ((show szV K1 a from hp) e he) (by decide)
 simp only[A4p];refine⟨fun h=> ?_,fun h=> ?_⟩
 . have h:=of_decide_eq_true h;exact(decide_eq_false fun e=>h (by rw[e.1])).symm
 . have hlen:a.length=b.length:=by have:=of_decide_eq_false h;omega
   refine⟨fun p=>0<=p.1/\p.1<=(a.length:Int)/\a.take p.1.toNat=b.take p.1.toNat/\∀e∈a.take p.1.toNat,e.2=rc (rv e.2),fun p=>((a.length:Int)-p.1).toNat,⟨Int.le_refl _,Int.natCast_nonneg _,by simp,by simp⟩, ?_⟩;rintro⟨i,_⟩ _ ⟨h0,h1,h2,h3⟩;change Int at i;simp only at h0 h1 h2 h3⊢;refine⟨fun h=> ?_,fun h=> ?_⟩
   . have h:=of_decide_eq_true h;have ma:=L3 (d:=dEE) h0 h;have ga:=K5 (d:=dEE) h0 h;have gb:=K5 (d:=dEE) (l:=b) h0 (by omega);have hta:a.take (i+1).toNat=a.take i.toNat++ [gx dEE a i]:=by
      rw[show(i+1).toNat=i.toNat+1 from by omega,List.take_add_one,ga];rfl
     have htb:b.take (i+1).toNat=b.take i.toNat++ [gx dEE b i]:=by
      rw[show(i+1).toNat=i.toNat+1 from by omega,List.take_add_one,gb];rfl
     generalize gx dEE a i=e at*;generalize gx dEE b i=f at*;obtain⟨ei,ev⟩:=e;obtain⟨fi,fv⟩:=f;simp only at ma ga gb hta htb⊢;refine⟨⟨h0,h⟩,⟨h0,by omega⟩,fun _=>⟨h0,h⟩,fun _=>hwh _ ma, ?_⟩;rintro⟨r,_⟩ hr;refine⟨fun _=>⟨h0,h⟩,fun _=>⟨h0,by omega⟩,fun _=>trivial, ?_⟩;rintro⟨s,_⟩ hs;change Bool at r s;simp only at hr hs⊢;rw[Q0]at hs;rw[Q0,Q0];have key:(decide (ei≠fi) || !r|| !s)=false↔ei=fi/\ev=rc (rv ev)/\ev=fv:=by
      by_cases hi:ei=fi
      . have hr:=(hr (by simp[hi])).2;by_cases hc:ev=rc (rv ev)
        . have hr:r=true:=by rw[hr];exact decide_eq_true hc
          have hs:=(hs (by simp[hi,hr])).2;rw[hs,hr];simp[hi, <-hc]
        . have hr:r=false:=by rw[hr];exact decide_eq_false hc
          rw[hr];simp[hc]
      . simp[hi]
     refine⟨fun hb=> ?_,fun hb=> ?_⟩
     . refine(decide_eq_false fun hall=> ?_).symm;obtain⟨hab,hcan⟩:=hall;subst hab;rw[ga]at gb;have gb:=Option.some.inj gb;rw[Prod.mk.injEq]at gb;have:=key.2 ⟨gb.1,hcan _ ma,gb.2⟩;rw[this]at hb;cases hb
     . obtain⟨k1,k2,k3⟩:=key.1 hb;rw[wr (by omega) (by omega)];refine⟨⟨by omega,by omega, ?_, ?_⟩,by omega⟩
       . rw[hta,htb,h2,k1,k3]
       . rw[hta];intro y hy;rcases List.mem_append.1 hy with hy|hy
         . exact h3 y hy
         . rw[List.mem_singleton.1 hy];exact k2
   . have h:=of_decide_eq_false h;rw[D7 (by omega),D7 (by omega)]at h2;rw[D7 (by omega)]at h3;exact(decide_eq_true ⟨h2,h3⟩).symm
theorem B3l {l:List Ent} {e:Ent} :asc (l++ [e])↔asc l/\∀x∈l,x.1<e.1:=by
 unfold asc;rw[List.pairwise_append];simp
theorem D1m (x:A7 W5.args) (hw:awf W5.args x) (hp:W5.pre x):B4l x:=by
 obtain⟨v,n,_⟩:=x;have hl:v.length<=9223372036854775807:=hw.1.1;change List (Int×(Bool×List Int)×List Int)at v;change Int at n;have hwh:∀e∈v,sh3 e.2:=fun e he=>A0c ((show szV K1 v from hp) e he) (by decide)
 simp only[B4l];refine⟨fun p=>0<=p.1/\p.1<=(v.length:Int)/\J4 (v.take p.1.toNat) n,fun p=>((v.length:Int)-p.1).toNat,⟨Int.le_refl _,Int.natCast_nonneg _,List.Pairwise.nil,by simp⟩, ?_⟩;rintro⟨i,_⟩ _ ⟨h0,h1,h2,h3⟩;change Int at i;simp only at h0 h1 h2 h3⊢;refine⟨fun h=> ?_,fun h=> ?_⟩
 . have h:=of_decide_eq_true h;have ma:=L3 (d:=dEE) h0 h;have ga:=K5 (d:=dEE) h0 h;have hta:v.take (i+1).toNat=v.take i.toNat++ [gx dEE v i]:=by
    rw[show(i+1).toNat=i.toNat+1 from by omega,List.take_add_one,ga];rfl
   have hprev:0<i->((∀x∈v.take i.toNat,x.1<(gx dEE v i).1)↔¬(gx dEE v i).1<=(gx dEE v (IntKind.i64.wrap (i-1))).1):=fun hi=>by
    rw[wr (by omega) (by omega)];have gp:=K5 (d:=dEE) (l:=v) (i:=i-1) (by omega) (by omega);have htp:v.take i.toNat=v.take (i-1).toNat++ [gx dEE v (i-1)]:=by
     rw[show i.toNat=(i-1).toNat+1 from by omega,List.take_add_one,gp];rfl
    rw[htp]at h2⊢;constructor
    . intro hh;have:=hh (gx dEE v (i-1)) (by simp);omega
    . intro hh x hx;rcases List.mem_append.1 hx with hx|hx
      . have:=(B3l.1 h2).2 x hx;omega
      . rw[List.mem_singleton.1 hx];omega
   have hwr:0<i->IntKind.i64.wrap (i-1)=i-1:=fun _=>wr (by omega) (by omega)
   generalize gx dEE v (IntKind.i64.wrap (i-1))=f at*;generalize gx dEE v i=e at*;refine⟨⟨h0,h⟩,fun _=>⟨h0,h⟩,fun _=>⟨h0,h⟩,fun hh=> ?_,fun _=>⟨h0,h⟩,fun _=>hwh _ ma, ?_⟩
   . have hi:=of_decide_eq_true hh.1;rw[hwr hi];exact⟨by omega,by omega⟩
   rintro⟨r,_⟩ hr;change Int at r;simp only at hr⊢;rw[Q0,S9,Q0]at hr;rw[Q0,S9,Q0,Q0];have key:(decide (e.1<0) ||decide (n<=e.1) || (decide (0<i)&&decide (e.1<=f.1)) ||decide (r=0))=false↔0<=e.1/\e.1<n/\(∀x∈v.take i.toNat,x.1<e.1)/\rv e.2≠0:=by
    have hpv:(∀x∈v.take i.toNat,x.1<e.1)↔(decide (0<i)&&decide (e.1<=f.1))=false:=by
     by_cases hi:0<i
     . rw[hprev hi];simp[hi]
     . have:i.toNat=0:=by omega
       rw[this];simp[hi]
    rw[hpv];by_cases hA:(decide (e.1<0) ||decide (n<=e.1) || (decide (0<i)&&decide (e.1<=f.1)))=false
    . have hr:=(hr hA).2;rw[hA,hr];simp only[Bool.or_eq_false_iff,decide_eq_false_iff_not]at hA;obtain⟨⟨q1,q2⟩,q3⟩:=hA;rw[q3];simp only[Bool.or_false,Bool.false_or,decide_eq_false_iff_not];exact⟨fun h=>⟨by omega,by omega,by trivial,fun h0=>h (by rw[h0];rfl)⟩,fun h h0=>h.2.2.2 (D1w h0)⟩
    . rw[Bool.or_eq_false_iff];constructor
      . intro hh;exact absurd hh.1 hA
      . rintro⟨q1,q2,q3,_⟩;refine absurd ?_ hA;simp only[Bool.or_eq_false_iff,decide_eq_false_iff_not];exact⟨⟨by omega,by omega⟩,q3⟩
   refine⟨fun hb=> ?_,fun hb=> ?_⟩
   . refine(decide_eq_false fun hall=> ?_).symm;obtain⟨hby,hmem⟩:=hall;have he:=hmem e ma;have hby2:asc (v.take (i+1).toNat):=List.Pairwise.take hby;rw[hta,B3l]at hby2;have:=key.2 ⟨he.1,he.2.1,hby2.2,he.2.2⟩;rw[this]at hb;cases hb
   . obtain⟨k1,k2,k3,k4⟩:=key.1 hb;rw[wr (by omega) (by omega)];refine⟨⟨by omega,by omega, ?_, ?_⟩,by omega⟩
     . show asc _;rw[hta,B3l];exact⟨h2,k3⟩
     . rw[hta];intro y hy;rcases List.mem_append.1 hy with hy|hy
       . exact h3 y hy
       . rw[List.mem_singleton.1 hy];exact⟨k1,k2,k4⟩
 . have h:=of_decide_eq_false h;rw[D7 (by omega)]at h2 h3;exact(decide_eq_true ⟨h2,h3⟩).symm
theorem E2d (x:A7 A0q.args) (hw:awf A0q.args x) (hp:A0q.pre x):C7y x:=by
 obtain⟨v,k,_⟩:=x;have hlv:G2k v:=C8b hw.1.2;have hll:v.length<=9223372036854775807:=hw.1.1;change List Ent at v;change Int at k;obtain⟨ha,hs,hl⟩:okV K1 v:=hp;simp only[C7y];refine⟨trivial, ?_⟩;rintro⟨z,_⟩ _ hz;simp only at hz⊢;refine⟨fun p=>0<=p.1/\p.1<=(v.length:Int)/\((p.2.1,p.2.2.1),p.2.2.2.1)=rc (E2 (v.take p.1.toNat) k),fun p=>((v.length:Int)-p.1).toNat,⟨Int.le_refl _,Int.natCast_nonneg _,by rw[hz];rfl⟩, ?_⟩;rintro⟨i,b,m,d,_⟩ _ ⟨h0,h1,h2⟩;change Int at i;simp only at h0 h1 h2⊢;refine⟨fun h=> ?_,fun h=> ?_⟩
 . have h:=of_decide_eq_true h;have hme:gx dEE v i∈v:=L3 h0 h;have hts:v.take (i+1).toNat=v.take i.toNat++ [gx dEE v i]:=by
    rw[show(i+1).toNat=i.toNat+1 from by omega,List.take_add_one,K5 (d:=dEE) h0 h];rfl
   have hq:=B0n (v:=v.take i.toNat) (k:=K1) (ha.take) (fun e he=>hlv e (List.mem_of_mem_take he)) (fun e he=>hs e (List.mem_of_mem_take he)) (by decide) k;have hse:=hs _ hme;have hct:E2 (v.take (i+1).toNat) k=E2 (v.take i.toNat) k+if(gx dEE v i).1=k then rv (gx dEE v i).2 else 0:=by
    rw[hts,A6g];simp only[E2,Rat.add_zero]
   generalize gx dEE v i=e at*;refine⟨fun p=>((p.1,p.2.1),p.2.2.1)=rc (E2 (v.take (i+1).toNat) k),⟨⟨h0,h⟩,fun he=>⟨⟨h0,h⟩,⟨?_,A0c (k:=K1) hse (by decide)⟩, ?_⟩,fun he=> ?_⟩, ?_⟩
   . rw[h2];exact A2a hq (by decide)
   . have he:=of_decide_eq_true he;rintro⟨r,_⟩ _ hr;simp only at hr⊢;show r= _;rw[hr,h2,U4,hct,if_pos he]
   . have he:=of_decide_eq_false he;show((b,m),d)= _;rw[h2,hct,if_neg he,Rat.add_zero]
   . rintro⟨b',m',d',_⟩ _ hr;simp only at hr⊢;rw[wr (by omega) (by omega)];exact⟨⟨by omega,by omega,hr⟩,by omega⟩
 . have h:=of_decide_eq_false h;rw[D7 (by omega)]at h2;exact h2
theorem G8k {r l:List Int} (h:r.Pairwise (· < ·)) (hs:∀i∈r,i∈l):r.length<=l.length:=by
 have hd:r.Nodup:=h.imp fun h e=>by omega
 clear h
 induction r generalizing l with
 |nil=>exact Nat.zero_le _
 |cons a r ih=>
  rw[List.nodup_cons]at hd;have hm:=hs a (List.mem_cons_self ..);have:=ih (l:=l.erase a) (fun i hi=>by
   refine(List.mem_erase_of_ne fun e=>hd.1 (by rw[<-e];exact hi)).2 (hs i (List.mem_cons_of_mem _ hi))) hd.2
  have h2:=List.length_erase_of_mem hm;have h3:=List.length_pos_of_mem hm;rw[List.length_cons];omega
theorem D7r (x:A7 Z9.args) (hw:awf Z9.args x) (hp:Z9.pre x):B8l x:=by
 obtain⟨v,_⟩:=x;have hlv:G2k v:=C8b hw.1.2;change List Ent at v;obtain⟨ha,hs,hl⟩:okV K1 v:=hp;simp only[B8l];refine⟨⟨by simp,fun w hw=>by rw[List.mem_singleton.1 hw];exact hl⟩, ?_⟩;rintro⟨r,_⟩ ⟨⟨hrl,_⟩,_⟩ ⟨r1,r2⟩;change List Int at r;simp only at r1 r2 hrl⊢;have r3:∀i,i∈r↔∃e∈v,e.1=i:=fun i=>by
  rw[r2 i];constructor
  . rintro⟨w,hw,he⟩;rw[List.mem_singleton.1 hw]at he;exact he
  . intro he;exact⟨v,by simp,he⟩
 have hlen:r.length<=v.length:=by
  have:=G8k (l:=v.map fun e:Ent=>e.1) r1 fun i hi=>by
   obtain⟨e,he,rfl⟩:=(r3 i).1 hi;exact List.mem_map_of_mem he
  rwa[List.length_map]at this
 refine⟨fun p=>0<=p.2.1/\p.2.1<=(r.length:Int)/\p.1.length<=p.2.1.toNat/\C8p p.1/\(∀e∈p.1,e.1∈r.take p.2.1.toNat)/\(∀j∈r.take p.2.1.toNat,E2 p.1 j=E2 v j),fun p=>((r.length:Int)-p.2.1).toNat,⟨Int.le_refl _,Int.natCast_nonneg _,Nat.le_refl _,D1f,fun _ h=>(by cases h),by simp⟩, ?_⟩;rintro⟨out,j,_⟩ _ ⟨h0,h1,h2,h3,h4,h5⟩;change Int at j;change List Ent at out;simp only at h0 h1 h2 h3 h4 h5⊢;refine⟨fun h=> ?_,fun h=> ?_⟩
 . have h:=of_decide_eq_true h;have hts:r.take (j+1).toNat=r.take j.toNat++ [gx 0 r j]:=by
    rw[show(j+1).toNat=j.toNat+1 from by omega,List.take_add_one,K5 (d:=(0:Int)) h0 h];rfl
   have hlt:∀y∈r.take j.toNat,y<gx 0 r j:=fun y hy=>by
    have:(r.take (j+1).toNat).Pairwise (· < ·):=r1.take;rw[hts,List.pairwise_append]at this;exact this.2.2 y hy _ (List.mem_singleton.2 rfl)
   have hq:=B0n ha hlv hs (by decide) (gx 0 r j);generalize gx 0 r j=i at*;have hout:∀e∈out,e.1<i:=fun e he=>hlt _ (h4 e he)
   have hnil:E2 out i=0:=H7 fun e he hei=>by have:=hout e he;omega
   refine⟨fun p=>p.1.length<=(j+1).toNat/\C8p p.1/\(∀e∈p.1,e.1∈r.take (j+1).toNat)/\∀k∈r.take (j+1).toNat,E2 p.1 k=E2 v k,⟨⟨h0,h⟩,⟨ha,hs,hl⟩, ?_⟩, ?_⟩
   . rintro⟨q,_⟩ _ hq';simp only at hq'⊢;subst hq';refine⟨A2a hq (by decide), ?_⟩;rintro⟨s,_⟩ _ hsg;simp only at hsg⊢;rw[U4]at hsg;refine⟨fun hz=>⟨⟨by simp only[List.length_singleton];omega,by simp only[List.length_singleton];omega⟩,by show(out++ [(i,_)]).length<= _;simp;omega, ?_,fun e he=> ?_,fun k hk=> ?_⟩,fun hz=>⟨by show out.length<= _;omega,h3,fun e he=>by rw[hts];exact List.mem_append.2 (.inl (h4 e he)),fun k hk=> ?_⟩⟩
     . have hz:=of_decide_eq_true hz;exact D5o h3 (fun h0=>hz (by rw[hsg,h0];rfl)) hout
     . rw[hts];rcases List.mem_append.1 he with he|he
       . exact List.mem_append.2 (.inl (h4 e he))
       . rw[List.mem_singleton.1 he];exact List.mem_append.2 (.inr (List.mem_singleton.2 rfl))
     . show E2 (out++ [(i,rc (E2 v i))]) k=E2 v k;rw[C0s];rw[hts]at hk;rcases List.mem_append.1 hk with hk|hk
       . have:=hlt k hk;rw[if_neg (by omega),Rat.add_zero,h5 k hk]
       . rw[List.mem_singleton.1 hk,if_pos rfl,hnil,Rat.zero_add]
     . have hz:=of_decide_eq_false hz;have hz0:E2 v i=0:=D1w (by rw[<-hsg];exact Decidable.not_not.1 hz);rw[hts]at hk;show E2 out k=E2 v k;rcases List.mem_append.1 hk with hk|hk
       . exact h5 k hk
       . rw[List.mem_singleton.1 hk,hnil,hz0]
   . rintro⟨o,_⟩ _ ho;simp only at ho⊢;rw[wr (by omega) (by omega)];exact⟨⟨by omega,by omega,ho⟩,by omega⟩
 . have h:=of_decide_eq_false h;rw[D7 (by omega)]at h4 h5;refine⟨h3,fun i=> ?_⟩;by_cases hi:i∈r
   . exact h5 i hi
   . rw[H7 fun e he hei=>hi (by rw[<-hei];exact h4 e he),H7 fun e he hei=>hi ((r3 i).2 ⟨e,he,hei⟩)]
theorem E6p (l:List L5) (j:Int):∀n:Nat,n<=l.length->E2 ((List.range n).map fun i:Nat=>((i:Int),l.getD i zr)) j=if 0<=j/\j<(n:Int)then rv (l.getD j.toNat zr)else 0
 |0,_=>by rw[if_neg (by omega)];rfl
 |n+1,h=>by
  rw[List.range_succ,List.map_append,A6g,E6p l j n (by omega)];simp only[List.map_cons,List.map_nil,E2,Rat.add_zero];by_cases hj:(n:Int)=j
  . subst hj;rw[if_neg (by omega),if_pos rfl,Rat.zero_add,if_pos (by omega),Int.toNat_natCast]
  . rw[if_neg hj,Rat.add_zero];by_cases h2:0<=j/\j<(n:Int)
    . rw[if_pos h2,if_pos (by omega)]
    . rw[if_neg h2,if_neg (by omega)]
theorem B9e (x:A7 N9.args) (hw:awf N9.args x) (hp:N9.pre x):A4r x:=by
 obtain⟨l,_⟩:=x;change List L5 at l;obtain⟨hl,hs⟩:l.length<=100000/\szL K1 l:=hp;simp only[A4r];refine⟨fun p=>0<=p.2.1/\p.2.1<=(l.length:Int)/\p.1=(List.range p.2.1.toNat).map fun i:Nat=>((i:Int),l.getD i zr),fun p=>((l.length:Int)-p.2.1).toNat,⟨Int.le_refl _,Int.natCast_nonneg _,rfl⟩, ?_⟩;rintro⟨v,i,_⟩ _ ⟨h0,h1,h2⟩;change List Ent at v;change Int at i;simp only at h0 h1 h2⊢;have hlen:v.length=i.toNat:=by rw[h2];simp
 refine⟨fun h=> ?_,fun h=> ?_⟩
 . have h:=of_decide_eq_true h;rw[F7o h0 h,wr (by omega) (by omega)];refine⟨⟨h0,h⟩,⟨by simp only[List.length_singleton];omega,by simp only[List.length_singleton];omega⟩,⟨by omega,by omega, ?_⟩,by omega⟩;rw[E4k _ h0,h2,show((i.toNat:Nat):Int)=i from by omega]
 . have h:=of_decide_eq_false h;have hi:i.toNat=l.length:=by omega
   rw[hi]at h2 hlen;have hcm:=fun j=>E6p l j l.length (Nat.le_refl _)
   rw[<-h2]at hcm;refine⟨⟨?_,fun e he=> ?_,by omega⟩, ?_⟩
   . rw[h2];unfold asc;rw[List.pairwise_map];exact List.pairwise_lt_range.imp fun h=>by show((_:Nat):Int)<((_:Nat):Int);omega
   . rw[h2]at he;obtain⟨j,hj,rfl⟩:=List.mem_map.1 he;rw[List.mem_range]at hj;exact hs _ (E7 hj)
   . rintro⟨r,_⟩ _ hr;simp only at hr⊢;exact F6k hr (fun i hi=>by rw[hcm,if_neg hi]) fun j hj=>by rw[hcm,if_pos (by omega),Int.toNat_natCast]
theorem D4t (x:A7 Y5.args) (hw:awf Y5.args x) (hp:Y5.pre x):B3x x:=by
 obtain⟨v,n,_⟩:=x;have hlv:G2k v:=C8b hw.1.2;change List Ent at v;change Int at n;obtain⟨hv,hva,n0,n1⟩:okV K1 v/\J4 v n/\0<=n/\n<=16384:=hp;simp only[B3x];have hc0:sel (decide (n<0)) true (decide (16384<n))=false:=by
  rw[Q0];simp only[Bool.or_eq_false_iff,decide_eq_false_iff_not];omega
 refine⟨fun _=>hv, ?_⟩;rintro⟨c,_⟩ hc;change List Ent at c;obtain⟨_,hc1,hc2⟩:=hc hc0;simp only at hc1 hc2⊢;have hq:∀i,qs K1 (E2 c i):=fun i=>by rw[hc2];exact B0n hv.1 hlv hv.2.1 (by decide) i
 refine⟨fun _=>F9s hc1 hq, ?_⟩;rintro⟨b,_⟩ hb;have hb:=(hb hc0).2;simp only at hb⊢;have hcv:J4 c n:=⟨hc1.1,fun e he=>by
  have:E2 v e.1≠0:=by rw[<-hc2,B1c hc1.1 he];exact(hc1.2 e he).1
  have:=F5c hva this;exact⟨this.1,this.2,(hc1.2 e he).1⟩⟩
 have hbt:b=true:=by rw[hb];exact decide_eq_true hcv
 have hall:(sel (sel (decide (n<0)) true (decide (16384<n))) true !b)=false:=by rw[hc0,hbt];rfl
 refine⟨fun h=>(by rw[hall]at h;cases h),fun _=>⟨⟨n0,Int.le_refl _,by omega,by omega⟩, ?_⟩⟩;have hrl:(List.replicate n.toNat dQ).length=n.toNat:=List.length_replicate;refine⟨fun p=>0<=p.1/\p.1<=n/\fill n.toNat p.1.toNat (fun j:Nat=>rc (E2 v (j:Int))) p.2.1,fun p=>(n-p.1).toNat,⟨Int.le_refl _,n0,G2o hrl⟩, ?_⟩;rintro⟨i,out,_⟩ _ ⟨i0,i1,hf⟩;change Int at i;change List L5 at out;simp only at i0 i1 hf⊢;refine⟨fun h=>⟨hv, ?_⟩,fun h=> ?_⟩
 . have h:=of_decide_eq_true h;have:=hf.1;rintro⟨r,_⟩ _ hr;simp only at hr⊢;rw[wr (by omega) (by omega)];exact⟨⟨i0,by omega⟩,⟨by omega,by omega,E1l hf i0 (by omega) (by rw[hr,show((i.toNat:Nat):Int)=i from by omega])⟩,by omega⟩
 . have h:=of_decide_eq_false h;exact⟨C1n hf (by omega),by trivial⟩
theorem D6c (x:A7 A1k.args) (hw:awf A1k.args x) (hp:A1k.pre x):B9s x:=by
 obtain⟨a,b,_⟩:=x;have hl:a.length<=9223372036854775807:=hw.1.1;change List L5 at a b;obtain⟨ha,hb⟩:(∀e∈a,sh3 e)/\∀e∈b,sh3 e:=hp;simp only[B9s];refine⟨fun h=> ?_,fun h=> ?_⟩
 . have h:=of_decide_eq_true h;exact(decide_eq_false fun e=>h (by rw[e.1])).symm
 . have hlen:a.length=b.length:=by have:=of_decide_eq_false h;omega
   refine⟨fun p=>0<=p.1/\p.1<=(a.length:Int)/\a.take p.1.toNat=b.take p.1.toNat/\∀e∈a.take p.1.toNat,e=rc (rv e),fun p=>((a.length:Int)-p.1).toNat,⟨Int.le_refl _,Int.natCast_nonneg _,by simp,by simp⟩, ?_⟩;rintro⟨i,_⟩ _ ⟨h0,h1,h2,h3⟩;change Int at i;simp only at h0 h1 h2 h3⊢;refine⟨fun h=> ?_,fun h=> ?_⟩
   . have h:=of_decide_eq_true h;have ma:=L3 (d:=dQ) h0 h;have mb:=L3 (d:=dQ) (l:=b) h0 (by omega);have ga:=K5 (d:=dQ) h0 h;have gb:=K5 (d:=dQ) (l:=b) h0 (by omega);have hta:a.take (i+1).toNat=a.take i.toNat++ [gx dQ a i]:=by
      rw[show(i+1).toNat=i.toNat+1 from by omega,List.take_add_one,ga];rfl
     have htb:b.take (i+1).toNat=b.take i.toNat++ [gx dQ b i]:=by
      rw[show(i+1).toNat=i.toNat+1 from by omega,List.take_add_one,gb];rfl
     generalize gx dQ a i=e at*;generalize gx dQ b i=f at*;refine⟨⟨h0,h⟩,ha _ ma, ?_⟩;rintro⟨r,_⟩ _ hr;refine⟨fun _=>⟨h0,by omega⟩,fun _=>hb _ mb, ?_⟩;rintro⟨s,_⟩ hs;refine⟨fun _=>⟨h0,h⟩,fun _=>⟨h0,by omega⟩,fun _=>trivial, ?_⟩;rintro⟨t,_⟩ ht;change Bool at r s t;simp only at hr hs ht⊢;rw[Q0]at ht;rw[Q0,Q0];have key:(!r|| !s|| !t)=false↔e=rc (rv e)/\e=f:=by
      by_cases hc:e=rc (rv e)
      . have hr:r=true:=by rw[hr];exact decide_eq_true hc
        have hs:=(hs (by simp[hr])).2;by_cases hd:f=rc (rv f)
        . have hs:s=true:=by rw[hs];exact decide_eq_true hd
          have ht:=(ht (by simp[hr,hs])).2;rw[hr,hs,ht];simp[<-hc]
        . have hs:s=false:=by rw[hs];exact decide_eq_false hd
          rw[hr,hs];simp only[Bool.not_true,Bool.not_false,Bool.or_true,Bool.true_or,Bool.false_or];refine⟨fun h=>(by cases h),fun h=>absurd ?_ hd⟩;rw[<-h.2];exact hc
      . have hr:r=false:=by rw[hr];exact decide_eq_false hc
        rw[hr];simp[hc]
     refine⟨fun hx=> ?_,fun hx=> ?_⟩
     . refine(decide_eq_false fun hall=> ?_).symm;obtain⟨hab,hcan⟩:=hall;subst hab;rw[ga]at gb;have:=key.2 ⟨hcan _ ma,Option.some.inj gb⟩;rw[this]at hx;cases hx
     . obtain⟨k1,k2⟩:=key.1 hx;rw[wr (by omega) (by omega)];refine⟨⟨by omega,by omega, ?_, ?_⟩,by omega⟩
       . rw[hta,htb,h2,k2]
       . rw[hta];intro y hy;rcases List.mem_append.1 hy with hy|hy
         . exact h3 y hy
         . rw[List.mem_singleton.1 hy];exact k1
   . have h:=of_decide_eq_false h;rw[D7 (by omega),D7 (by omega)]at h2;rw[D7 (by omega)]at h3;exact(decide_eq_true ⟨h2,h3⟩).symm
theorem E1h (x:A7 A4e.args) (hw:awf A4e.args x) (hp:A4e.pre x):C7w x:=by
 obtain⟨a,b,_⟩:=x;have la:∀q∈a,F5s q:=fun q hq=>B9k (hw.1.2 q hq)
 have lb:∀q∈b,F5s q:=fun q hq=>B9k (hw.2.1.2 q hq)
 change List L5 at a b;obtain⟨ha,hb,hl⟩:szL K0 a/\szL K0 b/\a.length<=1000:=hp;simp only[C7w];refine⟨fun h hn=>absurd (by rw[hn]) (of_decide_eq_true h),fun h=>⟨trivial, ?_⟩⟩;have hlen:a.length=b.length:=by have:=of_decide_eq_false h;omega
 rintro⟨z,_⟩ _ hz;simp only at hz⊢;refine⟨fun p=>0<=p.1/\p.1<=(a.length:Int)/\((p.2.1,p.2.2.1),p.2.2.2.1)=rc (Y8 p.1.toNat fun i=>rv (a.getD i zr)*rv (b.getD i zr)),fun p=>((a.length:Int)-p.1).toNat,⟨Int.le_refl _,Int.natCast_nonneg _,by rw[hz];rfl⟩, ?_⟩;rintro⟨i,u,m,d,_⟩ _ ⟨h0,h1,h2⟩;change Int at i;simp only at h0 h1 h2⊢;refine⟨fun h=> ?_,fun h=> ?_⟩
 . have h:=of_decide_eq_true h;have ma:=L3 (d:=dQ) h0 h;have mb:=L3 (d:=dQ) (l:=b) h0 (by omega);have q1:=B2h (la _ ma) (ha _ ma) (by decide);have q2:=B2h (lb _ mb) (hb _ mb) (by decide);have s1:=A0c (ha _ ma) (by decide);have s2:=A0c (hb _ mb) (by decide);rw[F7o h0 h]at q1 s1⊢;rw[F7o h0 (by omega)]at q2 s2⊢;have hs:=F0a (n:=i.toNat) (k:=K0+K0) (f:=fun i=>rv (a.getD i zr)*rv (b.getD i zr)) fun j hj=>A2n (B2h (la _ (E7 (by omega))) (ha _ (E7 (by omega))) (by decide)) (B2h (lb _ (E7 (by omega))) (hb _ (E7 (by omega))) (by decide))
   refine⟨⟨h0,h⟩,⟨h0,by omega⟩,⟨s1,s2⟩, ?_⟩;rintro⟨r,_⟩ _ hr;simp only at hr⊢;refine⟨⟨?_,by rw[hr];exact A2a (A2n q1 q2) (by decide)⟩, ?_⟩
   . rw[h2];refine A2a hs ?_;have h5:i.toNat<=999:=by omega
     have h7:K0+K0+1=2147483649:=by decide
     rw[h7];omega
   . rintro⟨t,_⟩ _ ht;simp only at ht⊢;rw[wr (by omega) (by omega)];refine⟨⟨by omega,by omega, ?_⟩,by omega⟩;show t= _;rw[ht,h2,hr,U4,U4,show(i+1).toNat=i.toNat+1 from by omega,Y8]
 . have h:=of_decide_eq_false h;intro _;rw[show i.toNat=a.length from by omega]at h2;exact⟨h2,by trivial⟩
def C8c:An:= {}
def A9p:B4:= []
def D4i:An:= {loop:= [(4,⟨[1,24,25],[0],[(26,false,[.val (.int .i64)])],[],[]⟩)]}
def B4x:B4:= [(109,I0),(151,P5)]
def D3d:An:= {loop:= [(3,⟨[3,8],[],[(9,false,[.val (.int .i64)])],[],[(0, .row tQ 31)]⟩)]}
def B5g:B4:= [(70,E8)]
def E5c:An:= {}
def C9e:B4:= [(70,E8),(85,E1),(118,R2)]
def D2q:An:= {loop:= [(10,⟨[1,6,7,23,24,25,30,31],[],[(32,false,[.val (.int .i64)])],[],[(1, .row tQ 31)]⟩),(7,⟨[1,6,23,24],[],[(25,false,[.val (.int .i64)])],[],[(1, .row tQ 31)]⟩)],plan:= [(12,[5,7,10,12],[16],true,(.p 0 (.p 1 (.p 2 (.p 3 (.p 4 (.q 5 (.p 6 (.q 7 (.p 8 (.p 9 (.q 10 (.p 11 (.q 12 (.e 13 (.e 14 (.p 15 (.e 16 .done))))))))))))))))))]}
def B4d:B4:= [(71,G2),(85,E1),(121,M9),(122,F4)]
def D0o:An:= {join:= [(15,⟨[1,6,23,24,25],[],[],[],[(1, .row tQ 31)]⟩)],loop:= [(11,⟨[1,6,7,23,24,25,36,37],[],[(38,false,[.val (.int .i64)])],[],[(1, .row tQ 31)]⟩),(7,⟨[1,6,23,24],[],[(25,false,[.val (.int .i64)])],[],[(1, .row tQ 31)]⟩)],plan:= [(13,[2,5,7,11,13],[17],true,(.p 0 (.p 1 (.q 2 (.p 3 (.p 4 (.q 5 (.p 6 (.q 7 (.p 8 (.p 9 (.p 10 (.q 11 (.p 12 (.q 13 (.e 14 (.e 15 (.p 16 (.e 17 .done)))))))))))))))))))]}
def B1s:B4:= [(71,G2),(85,E1),(121,M9),(122,F4),(160,D8)]
def D4a:An:= {join:= [(20,⟨[1,2,3,6,8,10,14,16,62,63,64,85,86,87],[0,1,2,3,4,6],[],[(7,94,[.val (.int .i64), .val .bool, .val (.sl (.int .u32)), .val (.sl (.int .u32))])],[]⟩),(23,⟨[1,2,3,6,8,10,62,63,64],[0,1,2],[],[(3,24,[.val (.int .i64), .val (.int .i64), .own (.sl tE) 92])],[]⟩)],loop:= [(16,⟨[1,2,3,6,8,10,62,63,64,85,86],[0,1,2,3,4],[(14,false,[.own tE 94]),(87,false,[.val (.int .i64)])],[],[]⟩),(10,⟨[1,2,3,6,8,10,62,63],[0,1,2],[(64,false,[.val (.int .i64)])],[(3,24,[.val (.int .i64), .val (.int .i64), .own (.sl tE) 92])],[]⟩)],plan:= [(13,[3],[7],true,(.p 0 (.p 1 (.q 3 (.or 2 (.or 4 (.or 5 (.e 6 (.e 7 .done)) (.e 6 (.e 5 (.e 7 .done)))) (.e 6 (.e 4 (.e 5 (.e 7 .done))))) (.e 6 (.e 2 (.e 4 (.e 5 (.e 7 .done)))))))))),(15,[1,3,6],[],true,(.p 0 (.q 1 (.p 2 (.q 3 (.p 4 (.p 5 (.q 6 (.p 9 (.e 7 (.p 8 .done)))))))))))]}
def B3p:B4:= [(71,G2),(73,P8),(85,E1),(117,Q3),(118,R2),(119,H3)]
def A2w:A7 I0.args->Prop:=fun(x:Int×Unit)=>sel (decide (0<=x.1)) (decide (x.1<=16384)) false=decide (0<=x.1/\x.1<=16384)
theorem B5x (x:A7 I0.args):H4 Tryz.prog tys A9p C8c I0 Tryz.f109 x=A2w x:=by kernel_rfl
def A6h:A7 E1.args->Prop:=fun(x:MM×Unit)=>True/\∀(r:Bool×Unit),True/\True->r.1=decide (0<=x.1.1/\x.1.1<=16384)->((!r.1)=false->True)/\∀(a:Bool×Unit),((!r.1)=false->(True/\True)/\a.1=decide (0<=x.1.2.1/\x.1.2.1<=16384))->(sel (sel (!r.1) true !a.1) true (decide ((x.1.2.2.length:Int)≠x.1.1))=true->false=decide (A5 x.1))/\(sel (sel (!r.1) true !a.1) true (decide ((x.1.2.2.length:Int)≠x.1.1))=false->∃(I:Int×Unit->Prop),∃(μ:Int×Unit->Nat),I ((0:Int),())/\∀(p:Int×Unit),D5 p.1/\True->I p->(decide (p.1<(x.1.2.2.length:Int))=true->(0<=p.1/\p.1<(x.1.2.2.length:Int))/\True/\∀(r:Bool×Unit),True/\True->r.1=decide (J4 (gx [] x.1.2.2 p.1) x.1.2.1)->((!r.1)=true->false=decide (A5 x.1))/\((!r.1)=false->I (IntKind.i64.wrap (p.1+1),())/\μ (IntKind.i64.wrap (p.1+1),())<μ p))/\(decide (p.1<(x.1.2.2.length:Int))=false->true=decide (A5 x.1)))
theorem C1y (x:A7 E1.args):H4 Tryz.prog tys B4x D4i E1 Tryz.f85 x=A6h x:=by kernel_rfl
def A5z:A7 M9.args->Prop:=fun(x:Int×Unit)=>(0<=x.1/\x.1<=x.1/\(↑(56:Nat):Int)*x.1<=281474976710656/\x.1<=9223372036854775807)/\∃(I:Int×List QQ×Unit->Prop),∃(μ:Int×List QQ×Unit->Nat),I ((0:Int),List.replicate (Int.toNat x.1) dQ,())/\∀(p:Int×List QQ×Unit),D5 p.1/\WfL p.2.1/\True->I p->(decide (p.1<(↑(List.replicate (Int.toNat x.1) dQ).length:Int))=true->True/\∀(r:QQ×Unit),WfQ r.1/\True->r.1=ri (0:Int)->(0<=p.1/\p.1<(p.2.1.length:Int))/\I (IntKind.i64.wrap (p.1+1),List.set p.2.1 (Int.toNat p.1) r.1,())/\μ (IntKind.i64.wrap (p.1+1),List.set p.2.1 (Int.toNat p.1) r.1,())<μ p)/\(decide (p.1<(↑(List.replicate (Int.toNat x.1) dQ).length:Int))=false->p.2.1=List.replicate x.1.toNat (rc (0:Rat)))
theorem C2q (x:A7 M9.args):H4 Tryz.prog tys B5g D3d M9 Tryz.f121 x=A5z x:=by kernel_rfl
def B3o:A7 X6.args->Prop:=fun(x:MM×Int×Int×Unit)=>True/\∀(r:Bool×Unit),True/\True->r.1=decide (A5 x.1)->(sel (sel (sel (sel (!r.1) true (decide (x.2.1<0))) true (decide (x.1.1<=x.2.1))) true (decide (x.2.2.1<0))) true (decide (x.1.2.1<=x.2.2.1))=true->True/\∀(r:QQ×Unit),WfQ r.1/\True->r.1=ri (0:Int)->r.1=rc (if A5 x.1/\0<=x.2.1/\x.2.1<x.1.1/\0<=x.2.2.1/\x.2.2.1<x.1.2.1 then el x.1 x.2.1.toNat x.2.2.1.toNat else(0:Rat)))/\(sel (sel (sel (sel (!r.1) true (decide (x.2.1<0))) true (decide (x.1.1<=x.2.1))) true (decide (x.2.2.1<0))) true (decide (x.1.2.1<=x.2.2.1))=false->(0<=x.2.1/\x.2.1<(x.1.2.2.length:Int))/\okV K1 (gx [] x.1.2.2 x.2.1)/\∀(r:QQ×Unit),WfQ r.1/\True->r.1=rc (E2 (gx [] x.1.2.2 x.2.1) x.2.2.1)->r.1=rc (if A5 x.1/\0<=x.2.1/\x.2.1<x.1.1/\0<=x.2.2.1/\x.2.2.1<x.1.2.1 then el x.1 x.2.1.toNat x.2.2.1.toNat else(0:Rat)))
theorem D3b (x:A7 X6.args):H4 Tryz.prog tys C9e E5c X6 Tryz.f129 x=B3o x:=by kernel_rfl
def A6e:A7 P9.args->Prop:=fun(x:MM×List QQ×Unit)=>True/\∀(r:Bool×Unit),True/\True->r.1=decide (A5 x.1)->((!r.1)=true->(¬A5 x.1->B0o QQ= []/\(1:Int)=(1:Int))/\(A5 x.1->((↑x.2.1.length:Int)≠x.1.2.1->B0o QQ= []/\(1:Int)=(4:Int))/\((↑x.2.1.length:Int)=x.1.2.1->B0o QQ=List.map (fun(i:Nat)=>rc (Y8 x.2.1.length fun(j:Nat)=>el x.1 i j*rv (x.2.1.getD j zr))) (List.range x.1.1.toNat)/\(1:Int)=(0:Int))))/\((!r.1)=false->(decide ((x.2.1.length:Int)≠x.1.2.1)=true->(¬A5 x.1->B0o QQ= []/\(4:Int)=(1:Int))/\(A5 x.1->((↑x.2.1.length:Int)≠x.1.2.1->B0o QQ= []/\(4:Int)=(4:Int))/\((↑x.2.1.length:Int)=x.1.2.1->B0o QQ=List.map (fun(i:Nat)=>rc (Y8 x.2.1.length fun(j:Nat)=>el x.1 i j*rv (x.2.1.getD j zr))) (List.range x.1.1.toNat)/\(4:Int)=(0:Int))))/\(decide ((x.2.1.length:Int)≠x.1.2.1)=false->(0<=x.1.1/\x.1.1<=16384)/\∀(r:List QQ×Unit),WfL r.1/\True->r.1=List.replicate (Int.toNat x.1.1) (rc (0:Rat))->∃(I:Int×List QQ×Unit->Prop),∃(μ:Int×List QQ×Unit->Nat),I ((0:Int),r)/\∀(p:Int×List QQ×Unit),D5 p.1/\WfL p.2.1/\True->I p->(decide (p.1<(x.1.2.2.length:Int))=true->(0<=p.1/\p.1<(x.1.2.2.length:Int))/\∃(I_1:Int×List QQ×Unit->Prop),∃(μ_1:Int×List QQ×Unit->Nat),I_1 ((0:Int),p.2.1,())/\∀(a:Int×List QQ×Unit),D5 a.1/\WfL a.2.1/\True->I_1 a->(decide (a.1<(↑(gx [] x.1.2.2 p.1).length:Int))=true->(0<=a.1/\a.1<(↑(gx [] x.1.2.2 p.1).length:Int))/\(0<=p.1/\p.1<(a.2.1.length:Int))/\((0:Int)<=(gx dEE (gx [] x.1.2.2 p.1) a.1).1/\(gx dEE (gx [] x.1.2.2 p.1) a.1).1<(x.2.1.length:Int))/\(sh3 (gx dEE (gx [] x.1.2.2 p.1) a.1).2/\sh3 (gx dQ x.2.1 (gx dEE (gx [] x.1.2.2 p.1) a.1).1))/\∀(r:QQ×Unit),WfQ r.1/\True->r.1=rc (rv (gx dEE (gx [] x.1.2.2 p.1) a.1).2*rv (gx dQ x.2.1 (gx dEE (gx [] x.1.2.2 p.1) a.1).1))->(sh3 (List.getD a.2.1 (Int.toNat p.1) dQ)/\sh3 r.1)/\∀(b:QQ×Unit),WfQ b.1/\True->b.1=rc (rv (List.getD a.2.1 (Int.toNat p.1) dQ)+rv r.1)->(0<=p.1/\p.1<(a.2.1.length:Int))/\I_1 (IntKind.i64.wrap (a.1+1),List.set a.2.1 (Int.toNat p.1) b.1,())/\μ_1 (IntKind.i64.wrap (a.1+1),List.set a.2.1 (Int.toNat p.1) b.1,())<μ_1 a)/\(decide (a.1<(↑(gx [] x.1.2.2 p.1).length:Int))=false->I (IntKind.i64.wrap (p.1+1),a.2.1,())/\μ (IntKind.i64.wrap (p.1+1),a.2.1,())<μ p))/\(decide (p.1<(x.1.2.2.length:Int))=false->(¬A5 x.1->p.2.1= []/\(0:Int)=(1:Int))/\(A5 x.1->((↑x.2.1.length:Int)≠x.1.2.1->p.2.1= []/\(0:Int)=(4:Int))/\((↑x.2.1.length:Int)=x.1.2.1->p.2.1=List.map (fun(i:Nat)=>rc (Y8 x.2.1.length fun(j:Nat)=>el x.1 i j*rv (x.2.1.getD j zr))) (List.range x.1.1.toNat)/\(0:Int)=(0:Int))))))
theorem C1k (x:A7 P9.args):H4 Tryz.prog tys B4d D2q P9 Tryz.f52 x=A6e x:=by kernel_rfl
def A4l:A7 N4.args->Prop:=fun(x:MM×List QQ×Unit)=>True/\∀(r:Bool×Unit),True/\True->r.1=decide (A5 x.1)->((!r.1)=true->(¬A5 x.1->B0o QQ= []/\(1:Int)=(1:Int))/\(A5 x.1->((↑x.2.1.length:Int)≠x.1.1->B0o QQ= []/\(1:Int)=(4:Int))/\((↑x.2.1.length:Int)=x.1.1->B0o QQ=List.map (fun(j:Nat)=>rc (Y8 x.2.1.length fun(i:Nat)=>el x.1 i j*rv (x.2.1.getD i zr))) (List.range x.1.2.1.toNat)/\(1:Int)=(0:Int))))/\((!r.1)=false->(decide ((x.2.1.length:Int)≠x.1.1)=true->(¬A5 x.1->B0o QQ= []/\(4:Int)=(1:Int))/\(A5 x.1->((↑x.2.1.length:Int)≠x.1.1->B0o QQ= []/\(4:Int)=(4:Int))/\((↑x.2.1.length:Int)=x.1.1->B0o QQ=List.map (fun(j:Nat)=>rc (Y8 x.2.1.length fun(i:Nat)=>el x.1 i j*rv (x.2.1.getD i zr))) (List.range x.1.2.1.toNat)/\(4:Int)=(0:Int))))/\(decide ((x.2.1.length:Int)≠x.1.1)=false->(0<=x.1.2.1/\x.1.2.1<=16384)/\∀(r:List QQ×Unit),WfL r.1/\True->r.1=List.replicate (Int.toNat x.1.2.1) (rc (0:Rat))->∃(I:Int×List QQ×Unit->Prop),∃(μ:Int×List QQ×Unit->Nat),I ((0:Int),r)/\∀(p:Int×List QQ×Unit),D5 p.1/\WfL p.2.1/\True->I p->(decide (p.1<(x.1.2.2.length:Int))=true->∃(J:List QQ×Unit->Prop),((0<=p.1/\p.1<(x.1.2.2.length:Int))/\(0<=p.1/\p.1<(x.2.1.length:Int))/\True/\∀(r:Int×Unit),D5 r.1/\True->r.1=(rv (gx dQ x.2.1 p.1)).num.sign->(decide (r.1=0)=true->J (p.2.1,()))/\(decide (r.1=0)=false->∃(I:Int×List QQ×Unit->Prop),∃(μ:Int×List QQ×Unit->Nat),I ((0:Int),p.2.1,())/\∀(a:Int×List QQ×Unit),D5 a.1/\WfL a.2.1/\True->I a->(decide (a.1<(↑(gx [] x.1.2.2 p.1).length:Int))=true->(0<=a.1/\a.1<(↑(gx [] x.1.2.2 p.1).length:Int))/\((0:Int)<=(gx dEE (gx [] x.1.2.2 p.1) a.1).1/\(gx dEE (gx [] x.1.2.2 p.1) a.1).1<(a.2.1.length:Int))/\(0<=p.1/\p.1<(x.2.1.length:Int))/\(sh3 (gx dQ x.2.1 p.1)/\sh3 (gx dEE (gx [] x.1.2.2 p.1) a.1).2)/\∀(r:QQ×Unit),WfQ r.1/\True->r.1=rc (rv (gx dQ x.2.1 p.1)*rv (gx dEE (gx [] x.1.2.2 p.1) a.1).2)->(sh3 (List.getD a.2.1 (Int.toNat (gx dEE (gx [] x.1.2.2 p.1) a.1).1) dQ)/\sh3 r.1)/\∀(b:QQ×Unit),WfQ b.1/\True->b.1=rc (rv (List.getD a.2.1 (Int.toNat (gx dEE (gx [] x.1.2.2 p.1) a.1).1) dQ)+rv r.1)->((0:Int)<=(gx dEE (gx [] x.1.2.2 p.1) a.1).1/\(gx dEE (gx [] x.1.2.2 p.1) a.1).1<(a.2.1.length:Int))/\I (IntKind.i64.wrap (a.1+1),List.set a.2.1 (Int.toNat (gx dEE (gx [] x.1.2.2 p.1) a.1).1) b.1,())/\μ (IntKind.i64.wrap (a.1+1),List.set a.2.1 (Int.toNat (gx dEE (gx [] x.1.2.2 p.1) a.1).1) b.1,())<μ a)/\(decide (a.1<(↑(gx [] x.1.2.2 p.1).length:Int))=false->J (a.2.1,()))))/\∀(a:List QQ×Unit),WfL a.1/\True->J a->I (IntKind.i64.wrap (p.1+1),a)/\μ (IntKind.i64.wrap (p.1+1),a)<μ p)/\(decide (p.1<(x.1.2.2.length:Int))=false->(¬A5 x.1->p.2.1= []/\(0:Int)=(1:Int))/\(A5 x.1->((↑x.2.1.length:Int)≠x.1.1->p.2.1= []/\(0:Int)=(4:Int))/\((↑x.2.1.length:Int)=x.1.1->p.2.1=List.map (fun(j:Nat)=>rc (Y8 x.2.1.length fun(i:Nat)=>el x.1 i j*rv (x.2.1.getD i zr))) (List.range x.1.2.1.toNat)/\(0:Int)=(0:Int))))))
theorem B8u (x:A7 N4.args):H4 Tryz.prog tys B1s D0o N4 Tryz.f127 x=A4l x:=by kernel_rfl
def qb (x:MM×Int×Int×Unit) (r:QQ×Unit) (I:Int×Int×Int×List (List EE)×Unit->Prop) (μ:Int×Int×Int×List (List EE)×Unit->Nat) (p:Int×Int×Int×List (List EE)×Unit) (J:Int×Int×List (List EE)×Unit->Prop) (c:QQ×Unit):Prop:=∀(r:QQ×Unit),WfQ r.1/\True->r.1=rc (-rv c.1)->(0<=x.2.1/\x.2.1<(x.1.2.2.length:Int))/\(okV K1 (gx [] x.1.2.2 p.1)/\sz K1 r.1/\okV K1 (gx [] x.1.2.2 x.2.1))/\∀(b:List EE×Unit),C1l b.1/\True->isC (fun(i:Int)=>E2 (gx [] x.1.2.2 p.1) i+rv r.1*E2 (gx [] x.1.2.2 x.2.1) i) b.1->∃(I:List EE×Int×Unit->Prop),∃(μ:List EE×Int×Unit->Nat),I ([],(0:Int),())/\∀(a:List EE×Int×Unit),C1l a.1/\D5 a.2.1/\True->I a->(decide (a.2.1<(b.1.length:Int))=true->(0<=a.2.1/\a.2.1<(b.1.length:Int))/\∃(J:Int×Bool×List Int×List Int×Unit->Prop),((decide (x.2.2.1<(gx dEE b.1 a.2.1).1)=true->J (IntKind.i64.wrap ((gx dEE b.1 a.2.1).1-(1:Int)),(gx dEE b.1 a.2.1).2.1.1,(gx dEE b.1 a.2.1).2.1.2,(gx dEE b.1 a.2.1).2.2,()))/\(decide (x.2.2.1<(gx dEE b.1 a.2.1).1)=false->J ((gx dEE b.1 a.2.1).1,(gx dEE b.1 a.2.1).2.1.1,(gx dEE b.1 a.2.1).2.1.2,(gx dEE b.1 a.2.1).2.2,())))/\∀(p:Int×Bool×List Int×List Int×Unit),D5 p.1/\True/\WfU p.2.2.1/\WfU p.2.2.2.1/\True->J p->((List.length a.1+ [(p.1,(p.2.1,p.2.2.1),p.2.2.2.1)].length)*(64:Nat)<=(140737488355328:Nat)/\List.length a.1+ [(p.1,(p.2.1,p.2.2.1),p.2.2.2.1)].length<=9223372036854775807)/\I (a.1++ [(p.1,(p.2.1,p.2.2.1),p.2.2.2.1)],IntKind.i64.wrap (a.2.1+1),())/\μ (a.1++ [(p.1,(p.2.1,p.2.2.1),p.2.2.2.1)],IntKind.i64.wrap (a.2.1+1),())<μ a)/\(decide (a.2.1<(b.1.length:Int))=false->((List.length p.2.2.2.1+ [a.1].length)*(24:Nat)<=(140737488355328:Nat)/\List.length p.2.2.2.1+ [a.1].length<=9223372036854775807)/\J (p.2.1,p.2.2.1,p.2.2.2.1++ [a.1],()))
def A6j:A7 M8.args->Prop:=fun(x:MM×Int×Int×Unit)=>True/\∀(r:Bool×Unit),True/\True->r.1=decide (A5 x.1)->((!r.1)=true->(¬A5 x.1->((0:Int),(0:Int),[])=zm/\(1:Int)=(1:Int))/\(A5 x.1->(¬(0<=x.2.1/\x.2.1<x.1.1/\0<=x.2.2.1/\x.2.2.1<x.1.2.1)->((0:Int),(0:Int),[])=zm/\(1:Int)=(3:Int))/\(0<=x.2.1/\x.2.1<x.1.1/\0<=x.2.2.1/\x.2.2.1<x.1.2.1->(el x.1 x.2.1.toNat x.2.2.1.toNat=(0:Rat)->((0:Int),(0:Int),[])=zm/\(1:Int)=(5:Int))/\(el x.1 x.2.1.toNat x.2.2.1.toNat≠(0:Rat)->isM (x.1.1-1).toNat (x.1.2.1-1).toNat (C8y x.1 x.2.1.toNat x.2.2.1.toNat) ((0:Int),(0:Int),[])/\(1:Int)=(0:Int)))))/\((!r.1)=false->(sel (sel (sel (decide (x.2.1<0)) true (decide (x.1.1<=x.2.1))) true (decide (x.2.2.1<0))) true (decide (x.1.2.1<=x.2.2.1))=true->(¬A5 x.1->((0:Int),(0:Int),[])=zm/\(3:Int)=(1:Int))/\(A5 x.1->(¬(0<=x.2.1/\x.2.1<x.1.1/\0<=x.2.2.1/\x.2.2.1<x.1.2.1)->((0:Int),(0:Int),[])=zm/\(3:Int)=(3:Int))/\(0<=x.2.1/\x.2.1<x.1.1/\0<=x.2.2.1/\x.2.2.1<x.1.2.1->(el x.1 x.2.1.toNat x.2.2.1.toNat=(0:Rat)->((0:Int),(0:Int),[])=zm/\(3:Int)=(5:Int))/\(el x.1 x.2.1.toNat x.2.2.1.toNat≠(0:Rat)->isM (x.1.1-1).toNat (x.1.2.1-1).toNat (C8y x.1 x.2.1.toNat x.2.2.1.toNat) ((0:Int),(0:Int),[])/\(3:Int)=(0:Int)))))/\(sel (sel (sel (decide (x.2.1<0)) true (decide (x.1.1<=x.2.1))) true (decide (x.2.2.1<0))) true (decide (x.1.2.1<=x.2.2.1))=false->(0<=x.2.1/\x.2.1<(x.1.2.2.length:Int))/\okV K1 (gx [] x.1.2.2 x.2.1)/\∀(r:QQ×Unit),WfQ r.1/\True->r.1=rc (E2 (gx [] x.1.2.2 x.2.1) x.2.2.1)->sh3 r.1/\∀(d:QQ×Bool×Unit),WfQ d.1/\True/\True->(rv r.1=(0:Rat)->d.2.1=false)/\(rv r.1≠(0:Rat)->d.1=rc (rv r.1)⁻¹/\d.2.1=true)->((!d.2.1)=true->(¬A5 x.1->((0:Int),(0:Int),[])=zm/\(5:Int)=(1:Int))/\(A5 x.1->(¬(0<=x.2.1/\x.2.1<x.1.1/\0<=x.2.2.1/\x.2.2.1<x.1.2.1)->((0:Int),(0:Int),[])=zm/\(5:Int)=(3:Int))/\(0<=x.2.1/\x.2.1<x.1.1/\0<=x.2.2.1/\x.2.2.1<x.1.2.1->(el x.1 x.2.1.toNat x.2.2.1.toNat=(0:Rat)->((0:Int),(0:Int),[])=zm/\(5:Int)=(5:Int))/\(el x.1 x.2.1.toNat x.2.2.1.toNat≠(0:Rat)->isM (x.1.1-1).toNat (x.1.2.1-1).toNat (C8y x.1 x.2.1.toNat x.2.2.1.toNat) ((0:Int),(0:Int),[])/\(5:Int)=(0:Int)))))/\((!d.2.1)=false->∃(I:Int×Int×Int×List (List EE)×Unit->Prop),∃(μ:Int×Int×Int×List (List EE)×Unit->Nat),I ((0:Int),IntKind.i64.wrap (x.1.1-1),IntKind.i64.wrap (x.1.2.1-1),[],())/\∀(p:Int×Int×Int×List (List EE)×Unit),D5 p.1/\D5 p.2.1/\D5 p.2.2.1/\G4j p.2.2.2.1/\True->I p->(decide (p.1<(x.1.2.2.length:Int))=true->∃(J:Int×Int×List (List EE)×Unit->Prop),((0<=p.1/\p.1<(x.1.2.2.length:Int))/\(decide (p.1=x.2.1)=true->J (p.2.1,p.2.2.1,p.2.2.2.1,()))/\(decide (p.1=x.2.1)=false->(okV K1 (gx [] x.1.2.2 p.1)/\∀(r:QQ×Unit),WfQ r.1/\True->r.1=rc (E2 (gx [] x.1.2.2 p.1) x.2.2.1)->((sh3 r.1/\sh3 d.1)/\∀(c:QQ×Unit),WfQ c.1/\True->c.1=rc (rv r.1*rv d.1)->(sh3 c.1/\qb x r I μ p J c)/\sh3 c.1/\qb x r I μ p J c)/\(sh3 r.1/\sh3 d.1)/\∀(c:QQ×Unit),WfQ c.1/\True->c.1=rc (rv r.1*rv d.1)->sh3 c.1/\qb x r I μ p J c)/\okV K1 (gx [] x.1.2.2 p.1)/\∀(r:QQ×Unit),WfQ r.1/\True->r.1=rc (E2 (gx [] x.1.2.2 p.1) x.2.2.1)->(sh3 r.1/\sh3 d.1)/\∀(c:QQ×Unit),WfQ c.1/\True->c.1=rc (rv r.1*rv d.1)->sh3 c.1/\qb x r I μ p J c))/\∀(a:Int×Int×List (List EE)×Unit),D5 a.1/\D5 a.2.1/\G4j a.2.2.1/\True->J a->I (IntKind.i64.wrap (p.1+1),a.1,a.2.1,a.2.2.1,())/\μ (IntKind.i64.wrap (p.1+1),a.1,a.2.1,a.2.2.1,())<μ p)/\(decide (p.1<(x.1.2.2.length:Int))=false->(¬A5 x.1->(p.2.1,p.2.2.1,p.2.2.2.1)=zm/\(0:Int)=(1:Int))/\(A5 x.1->(¬(0<=x.2.1/\x.2.1<x.1.1/\0<=x.2.2.1/\x.2.2.1<x.1.2.1)->(p.2.1,p.2.2.1,p.2.2.2.1)=zm/\(0:Int)=(3:Int))/\(0<=x.2.1/\x.2.1<x.1.1/\0<=x.2.2.1/\x.2.2.1<x.1.2.1->(el x.1 x.2.1.toNat x.2.2.1.toNat=(0:Rat)->(p.2.1,p.2.2.1,p.2.2.2.1)=zm/\(0:Int)=(5:Int))/\(el x.1 x.2.1.toNat x.2.2.1.toNat≠(0:Rat)->isM (x.1.1-1).toNat (x.1.2.1-1).toNat (C8y x.1 x.2.1.toNat x.2.2.1.toNat) (p.2.1,p.2.2.1,p.2.2.2.1)/\(0:Int)=(0:Int))))))))
theorem C3b (x:A7 M8.args):H4 Tryz.prog tys B3p D4a M8 Tryz.f50 x=A6j x:=by kernel_rfl
theorem A7v {D:List (List Ent)} {R C:Int} (h:∀x∈D,List.length x<=9223372036854775807/\∀y∈x,WfE y):E0x (R,C,D):=fun v hv=>C8b (h v hv).2
theorem B4s {D:List (List Ent)} {i:Int} (h0:0<=i) (h1:i<(D.length:Int)):gx [] D i=D.getD i.toNat []:=W9 h0 h1
theorem B6j (x:A7 I0.args) (hw:awf I0.args x) (_:I0.pre x):A2w x:=by
 simp only[A2w];rw[S9,Bool.decide_and]
theorem C2a (x:A7 E1.args) (hw:awf E1.args x) (_:E1.pre x):A6h x:=by
 obtain⟨⟨R,C,D⟩,_⟩:=x;have hD:D.length<=9223372036854775807:=hw.1.2.2.1;change Int at R C;change List (List Ent)at D;simp only[A6h];refine⟨trivial, ?_⟩;rintro⟨r,_⟩ _ hr;simp only at hr⊢;refine⟨fun _=>trivial, ?_⟩;rintro⟨s,_⟩ hs;simp only at hs⊢;rw[Q0,Q0];by_cases hR:0<=R/\R<=16384
 . have hr:r=true:=by rw[hr];exact decide_eq_true hR
   have hs:=(hs (by rw[hr];rfl)).2;rw[hr,hs];refine⟨fun h=> ?_,fun h=> ?_⟩
   . refine(decide_eq_false fun hv=> ?_).symm;obtain⟨_,_,v3,v4,v5,_⟩:=hv;simp only at v3 v4 v5;rw[decide_eq_true (show 0<=C/\C<=16384 from⟨v3,v4⟩)]at h;simp at h;exact h v5
   . simp only[Bool.not_true,Bool.false_or,Bool.or_eq_false_iff,Bool.not_eq_false',decide_eq_true_eq,decide_eq_false_iff_not,Decidable.not_not]at h;refine⟨fun p=>0<=p.1/\∀v∈D.take p.1.toNat,J4 v C,fun p=>((D.length:Int)-p.1).toNat,⟨Int.le_refl _,by simp⟩, ?_⟩;rintro⟨i,_⟩ _ ⟨h0,h1⟩;change Int at i;simp only at h0 h1⊢;refine⟨fun hi=> ?_,fun hi=> ?_⟩
     . have hi:=of_decide_eq_true hi;refine⟨⟨h0,hi⟩,trivial, ?_⟩;rintro⟨b,_⟩ _ hb;simp only at hb⊢;refine⟨fun h2=> ?_,fun h2=> ?_⟩
       . refine(decide_eq_false fun hv=> ?_).symm;rw[hb]at h2;have:=hv.2.2.2.2.2 _ (L3 (d:=([]:List Ent)) h0 hi);rw[decide_eq_true this]at h2;cases h2
       . rw[hb]at h2;have h2:decide (J4 (gx [] D i) C)=true:=by simpa using h2
         rw[wr (by omega) (by omega)];exact⟨⟨by omega,A2r (d:=([]:List Ent)) (q:=fun v=>J4 v C) h0 hi h1 (of_decide_eq_true h2)⟩,by omega⟩
     . have hi:=of_decide_eq_false hi;rw[D7 (by omega)]at h1;exact(decide_eq_true ⟨hR.1,hR.2,h.1.1,h.1.2,h.2,h1⟩).symm
 . have hr:r=false:=by rw[hr];exact decide_eq_false hR
   rw[hr];refine⟨fun _=>(decide_eq_false fun hv=>hR ⟨hv.1,hv.2.1⟩).symm,fun h=>(by simp at h)⟩
theorem C2h (x:A7 M9.args) (hw:awf M9.args x) (hp:M9.pre x):A5z x:=by
 obtain⟨n,_⟩:=x;change Int at n;obtain⟨n0,n1⟩:0<=n/\n<=16384:=hp;simp only[A5z];have hrl:(List.replicate n.toNat dQ).length=n.toNat:=List.length_replicate;rw[hrl];refine⟨⟨n0,Int.le_refl _,by omega,by omega⟩,fun p=>0<=p.1/\p.1<=n/\fill n.toNat p.1.toNat (fun _=>rc 0) p.2.1,fun p=>(n-p.1).toNat,⟨Int.le_refl _,n0,G2o hrl⟩, ?_⟩;rintro⟨i,out,_⟩ _ ⟨i0,i1,hf⟩;change Int at i;change List L5 at out;simp only at i0 i1 hf⊢;have:=hf.1;refine⟨fun h=>⟨trivial, ?_⟩,fun h=> ?_⟩
 . have h:=of_decide_eq_true h;rintro⟨r,_⟩ _ hr;simp only at hr⊢;rw[wr (by omega) (by omega)];exact⟨⟨i0,by omega⟩,⟨by omega,by omega,E1l hf i0 (by omega) (by rw[hr, <-E6t];rfl)⟩,by omega⟩
 . have h:=of_decide_eq_false h;rw[C1n hf (by omega),F6h]
theorem D3p (x:A7 X6.args) (hw:awf X6.args x) (hp:X6.pre x):B3o x:=by
 obtain⟨⟨R,C,D⟩,i,j,_⟩:=x;change Int at R C i j;change List (List Ent)at D;have hs:okM K1 (R,C,D):=hp;simp only[B3o];refine⟨trivial, ?_⟩;rintro⟨r,_⟩ _ hr;simp only at hr⊢;simp only[Q0];have hc:(!r||decide (i<0) ||decide (R<=i) ||decide (j<0) ||decide (C<=j))=false↔(A5 (R,C,D)/\0<=i/\i<R/\0<=j/\j<C):=by
  rw[hr];simp only[Bool.or_eq_false_iff,Bool.not_eq_false',decide_eq_true_eq,decide_eq_false_iff_not];constructor
  . rintro⟨⟨⟨⟨a,b⟩,c⟩,d⟩,e⟩;exact⟨a,by omega,by omega,by omega,by omega⟩
  . rintro⟨a,b,c,d,e⟩;exact⟨⟨⟨⟨a,by omega⟩,by omega⟩,by omega⟩,by omega⟩
 refine⟨fun h=>⟨trivial, ?_⟩,fun h=> ?_⟩
 . rintro⟨q,_⟩ _ hq;simp only at hq⊢;rw[if_neg fun h2=>(by rw[hc.2 h2]at h;cases h),hq, <-E6t];rfl
 . have h2:=hc.1 h;obtain⟨hv,i0,i1,j0,j1⟩:=id h2;have hl:(D.length:Int)=R:=hv.2.2.2.2.1;refine⟨⟨i0,by omega⟩,B1p hv hs (L3 (d:=([]:List Ent)) (l:=D) i0 (by omega)), ?_⟩;rintro⟨q,_⟩ _ hq;simp only at hq⊢;rw[if_pos h2,hq,B4s (D:=D) i0 (by omega)];unfold el;rw[show((j.toNat:Nat):Int)=j from by omega]
theorem E4c {R C:Int} {D:List (List Ent)} (i:Nat) (j:Int) (h:0<=j):E2 (D.getD i []) j=el (R,C,D) i j.toNat:=by
 unfold el;rw[show((j.toNat:Nat):Int)=j from by omega]
theorem C2c (x:A7 P9.args) (hw:awf P9.args x) (hp:P9.pre x):A6e x:=by
 obtain⟨⟨R,C,D⟩,X,_⟩:=x;have hlm:E0x (R,C,D):=A7v hw.1.2.2.2;have hlx:∀q∈X,F5s q:=fun q hq=>B9k (hw.2.1.2 q hq)
 change Int at R C;change List (List Ent)at D;change List L5 at X;obtain⟨hs,hx,hC⟩:okM K0 (R,C,D)/\szL K0 X/\C<=1000:=hp;simp only[A6e];refine⟨trivial, ?_⟩;rintro⟨r,_⟩ _ hr;simp only at hr⊢;by_cases hv:A5 (R,C,D)
 . have hr:r=true:=by rw[hr];exact decide_eq_true hv
   rw[hr];obtain⟨v1,v2,v3,v4,v5,v6⟩:=id hv;simp only at v1 v2 v3 v4 v5;refine⟨fun h=>(by cases h),fun _=>⟨fun h=> ?_,fun h=> ?_⟩⟩
   . have h:=of_decide_eq_true h;exact⟨fun h2=>absurd hv h2,fun _=>⟨fun _=>⟨by trivial,by trivial⟩,fun h2=>absurd h2 h⟩⟩
   . have hXC:=Decidable.not_not.1 (of_decide_eq_false h);refine⟨⟨v1,v2⟩, ?_⟩;rintro⟨z,_⟩ _ hz;simp only at hz⊢
     let F:Nat->L5:=fun i=>rc (Y8 X.length fun j=>el (R,C,D) i j*rv (X.getD j zr))
     refine⟨fun p=>0<=p.1/\p.1<=R/\fill R.toNat p.1.toNat F p.2.1/\∀j,p.1.toNat<=j->j<R.toNat->p.2.1.getD j dQ=rc 0,fun p=>(R-p.1).toNat,⟨Int.le_refl _,v1,G2o (by rw[hz];simp),fun j _ hj=> ?_⟩, ?_⟩
     . show z.getD j dQ= _;rw[hz,List.getD_eq_getElem?_getD,List.getElem?_replicate,if_pos hj];rfl
     rintro⟨k,out,_⟩ _ ⟨k0,k1,hf,hz0⟩;change Int at k;change List L5 at out;simp only at k0 k1 hf hz0⊢;have hol:=hf.1;refine⟨fun h=> ?_,fun h=> ?_⟩
     . have h:=of_decide_eq_true h;have hme:=L3 (d:=([]:List Ent)) k0 h;rw[B4s k0 h]at hme⊢;have hrow:=B1p hv hs hme;have hvr:J4 (D.getD k.toNat []) C:=v6 _ hme;have hlr:=hlm _ hme;have hlen:(D.getD k.toNat []).length<=1000:=by have:=D2d hvr;omega
       have hcmp:∀j:Nat,E2 (D.getD k.toNat []) (j:Int)=el (R,C,D) k.toNat j:=fun j=>rfl
       generalize D.getD k.toNat []=row at*
       let H:Int->Rat:=fun i=>rv (X.getD i.toNat zr)
       refine⟨⟨k0,h⟩,fun p=>0<=p.1/\p.1<=(row.length:Int)/\fill R.toNat k.toNat F p.2.1/\(∀j,k.toNat<j->j<R.toNat->p.2.1.getD j dQ=rc 0)/\p.2.1.getD k.toNat dQ=rc (A9c (row.take p.1.toNat) H),fun p=>((row.length:Int)-p.1).toNat,⟨Int.le_refl _,Int.natCast_nonneg _,hf,fun j h1 h2=>hz0 j (by omega) h2,hz0 _ (Nat.le_refl _) (by omega)⟩, ?_⟩;rintro⟨t,o,_⟩ _ ⟨t0,t1,g1,g2,g3⟩;change Int at t;change List L5 at o;simp only at t0 t1 g1 g2 g3⊢;have hol2:=g1.1;refine⟨fun ht=> ?_,fun ht=> ?_⟩
       . have ht:=of_decide_eq_true ht;have hem:=L3 (d:=dEE) t0 ht;obtain⟨e0,e1,_⟩:=hvr.2 _ hem;have hse:=hrow.2.1 _ hem;have hle:=hlr _ hem;have hst:=E6m (d:=dEE) t0 ht H;have hqs:=F6t (v:=row.take t.toNat) (h:=H) (j:=K0) (k:=K0) (fun e he=>hlr e (List.mem_of_mem_take he)) (fun e he=>hrow.2.1 e (List.mem_of_mem_take he)) (by decide) fun e he=>by
          have:=hvr.2 e (List.mem_of_mem_take he);exact B2h (hlx _ (E7 (by omega))) (hx _ (E7 (by omega))) (by decide)
         have htl:(row.take t.toNat).length<=999:=by rw[List.length_take];omega
         generalize gx dEE row t=e at*;have hex:e.1<(X.length:Int):=by omega
         rw[F7o e0 hex];have hxm:X.getD e.1.toNat zr∈X:=E7 (by omega);have hpq:=A2n (B2h hle hse (by decide)) (B2h (hlx _ hxm) (hx _ hxm) (by decide));refine⟨⟨t0,ht⟩,⟨k0,by omega⟩,⟨e0,hex⟩,⟨A0c hse (by decide),A0c (hx _ hxm) (by decide)⟩, ?_⟩;rintro⟨q,_⟩ _ hq;simp only at hq⊢;refine⟨⟨?_,by rw[hq];exact A2a hpq (by decide)⟩, ?_⟩
         . rw[g3];refine A2a hqs ?_;have h7:K0+K0+1=2147483649:=by decide
           rw[h7];omega
         rintro⟨u,_⟩ _ hu;simp only at hu⊢;rw[wr (by omega) (by omega)];refine⟨⟨k0,by omega⟩,⟨by omega,by omega,⟨by rw[List.length_set];exact hol2,fun j hj=> ?_⟩,fun j h1 h2=> ?_, ?_⟩,by omega⟩
         . rw[List.getElem?_set,if_neg (by omega)];exact g1.2 j hj
         . rw[List.getD_eq_getElem?_getD,List.getElem?_set,if_neg (by omega), <-List.getD_eq_getElem?_getD];exact g2 j h1 h2
         . rw[List.getD_eq_getElem?_getD,List.getElem?_set,if_pos rfl,if_pos (by omega),hst,hu,hq,g3,U4,U4];rfl
       . have ht:=of_decide_eq_false ht;rw[D7 (by omega)]at g3;rw[wr (by omega) (by omega)];refine⟨⟨by omega,by omega,⟨hol2,fun j hj=> ?_⟩,fun j h1 h2=>g2 j (by omega) h2⟩,by omega⟩;by_cases hj2:j<k.toNat
         . exact g1.2 j hj2
         . have hjk:j=k.toNat:=by omega
           subst hjk;have hlt:k.toNat<o.length:=by omega
           rw[List.getElem?_eq_getElem hlt];rw[List.getD_eq_getElem?_getD,List.getElem?_eq_getElem hlt]at g3;have g3:o[k.toNat]=rc (A9c row H):=g3;rw[g3,F7k (n:=X.length) fun e he=>⟨(hvr.2 e he).1,by have:=(hvr.2 e he).2.1;omega⟩];exact congrArg some (congrArg rc (A9a fun j _=>by rw[hcmp];rfl))
     . have h:=of_decide_eq_false h;exact⟨fun h2=>absurd hv h2,fun _=>⟨fun h2=>absurd hXC h2,fun _=>⟨C1n hf (by omega),by trivial⟩⟩⟩
 . have hr:r=false:=by rw[hr];exact decide_eq_false hv
   rw[hr];exact⟨fun _=>⟨fun _=>⟨by trivial,by trivial⟩,fun h=>absurd h hv⟩,fun h=>(by cases h)⟩
theorem C2l {d:Ent} {v:List Ent} {i:Int} (h0:0<=i) (h1:i<(v.length:Int)) (j:Int):E2 (v.take (i+1).toNat) j=E2 (v.take i.toNat) j+if(gx d v i).1=j then rv (gx d v i).2 else 0:=by
 rw[show(i+1).toNat=i.toNat+1 from by omega,List.take_add_one,K5 (d:=d) h0 h1,A6g];simp only[Option.toList_some,E2,Rat.add_zero]
theorem B8p (x:A7 N4.args) (hw:awf N4.args x) (hp:N4.pre x):A4l x:=by
 obtain⟨⟨R,C,D⟩,X,_⟩:=x;have hlm:E0x (R,C,D):=A7v hw.1.2.2.2;have hlx:∀q∈X,F5s q:=fun q hq=>B9k (hw.2.1.2 q hq)
 change Int at R C;change List (List Ent)at D;change List L5 at X;obtain⟨hs,hx,hR⟩:okM K0 (R,C,D)/\szL K0 X/\(A5 (R,C,D)->R<=1000):=hp;simp only[A4l];refine⟨trivial, ?_⟩;rintro⟨r,_⟩ _ hr;simp only at hr⊢;by_cases hv:A5 (R,C,D)
 . have hr:r=true:=by rw[hr];exact decide_eq_true hv
   have hR:=hR hv;rw[hr];obtain⟨v1,v2,v3,v4,v5,v6⟩:=id hv;simp only at v1 v2 v3 v4 v5;refine⟨fun h=>(by cases h),fun _=>⟨fun h=> ?_,fun h=> ?_⟩⟩
   . have h:=of_decide_eq_true h;exact⟨fun h2=>absurd hv h2,fun _=>⟨fun _=>⟨by trivial,by trivial⟩,fun h2=>absurd h2 h⟩⟩
   . have hXC:=Decidable.not_not.1 (of_decide_eq_false h);refine⟨⟨v3,v4⟩, ?_⟩;rintro⟨z,_⟩ _ hz;simp only at hz⊢
     let G:Nat->Nat->Rat:=fun k j=>Y8 k fun i=>el (R,C,D) i j*rv (X.getD i zr)
     have hGq:∀k j,k<=X.length->qs (k*(K0+K0+1)+1) (G k j):=fun k j hk=>F0a fun i hi=>A2n (D0v hv hlm hs (by decide) i j) (B2h (hlx _ (E7 (by omega))) (hx _ (E7 (by omega))) (by decide))
     refine⟨fun p=>0<=p.1/\p.1<=R/\fill C.toNat C.toNat (fun j=>rc (G p.1.toNat j)) p.2.1,fun p=>(R-p.1).toNat,⟨Int.le_refl _,v1,by rw[hz];simp,fun j hj=> ?_⟩, ?_⟩
     . show z[j]? = _;rw[hz,List.getElem?_replicate,if_pos hj];rfl
     rintro⟨k,out,_⟩ _ ⟨k0,k1,hf⟩;change Int at k;change List L5 at out;simp only at k0 k1 hf⊢;have hol:=hf.1;refine⟨fun h=> ?_,fun h=> ?_⟩
     . have h:=of_decide_eq_true h;have hme:=L3 (d:=([]:List Ent)) k0 h;have hkX:k<(X.length:Int):=by omega
       rw[B4s k0 h]at hme⊢;rw[F7o k0 hkX];have hxm:X.getD k.toNat zr∈X:=E7 (by omega);have hrow:=B1p hv hs hme;have hvr:J4 (D.getD k.toNat []) C:=v6 _ hme;have hlr:=hlm _ hme;have hrl:=hrow.2.2;have hcmp:∀j:Nat,E2 (D.getD k.toNat []) (j:Int)=el (R,C,D) k.toNat j:=fun j=>rfl
       have hyq:=B2h (hlx _ hxm) (hx _ hxm) (by decide);have hys:=hx _ hxm;have hstep:∀j,G (k+1).toNat j=G k.toNat j+el (R,C,D) k.toNat j*rv (X.getD k.toNat zr):=fun j=>by
        show Y8 _ _=Y8 _ _ + _;rw[show(k+1).toNat=k.toNat+1 from by omega,Y8]
       generalize X.getD k.toNat zr=y at*;generalize D.getD k.toNat []=row at*;refine⟨fun p=>fill C.toNat C.toNat (fun j=>rc (G (k+1).toNat j)) p.1,⟨⟨k0,h⟩,⟨k0,hkX⟩,trivial, ?_⟩, ?_⟩
       . rintro⟨s,_⟩ _ hsg;simp only at hsg⊢;refine⟨fun h0=> ?_,fun h0=> ?_⟩
         . have h0:rv y=0:=D1w (by rw[<-hsg];exact of_decide_eq_true h0);refine⟨hol,fun j hj=> ?_⟩;dsimp only;rw[hstep,h0,Rat.mul_zero,Rat.add_zero];exact hf.2 j hj
         . refine⟨fun p=>0<=p.1/\p.1<=(row.length:Int)/\fill C.toNat C.toNat (fun j:Nat=>rc (G k.toNat j+rv y*E2 (row.take p.1.toNat) (j:Int))) p.2.1,fun p=>((row.length:Int)-p.1).toNat,⟨Int.le_refl _,Int.natCast_nonneg _,hol,fun j hj=> ?_⟩, ?_⟩
           . rw[hf.2 j hj];show some (rc _)=some (rc (_ +rv y*0));rw[Rat.mul_zero,Rat.add_zero]
           rintro⟨t,o,_⟩ _ ⟨t0,t1,g1⟩;change Int at t;change List L5 at o;simp only at t0 t1 g1⊢;have hol2:=g1.1;refine⟨fun ht=> ?_,fun ht=> ?_⟩
           . have ht:=of_decide_eq_true ht;have hem:=L3 (d:=dEE) t0 ht;obtain⟨e0,e1,_⟩:=hvr.2 _ hem;have hse:=hrow.2.1 _ hem;have hle:=hlr _ hem;have hst:=C2l (d:=dEE) t0 ht;have hcq:=B0n (v:=row.take t.toNat) (k:=K0) hrow.1.take (fun e he=>hlr e (List.mem_of_mem_take he)) (fun e he=>hrow.2.1 e (List.mem_of_mem_take he)) (by decide);generalize gx dEE row t=e at*;have hoe:o.getD e.1.toNat dQ=rc (G k.toNat e.1.toNat+rv y*E2 (row.take t.toNat) e.1):=by
              rw[List.getD_eq_getElem?_getD,g1.2 _ (by omega)];show rc (G k.toNat e.1.toNat+rv y*E2 (row.take t.toNat) ((e.1.toNat:Nat):Int))= _;rw[show((e.1.toNat:Nat):Int)=e.1 from by omega]
             refine⟨⟨t0,ht⟩,⟨e0,by omega⟩,⟨k0,hkX⟩,⟨A0c hys (by decide),A0c hse (by decide)⟩, ?_⟩;rintro⟨q,_⟩ _ hq;simp only at hq⊢;refine⟨⟨?_,by rw[hq];exact A2a (A2n hyq (B2h hle hse (by decide))) (by decide)⟩, ?_⟩
             . rw[hoe];refine A2a (E8e (hGq _ _ (by omega)) (A2n hyq (hcq e.1))) ?_;have h7:K0+K0+1=2147483649:=by decide
               have h8:K0+K0=2147483648:=by decide
               rw[h7,h8];omega
             rintro⟨u,_⟩ _ hu;simp only at hu⊢;rw[wr (by omega) (by omega)];refine⟨⟨e0,by omega⟩,⟨by omega,by omega,by rw[List.length_set];exact hol2,fun j hj=> ?_⟩,by omega⟩;dsimp only;rw[List.getElem?_set,hst];by_cases hje:e.1.toNat=j
             . rw[if_pos hje,if_pos (by omega),hu,hq,hoe,U4,U4,if_pos (by omega),Rat.mul_add, <-Rat.add_assoc, <-hje,show((e.1.toNat:Nat):Int)=e.1 from by omega]
             . rw[if_neg hje,if_neg (by omega),Rat.add_zero];exact g1.2 j hj
           . have ht:=of_decide_eq_false ht;rw[D7 (by omega)]at g1;refine⟨hol2,fun j hj=> ?_⟩;dsimp only;rw[hstep, <-hcmp,Rat.mul_comm (E2 row _)];exact g1.2 j hj
       . rintro⟨o,_⟩ _ ho;simp only at ho⊢;rw[wr (by omega) (by omega)];exact⟨⟨by omega,by omega,ho⟩,by omega⟩
     . have h:=of_decide_eq_false h;have hkR:k.toNat=X.length:=by omega
       rw[hkR]at hf;exact⟨fun h2=>absurd hv h2,fun _=>⟨fun h2=>absurd hXC h2,fun _=>⟨C1n hf (Nat.le_refl _),by trivial⟩⟩⟩
 . have hr:r=false:=by rw[hr];exact decide_eq_false hv
   rw[hr];exact⟨fun _=>⟨fun _=>⟨by trivial,by trivial⟩,fun h=>absurd h hv⟩,fun h=>(by cases h)⟩
theorem G0t {j k:Nat} {v:List Ent} (h:szV j v) (hk:j<=k):szV k v:=fun e he=>G5b (h e he) hk
theorem B0d {j k:Nat} {m:A8b} (h:okM j m) (hk:j<=k):okM k m:=fun v hv=>G0t (h v hv) hk
def shL (j:Int) (e:Ent):Ent:=if j<e.1 then(e.1-1,e.2)else e
theorem G2c (j:Int) (e:Ent):(shL j e).1=if j<e.1 then e.1-1 else e.1:=by unfold shL;split<;>rfl
theorem G9p (j:Int) (e:Ent):(shL j e).2=e.2:=by unfold shL;split<;>rfl
theorem G3j {j:Int} {w:List Ent} (hj:∀e∈w,e.1≠j) (c:Int):E2 (w.map (shL j)) c=E2 w (if c<j then c else c+1):=by
 induction w with
 |nil=>rfl
 |cons e w ih=>
  have h1:=hj e (List.mem_cons_self ..);rw[List.map_cons,E2,E2,ih fun x hx=>hj x (List.mem_cons_of_mem _ hx),G2c,G9p];congr 1;by_cases h2:j<e.1
  . rw[if_pos h2];by_cases h3:c<j
    . rw[if_pos h3,if_neg (by omega),if_neg (by omega)]
    . rw[if_neg h3];by_cases h4:e.1-1=c
      . rw[if_pos h4,if_pos (by omega)]
      . rw[if_neg h4,if_neg (by omega)]
  . rw[if_neg h2];by_cases h3:c<j
    . rw[if_pos h3]
    . rw[if_neg h3,if_neg (by omega),if_neg (by omega)]
theorem G0s {j:Int} {w:List Ent} (h:C8p w) (hj:∀e∈w,e.1≠j):C8p (w.map (shL j)):=by
 refine⟨?_,fun e he=> ?_⟩
 . unfold asc;rw[List.pairwise_map];refine List.Pairwise.imp_of_mem ?_ h.1;intro a b ha hb hab;rw[G2c,G2c];have:=hj a ha;have:=hj b hb;split<;>split<;>omega
 . obtain⟨x,hx,rfl⟩:=List.mem_map.1 he;rw[G9p];exact h.2 x hx
theorem F1b {R C:Int} {D:List (List Ent)} {k:Nat} (hv:A5 (R,C,D)) (hl:E0x (R,C,D)) (hs:okM k (R,C,D)) (hk:1<=k) {v:List Ent} (hm:v∈D) (j:Int):qs k (E2 v j):=B0n (hv.2.2.2.2.2 v hm).1 (hl v hm) (hs v hm) hk j
theorem G5p (a b c d:Rat):a+ -(b*d⁻¹)*c=a-b*c/d:=by
 rw[Rat.div_def];grind
theorem C1q (x:A7 M8.args) (hw:awf M8.args x) (hp:M8.pre x):A6j x:=by
 obtain⟨⟨R,C,D⟩,I,J,_⟩:=x;have hlm:E0x (R,C,D):=A7v hw.1.2.2.2;change Int at R C I J;change List (List Ent)at D;have hs:okM K0 (R,C,D):=hp;have hs1:okM K1 (R,C,D):=B0d hs (by decide);simp only[A6j,qb];refine⟨trivial, ?_⟩;rintro⟨r,_⟩ _ hr;simp only at hr⊢;simp only[Q0];by_cases hv:A5 (R,C,D)
 . have hr:r=true:=by rw[hr];exact decide_eq_true hv
   rw[hr];obtain⟨v1,v2,v3,v4,_,_⟩:=id hv;have v5:(D.length:Int)=R:=hv.2.2.2.2.1;have v6:∀v∈D,J4 v C:=hv.2.2.2.2.2;simp only at v1 v2 v3 v4;refine⟨fun h=>(by cases h),fun _=>⟨fun h=> ?_,fun h=> ?_⟩⟩
   . simp only[Bool.or_eq_true,decide_eq_true_eq]at h;exact⟨fun h2=>absurd hv h2,fun _=>⟨fun _=>⟨rfl,by trivial⟩,fun h2=>absurd h2 (by omega)⟩⟩
   . simp only[Bool.or_eq_false_iff,decide_eq_false_iff_not]at h;have hin:0<=I/\I<R/\0<=J/\J<C:=by omega
     obtain⟨i0,i1,j0,j1⟩:=hin;have hmi:=L3 (d:=([]:List Ent)) (l:=D) i0 (by omega);rw[B4s (D:=D) i0 (by omega)]at hmi⊢;have hpq:=F1b hv hlm hs (by decide) hmi J;have hpe:E2 (D.getD I.toNat []) J=el (R,C,D) I.toNat J.toNat:=E4c _ _ j0;refine⟨⟨i0,by omega⟩,B1p hv hs1 hmi, ?_⟩;rintro⟨pq,_⟩ _ hpv;simp only at hpv⊢;subst hpv;refine⟨A2a hpq (by decide), ?_⟩;rintro⟨inv,ok,_⟩ _ ⟨hi1,hi2⟩;simp only[U4]at hi1 hi2⊢;rw[hpe]at hi1 hi2 hpq;by_cases hz:el (R,C,D) I.toNat J.toNat=0
     . rw[hi1 hz];exact⟨fun _=>⟨fun h2=>absurd hv h2,fun _=>⟨fun h2=>absurd ⟨i0,i1,j0,j1⟩ h2,fun _=>⟨fun _=>⟨rfl,by trivial⟩,fun h2=>absurd hz h2⟩⟩⟩,fun h2=>(by cases h2)⟩
     . obtain⟨hi3,hi4⟩:=hi2 hz;rw[hi4];refine⟨fun h2=>(by cases h2),fun _=> ?_⟩;subst hi3;rw[wr (a:=R-1) (by omega) (by omega),wr (a:=C-1) (by omega) (by omega)]
       let rowIx:Int->Nat:=fun k=>if k<=I then k.toNat else(k-1).toNat
       refine⟨fun p=>0<=p.1/\p.1<=R/\p.2.1=R-1/\p.2.2.1=C-1/\p.2.2.2.1.length=rowIx p.1/\∀t,t<p.2.2.2.1.length->isV (C-1).toNat (C8y (R,C,D) I.toNat J.toNat t) (p.2.2.2.1.getD t []),fun p=>(R-p.1).toNat,⟨Int.le_refl _,v1,rfl,rfl,by show 0=rowIx 0;simp[rowIx],fun t ht=>by simp at ht⟩, ?_⟩;rintro⟨k,a,b,rows,_⟩ _ ⟨k0,k1,ka,kb,kl,kf⟩;change Int at k a b;change List (List Ent)at rows;simp only at k0 k1 ka kb kl kf⊢;subst ka kb;have hrl:rows.length<=16384:=by
        rw[kl];simp only[rowIx];split<;>omega
       refine⟨fun h=> ?_,fun h=> ?_⟩
       . have h:=of_decide_eq_true h;have hmk:=L3 (d:=([]:List Ent)) k0 h;rw[B4s k0 h]at hmk⊢;have hkq:=F1b hv hlm hs (by decide) hmk;have hke:∀c:Nat,E2 (D.getD k.toNat []) (c:Int)=el (R,C,D) k.toNat c:=fun _=>rfl
         have hkJ:E2 (D.getD k.toNat []) J=el (R,C,D) k.toNat J.toNat:=E4c _ _ j0;have hie:∀c:Nat,E2 (D.getD I.toNat []) (c:Int)=el (R,C,D) I.toNat c:=fun _=>rfl
         have hok1:=B1p hv hs1 hmk;have hok2:=B1p hv hs1 hmi;have hvk:=v6 _ hmk;have hvi:=v6 _ hmi;refine⟨fun p=>p.1=R-1/\p.2.1=C-1/\p.2.2.1.length=rowIx (k+1)/\∀t,t<p.2.2.1.length->isV (C-1).toNat (C8y (R,C,D) I.toNat J.toNat t) (p.2.2.1.getD t []),⟨⟨k0,h⟩,fun hk=> ?_,fun hk=> ?_⟩, ?_⟩
         . have hk:=of_decide_eq_true hk;refine⟨rfl,rfl, ?_,kf⟩;show rows.length= _;rw[kl];simp only[rowIx];rw[if_pos (by omega),if_neg (by omega)];omega
         . have hk:=of_decide_eq_false hk;have hq3:=G3o (A2n (hkq J) (F2h hpq));generalize hrk:D.getD k.toNat []=rk at*;generalize hri:D.getD I.toNat []=ri' at*;have S1:sh3 (rc (E2 rk J)):=A2a (hkq J) (by decide);have S2:sh3 (rc (el (R,C,D) I.toNat J.toNat)⁻¹):=A2a (F2h hpq) (by decide);have S3:sh3 (rc (E2 rk J*(el (R,C,D) I.toNat J.toNat)⁻¹)):=A2a (A2n (hkq J) (F2h hpq)) (by decide);have S4:0<=I/\I<(D.length:Int):=⟨i0,by omega⟩;have S5:okV K1 rk/\sz K1 (rc (-(E2 rk J*(el (R,C,D) I.toNat J.toNat)⁻¹)))/\okV K1 ri':=⟨hok1,B2s hq3 (by decide),hok2⟩
           repeat' first
            |assumption
            |apply And.intro
            | (rintro⟨q,_⟩ _ hq;simp only[U4]at hq⊢;subst hq;try simp only[U4])
           all_goals
            rintro⟨w,_⟩ ⟨⟨hwl,_⟩,_⟩ ⟨hw1,hw2⟩;change List Ent at w;simp only[U4]at hw1 hw2 hwl⊢;have hwc:∀c:Int,E2 w c=E2 rk c-E2 rk J*E2 ri' c/el (R,C,D) I.toNat J.toNat:=fun c=>by rw[hw2,G5p]
            have hwj:∀e∈w,e.1≠J:=fun e he hej=>by
             have h3:=B1c hw1.1 he;rw[hej,hwc,hpe,Rat.mul_div_cancel hz,Rat.sub_self]at h3;exact(hw1.2 e he).1 h3.symm
            have hwr:∀e∈w,0<=e.1/\e.1<C:=fun e he=>Decidable.byContradiction fun hn=>by
             have h3:=B1c hw1.1 he;rw[hwc,D1q hvk hn,D1q hvi hn,Rat.mul_zero,Rat.div_def,Rat.zero_mul,Rat.sub_self]at h3;exact(hw1.2 e he).1 h3.symm
            have hwlen:(w.length:Int)<=C:=by
             have:=D2d (v:=w) (n:=C) ⟨hw1.1,fun e he=>⟨(hwr e he).1,(hwr e he).2,(hw1.2 e he).1⟩⟩;omega
            refine⟨fun p=>0<=p.2.1/\p.2.1<=(w.length:Int)/\p.1=(w.take p.2.1.toNat).map (shL J),fun p=>((w.length:Int)-p.2.1).toNat,⟨Int.le_refl _,Int.natCast_nonneg _,rfl⟩, ?_⟩;rintro⟨kept,t,_⟩ _ ⟨t0,t1,hkp⟩;change List Ent at kept;change Int at t;simp only at t0 t1 hkp⊢;have hkl:kept.length<=16384:=by rw[hkp,List.length_map,List.length_take];omega
            refine⟨fun ht=> ?_,fun ht=> ?_⟩
            . have ht:=of_decide_eq_true ht;have hem:=L3 (d:=dEE) t0 ht;have her:=hwr _ hem;have hts:w.take (t+1).toNat=w.take t.toNat++ [gx dEE w t]:=by
               rw[show(t+1).toNat=t.toNat+1 from by omega,List.take_add_one,K5 (d:=dEE) t0 ht];rfl
              generalize gx dEE w t=e at*;refine⟨⟨t0,ht⟩,fun p=>(p.1,(p.2.1,p.2.2.1),p.2.2.2.1)=shL J e,⟨fun hc=> ?_,fun hc=> ?_⟩, ?_⟩
              . have hc:=of_decide_eq_true hc;rw[wr (by omega) (by omega)];unfold shL;rw[if_pos hc]
              . have hc:=of_decide_eq_false hc;unfold shL;rw[if_neg hc]
              . rintro⟨e1,e2,e3,e4,_⟩ _ he;simp only at he⊢;rw[he,wr (by omega) (by omega)];refine⟨⟨by simp only[List.length_singleton];omega,by simp only[List.length_singleton];omega⟩,⟨by omega,by omega, ?_⟩,by omega⟩;rw[hts,List.map_append,hkp];rfl
            . have ht:=of_decide_eq_false ht;rw[D7 (by omega)]at hkp;refine⟨⟨by simp only[List.length_singleton];omega,by simp only[List.length_singleton];omega⟩,by trivial,by trivial, ?_,fun u hu=> ?_⟩
              . show(rows++ [kept]).length= _;rw[List.length_append,kl,List.length_singleton];simp only[rowIx];by_cases hkI:k<=I
                . rw[if_pos hkI,if_pos (by omega)];omega
                . rw[if_neg hkI,if_neg (by omega)];omega
              . have hu:u<(rows++ [kept]).length:=hu;show isV _ _ ((rows++ [kept]).getD u []);rw[List.length_append,List.length_singleton]at hu;rw[List.getD_eq_getElem?_getD];by_cases hu2:u<rows.length
                . rw[List.getElem?_append_left hu2, <-List.getD_eq_getElem?_getD];exact kf u hu2
                . have hu3:u=rows.length:=by omega
                  subst hu3;rw[List.getElem?_append_right (Nat.le_refl _),Nat.sub_self];show isV _ _ kept;have hr0:(if rows.length<I.toNat then rows.length else rows.length+1)=k.toNat:=by
                   rw[kl];simp only[rowIx];by_cases hkI:k<=I
                   . rw[if_pos hkI,if_pos (by omega)]
                   . rw[if_neg hkI,if_neg (by omega)];omega
                  rw[hkp];refine⟨G0s hw1 hwj,fun e he=> ?_,fun c hc=> ?_⟩
                  . obtain⟨x,hx,rfl⟩:=List.mem_map.1 he;have:=hwr x hx;have:=hwj x hx;rw[G2c];split<;>omega
                  . rw[G3j hwj,hwc];unfold C8y;rw[hr0,hkJ];by_cases hcJ:c<J.toNat
                    . rw[if_pos (by omega),if_pos hcJ,hke,hie]
                    . rw[if_neg (by omega),if_neg hcJ,show((c:Int)+1)=((c+1:Nat):Int)from by omega,hke,hie]
         . rintro⟨a,b,rows2,_⟩ _ ⟨g1,g2,g3,g4⟩;simp only at g1 g2 g3 g4⊢;rw[wr (by omega) (by omega)];exact⟨⟨by omega,by omega,g1,g2,g3,g4⟩,by omega⟩
       . have h:=of_decide_eq_false h;have hlen:rows.length=(R-1).toNat:=by rw[kl];simp only[rowIx];rw[if_neg (by omega)];omega
         exact⟨fun h2=>absurd hv h2,fun _=>⟨fun h2=>absurd ⟨i0,i1,j0,j1⟩ h2,fun _=>⟨fun h2=>absurd h2 hz,fun _=>⟨⟨by show R-1= _;omega,by show C-1= _;omega,hlen,fun t ht=>kf t (by omega)⟩,by trivial⟩⟩⟩⟩
 . have hr:r=false:=by rw[hr];exact decide_eq_false hv
   rw[hr];exact⟨fun _=>⟨fun _=>⟨rfl,by trivial⟩,fun h=>absurd h hv⟩,fun h=>(by cases h)⟩
noncomputable def A8h:B4:= []
def A8d:An:= {}
def B4t:An:= {join:= [(17,⟨[5,48,49,50],[1,3],[(10,false,[.own tE 94])],[],[]⟩)],loop:= [(6,⟨[3,5,7,14,15,16,25,26],[0,2],[(27,false,[.val (.int .i64)])],[],[(1, .map false (.int .i64) true tQ)]⟩),(3,⟨[3,5,14,15],[0],[(16,false,[.val (.int .i64)])],[],[(1, .map false (.int .i64) true tQ)]⟩),(13,⟨[5,48,49],[1,3],[(10,false,[.own tE 94]),(50,false,[.val (.int .i64)])],[],[]⟩)],plan:= [(8,[2,5,6,8,10],[13],true,(.p 0 (.p 1 (.q 2 (.p 3 (.p 4 (.q 5 (.q 6 (.p 7 (.q 8 (.p 9 (.q 10 (.e 11 (.e 12 (.e 13 .done)))))))))))))))]}
noncomputable def A3q:B4:= [(71,G2),(122,F4),(160,D8),(174,A7e (E8q 215 3)),(175,A7e (F3o ⟨Tryz.prog,tys⟩ [(47,A8h,A8d)] Tryz.f175.results.toList (Tryz.f175.body.getD .skip) Tryz.f175.ntmps))]
noncomputable def D0e:B4:= []
def D0q:An:= {}
def E2k:An:= {loop:= [(7,⟨[3,4,6,30,31],[1,2,5],[(32,false,[.val (.int .i64)])],[],[(4, .row (.sl tE) 92)]⟩)],plan:= [(9,[1,4],[7],true,(.p 0 (.q 1 (.p 2 (.p 3 (.q 4 (.e 5 (.p 6 (.e 7 .done)))))))))]}
noncomputable def C2x:B4:= [(85,E1),(125,F5),(110,A7e (F3o ⟨Tryz.prog,tys⟩ [(28,D0e,D0q)] Tryz.f110.results.toList (Tryz.f110.body.getD .skip) Tryz.f110.ntmps))]
noncomputable def B2n:B4:= []
def B1y:An:= {}
def B9n:An:= {loop:= [(8,⟨[2,4,5,19,20,21,26,27],[1,4],[(28,false,[.val (.int .i64)])],[],[(3, .rows tE 92 94)]⟩),(5,⟨[2,4,19,20],[1,4],[(21,false,[.val (.int .i64)])],[],[(3, .rows tE 92 94)]⟩)],plan:= [(10,[5,7,9,12],[16,18],false,(.p 0 (.p 2 (.p 4 (.q 5 (.p 6 (.q 7 (.p 8 (.q 9 (.p 10 (.p 11 (.q 12 (.or 1 (.or 3 (.e 13 (.p 14 (.e 15 (.e 16 (.p 17 (.e 18 .done)))))) (.e 13 (.p 14 (.or 3 (.e 15 (.e 16 (.p 17 (.e 18 .done)))) (.e 15 (.or 3 (.e 16 (.p 17 (.e 18 .done))) (.e 16 (.e 3 (.p 17 (.e 18 .done)))))))))) (.or 3 (.or 1 (.e 13 (.p 14 (.e 15 (.e 16 (.p 17 (.e 18 .done)))))) (.e 13 (.p 14 (.or 1 (.e 15 (.e 16 (.p 17 (.e 18 .done)))) (.e 15 (.or 1 (.e 16 (.p 17 (.e 18 .done))) (.e 16 (.e 1 (.p 17 (.e 18 .done)))))))))) (.e 13 (.p 14 (.or 1 (.or 3 (.e 15 (.e 16 (.p 17 (.e 18 .done)))) (.e 15 (.or 3 (.e 16 (.p 17 (.e 18 .done))) (.e 16 (.e 3 (.p 17 (.e 18 .done))))))) (.or 3 (.or 1 (.e 15 (.e 16 (.p 17 (.e 18 .done)))) (.e 15 (.or 1 (.e 16 (.p 17 (.e 18 .done))) (.e 16 (.e 1 (.p 17 (.e 18 .done))))))) (.e 15 (.or 1 (.or 3 (.e 16 (.p 17 (.e 18 .done))) (.e 16 (.e 3 (.p 17 (.e 18 .done))))) (.or 3 (.or 1 (.e 16 (.p 17 (.e 18 .done))) (.e 16 (.e 1 (.p 17 (.e 18 .done))))) (.e 16 (.or 1 (.e 3 (.p 17 (.e 18 .done))) (.e 3 (.e 1 (.p 17 (.e 18 .done)))))))))))))))))))))))))))]}
noncomputable def A6b:B4:= [(85,E1),(111,E6),(110,A7e (F3o ⟨Tryz.prog,G3r⟩ [(17,B2n,B1y)] Tryz.f110.results.toList (Tryz.f110.body.getD .skip) Tryz.f110.ntmps))]
noncomputable def B8t:B4:= []
def C0j:An:= {}
def D0r:An:= {loop:= [(10,⟨[1,2,3,6,9,51,52],[0,1],[(53,false,[.val (.int .i64)])],[],[(2, .map false (.int .i64) false (.sl (.int .i64)))]⟩),(23,⟨[3,6,9,12,13,17,72,73,74,83,84,85,92,93],[0,1,2,4,5,7],[(15,false,[.own tE 94]),(94,false,[.val (.int .i64)])],[],[]⟩),(20,⟨[3,6,9,12,13,72,73,74,83,84],[0,1,2,4,5],[(15,false,[.own tE 94]),(85,false,[.val (.int .i64)])],[],[]⟩),(16,⟨[3,6,9,12,72,73],[0,1,2,5],[(74,false,[.val (.int .i64)])],[],[(4, .rows tE 92 94)]⟩)]}
noncomputable def B1d:B4:= [(85,E1),(106,A7e (G7f Tryz.prog [(false, .int .i64)] false .bool (.int .i64) (fun n x=>decide (x.1<0\/n<=x.1)))),(108,C0),(109,I0),(111,E6),(112,A7e (F0z 113 tE 94 (fun a b=>D0d a.1 b.1))),(110,A7e (F3o ⟨Tryz.prog,G3r⟩ [(71,B8t,C0j)] Tryz.f110.results.toList (Tryz.f110.body.getD .skip) Tryz.f110.ntmps))]
def B6p:An:= {}
def A4w:B4:= []
def A3g:An:= {}
def T8:B4:= [(165,C6)]
def A5a:An:= {loop:= [(2,⟨[0,1,7],[],[(8,false,[.val (.int .i64)])],[],[]⟩)]}
def W8:B4:= []
def X8:A7 F5.args->Prop:=fun(x:List EE×MM×Unit)=>∃(I:Int×List EE×Unit->Prop),∃(μ:Int×List EE×Unit->Nat),I ((0:Int),[],())/\∀(p:Int×List EE×Unit),D5 p.1/\(∀(x:Int×(Bool×List Int)×List Int),x∈p.2.1->WfE x)/\True->I p->(decide (p.1<(x.1.length:Int))=true->(0<=p.1/\p.1<(x.1.length:Int))/\((0:Int)<=(gx dEE x.1 p.1).1/\(gx dEE x.1 p.1).1<(x.2.1.2.2.length:Int))/\∃(I_1:Int×List EE×Unit->Prop),∃(μ_1:Int×List EE×Unit->Nat),I_1 ((0:Int),p.2.1,())/\∀(a:Int×List EE×Unit),D5 a.1/\(∀(x:Int×(Bool×List Int)×List Int),x∈a.2.1->WfE x)/\True->I_1 a->(decide (a.1<(↑(gx [] x.2.1.2.2 (gx dEE x.1 p.1).1).length:Int))=true->(0<=a.1/\a.1<(↑(gx [] x.2.1.2.2 (gx dEE x.1 p.1).1).length:Int))/\(sh3 (gx dEE x.1 p.1).2/\sh3 (gx dEE (gx [] x.2.1.2.2 (gx dEE x.1 p.1).1) a.1).2)/\∀(r:QQ×Unit),WfQ r.1/\True->r.1=rc (rv (gx dEE x.1 p.1).2*rv (gx dEE (gx [] x.2.1.2.2 (gx dEE x.1 p.1).1) a.1).2)->(sh3 ((J3 (Ty.int IntKind.i64) (gx dEE (gx [] x.2.1.2.2 (gx dEE x.1 p.1).1) a.1).1 a.2.1).getD dQ)/\sh3 r.1)/\∀(b:QQ×Unit),WfQ b.1/\True->b.1=rc (rv ((J3 (Ty.int IntKind.i64) (gx dEE (gx [] x.2.1.2.2 (gx dEE x.1 p.1).1) a.1).1 a.2.1).getD dQ)+rv r.1)->I_1 (IntKind.i64.wrap (a.1+1),C8f (Ty.int IntKind.i64) (gx dEE (gx [] x.2.1.2.2 (gx dEE x.1 p.1).1) a.1).1 b.1 a.2.1,())/\μ_1 (IntKind.i64.wrap (a.1+1),C8f (Ty.int IntKind.i64) (gx dEE (gx [] x.2.1.2.2 (gx dEE x.1 p.1).1) a.1).1 b.1 a.2.1,())<μ_1 a)/\(decide (a.1<(↑(gx [] x.2.1.2.2 (gx dEE x.1 p.1).1).length:Int))=false->I (IntKind.i64.wrap (p.1+1),a.2.1,())/\μ (IntKind.i64.wrap (p.1+1),a.2.1,())<μ p))/\(decide (p.1<(x.1.length:Int))=false->(List.length p.2.1<=100000/\(List.map (fun(x:Int×(Bool×List Int)×List Int)=>x.1) p.2.1).Nodup)/\∀(l:List Int),l.Perm (List.map (fun(x:Int×(Bool×List Int)×List Int)=>x.1) p.2.1)->List.Pairwise (fun(x1 x2:Int)=>x1<=x2) l->∃(I:List EE×Int×Unit->Prop),∃(μ:List EE×Int×Unit->Nat),I ([],(0:Int),())/\∀(a:List EE×Int×Unit),C1l a.1/\D5 a.2.1/\True->I a->(decide (a.2.1<(↑l.length:Int))=true->∃(J:List EE×Unit->Prop),((0<=a.2.1/\a.2.1<(↑l.length:Int))/\True/\∀(r:Int×Unit),D5 r.1/\True->r.1=(rv ((J3 (Ty.int IntKind.i64) (l.getD (Int.toNat a.2.1) (0:Int)) p.2.1).getD dQ)).num.sign->(decide (r.1≠0)=true->((List.length a.1+ [(l.getD (Int.toNat a.2.1) (0:Int),(J3 (Ty.int IntKind.i64) (l.getD (Int.toNat a.2.1) (0:Int)) p.2.1).getD dQ)].length)*(64:Nat)<=(140737488355328:Nat)/\List.length a.1+ [(l.getD (Int.toNat a.2.1) (0:Int),(J3 (Ty.int IntKind.i64) (l.getD (Int.toNat a.2.1) (0:Int)) p.2.1).getD dQ)].length<=9223372036854775807)/\J (a.1++ [(l.getD (Int.toNat a.2.1) (0:Int),(J3 (Ty.int IntKind.i64) (l.getD (Int.toNat a.2.1) (0:Int)) p.2.1).getD dQ)],()))/\(decide (r.1≠0)=false->J (a.1,())))/\∀(p:List EE×Unit),C1l p.1/\True->J p->I (p.1,IntKind.i64.wrap (a.2.1+1),())/\μ (p.1,IntKind.i64.wrap (a.2.1+1),())<μ a)/\(decide (a.2.1<(↑l.length:Int))=false->C8p a.1/\∀(i:Int),E2 a.1 i=A9c x.1 fun(k:Int)=>E2 (x.2.1.2.2.getD k.toNat []) i))
theorem A8c (x:A7 F5.args):H4 Tryz.prog tys A3q B4t F5 Tryz.f125 x=X8 x:=by kernel_rfl
def B1b:A7 V3.args->Prop:=fun(x:MM×MM×Unit)=>True/\∀(r:Bool×Unit),True/\True->r.1=decide (A5 x.1)->((!r.1)=false->True)/\∀(a:Bool×Unit),((!r.1)=false->(True/\True)/\a.1=decide (A5 x.2.1))->((sel (!r.1) true !a.1)=true->(¬(A5 x.1/\A5 x.2.1)->((0:Int),(0:Int),[])=zm/\(1:Int)=(1:Int))/\(A5 x.1/\A5 x.2.1->(x.1.2.1≠x.2.1.1->((0:Int),(0:Int),[])=zm/\(1:Int)=(4:Int))/\(x.1.2.1=x.2.1.1->isM x.1.1.toNat x.2.1.2.1.toNat (fun(i j:Nat)=>Y8 x.1.2.1.toNat fun(k:Nat)=>el x.1 i k*el x.2.1 k j) ((0:Int),(0:Int),[])/\(1:Int)=(0:Int))))/\((sel (!r.1) true !a.1)=false->(decide (x.1.2.1≠x.2.1.1)=true->(¬(A5 x.1/\A5 x.2.1)->((0:Int),(0:Int),[])=zm/\(4:Int)=(1:Int))/\(A5 x.1/\A5 x.2.1->(x.1.2.1≠x.2.1.1->((0:Int),(0:Int),[])=zm/\(4:Int)=(4:Int))/\(x.1.2.1=x.2.1.1->isM x.1.1.toNat x.2.1.2.1.toNat (fun(i j:Nat)=>Y8 x.1.2.1.toNat fun(k:Nat)=>el x.1 i k*el x.2.1 k j) ((0:Int),(0:Int),[])/\(4:Int)=(0:Int))))/\(decide (x.1.2.1≠x.2.1.1)=false->(0<=x.1.1/\x.1.1<=x.1.1/\(↑(24:Nat):Int)*x.1.1<=281474976710656/\x.1.1<=9223372036854775807)/\∃(I:Int×List (List EE)×Unit->Prop),∃(μ:Int×List (List EE)×Unit->Nat),I ((0:Int),List.replicate (Int.toNat x.1.1) [],())/\∀(p:Int×List (List EE)×Unit),D5 p.1/\G4j p.2.1/\True->I p->(decide (p.1<(x.1.2.2.length:Int))=true->(0<=p.1/\p.1<(x.1.2.2.length:Int))/\(okV K0 (gx [] x.1.2.2 p.1)/\okM K0 x.2.1/\A5 x.2.1/\J4 (gx [] x.1.2.2 p.1) x.2.1.1/\x.2.1.1<=1000)/\∀(r:List EE×Unit),C1l r.1/\True->isC (fun(j:Int)=>A9c (gx [] x.1.2.2 p.1) fun(k:Int)=>E2 (List.getD x.2.1.2.2 k.toNat []) j) r.1->(0<=p.1/\p.1<(p.2.1.length:Int))/\I (IntKind.i64.wrap (p.1+1),List.set p.2.1 (Int.toNat p.1) r.1,())/\μ (IntKind.i64.wrap (p.1+1),List.set p.2.1 (Int.toNat p.1) r.1,())<μ p)/\(decide (p.1<(x.1.2.2.length:Int))=false->(¬(A5 x.1/\A5 x.2.1)->(x.1.1,x.2.1.2.1,p.2.1)=zm/\(0:Int)=(1:Int))/\(A5 x.1/\A5 x.2.1->(x.1.2.1≠x.2.1.1->(x.1.1,x.2.1.2.1,p.2.1)=zm/\(0:Int)=(4:Int))/\(x.1.2.1=x.2.1.1->isM x.1.1.toNat x.2.1.2.1.toNat (fun(i j:Nat)=>Y8 x.1.2.1.toNat fun(k:Nat)=>el x.1 i k*el x.2.1 k j) (x.1.1,x.2.1.2.1,p.2.1)/\(0:Int)=(0:Int))))))
theorem D0i (x:A7 V3.args):H4 Tryz.prog tys C2x E2k V3 Tryz.f55 x=B1b x:=by kernel_rfl
def qc (x:MM×Unit) (r:Bool×Unit) (p:Int×List (List EE)×Unit) (I_1:Int×List (List EE)×Unit->Prop) (μ_1:Int×List (List EE)×Unit->Nat) (a:Int×List (List EE)×Unit):Prop:=∀(r:QQ×Unit),WfQ r.1/\True->r.1=rc (rv (gx dEE (gx [] x.1.2.2 p.1) a.1).2)->((((List.getD a.2.1 (Int.toNat (gx dEE (gx [] x.1.2.2 p.1) a.1).1) []).length+ [(p.1,r.1)].length)*(64:Nat)<=(140737488355328:Nat)/\(List.getD a.2.1 (Int.toNat (gx dEE (gx [] x.1.2.2 p.1) a.1).1) []).length+ [(p.1,r.1)].length<=9223372036854775807)/\((0:Int)<=(gx dEE (gx [] x.1.2.2 p.1) a.1).1/\(gx dEE (gx [] x.1.2.2 p.1) a.1).1<(a.2.1.length:Int))/\Int.toNat (gx dEE (gx [] x.1.2.2 p.1) a.1).1=Int.toNat (gx dEE (gx [] x.1.2.2 p.1) a.1).1/\I_1 (IntKind.i64.wrap (a.1+1),List.set a.2.1 (Int.toNat (gx dEE (gx [] x.1.2.2 p.1) a.1).1) (List.getD a.2.1 (Int.toNat (gx dEE (gx [] x.1.2.2 p.1) a.1).1) []++ [(p.1,r.1)]),())/\μ_1 (IntKind.i64.wrap (a.1+1),List.set a.2.1 (Int.toNat (gx dEE (gx [] x.1.2.2 p.1) a.1).1) (List.getD a.2.1 (Int.toNat (gx dEE (gx [] x.1.2.2 p.1) a.1).1) []++ [(p.1,r.1)]),())<μ_1 a)/\((((List.getD a.2.1 (Int.toNat (gx dEE (gx [] x.1.2.2 p.1) a.1).1) []).length+ [(p.1,r.1)].length)*(64:Nat)<=(140737488355328:Nat)/\(List.getD a.2.1 (Int.toNat (gx dEE (gx [] x.1.2.2 p.1) a.1).1) []).length+ [(p.1,r.1)].length<=9223372036854775807)/\((0:Int)<=(gx dEE (gx [] x.1.2.2 p.1) a.1).1/\(gx dEE (gx [] x.1.2.2 p.1) a.1).1<(a.2.1.length:Int))/\Int.toNat (gx dEE (gx [] x.1.2.2 p.1) a.1).1=Int.toNat (gx dEE (gx [] x.1.2.2 p.1) a.1).1/\I_1 (IntKind.i64.wrap (a.1+1),List.set a.2.1 (Int.toNat (gx dEE (gx [] x.1.2.2 p.1) a.1).1) (List.getD a.2.1 (Int.toNat (gx dEE (gx [] x.1.2.2 p.1) a.1).1) []++ [(p.1,r.1)]),())/\μ_1 (IntKind.i64.wrap (a.1+1),List.set a.2.1 (Int.toNat (gx dEE (gx [] x.1.2.2 p.1) a.1).1) (List.getD a.2.1 (Int.toNat (gx dEE (gx [] x.1.2.2 p.1) a.1).1) []++ [(p.1,r.1)]),())<μ_1 a)/\(((List.getD a.2.1 (Int.toNat (gx dEE (gx [] x.1.2.2 p.1) a.1).1) []).length+ [(p.1,r.1)].length)*(64:Nat)<=(140737488355328:Nat)/\(List.getD a.2.1 (Int.toNat (gx dEE (gx [] x.1.2.2 p.1) a.1).1) []).length+ [(p.1,r.1)].length<=9223372036854775807)/\((0:Int)<=(gx dEE (gx [] x.1.2.2 p.1) a.1).1/\(gx dEE (gx [] x.1.2.2 p.1) a.1).1<(a.2.1.length:Int))/\Int.toNat (gx dEE (gx [] x.1.2.2 p.1) a.1).1=Int.toNat (gx dEE (gx [] x.1.2.2 p.1) a.1).1/\I_1 (IntKind.i64.wrap (a.1+1),List.set a.2.1 (Int.toNat (gx dEE (gx [] x.1.2.2 p.1) a.1).1) (List.getD a.2.1 (Int.toNat (gx dEE (gx [] x.1.2.2 p.1) a.1).1) []++ [(p.1,r.1)]),())/\μ_1 (IntKind.i64.wrap (a.1+1),List.set a.2.1 (Int.toNat (gx dEE (gx [] x.1.2.2 p.1) a.1).1) (List.getD a.2.1 (Int.toNat (gx dEE (gx [] x.1.2.2 p.1) a.1).1) []++ [(p.1,r.1)]),())<μ_1 a
def qd (x:MM×Unit) (r:Bool×Unit) (p:Int×List (List EE)×Unit) (I_1:Int×List (List EE)×Unit->Prop) (μ_1:Int×List (List EE)×Unit->Nat) (a:Int×List (List EE)×Unit):Prop:=∀(r:QQ×Unit),WfQ r.1/\True->r.1=rc (rv (gx dEE (gx [] x.1.2.2 p.1) a.1).2)->(((List.getD a.2.1 (Int.toNat (gx dEE (gx [] x.1.2.2 p.1) a.1).1) []).length+ [(p.1,r.1)].length)*(64:Nat)<=(140737488355328:Nat)/\(List.getD a.2.1 (Int.toNat (gx dEE (gx [] x.1.2.2 p.1) a.1).1) []).length+ [(p.1,r.1)].length<=9223372036854775807)/\((0:Int)<=(gx dEE (gx [] x.1.2.2 p.1) a.1).1/\(gx dEE (gx [] x.1.2.2 p.1) a.1).1<(a.2.1.length:Int))/\Int.toNat (gx dEE (gx [] x.1.2.2 p.1) a.1).1=Int.toNat (gx dEE (gx [] x.1.2.2 p.1) a.1).1/\I_1 (IntKind.i64.wrap (a.1+1),List.set a.2.1 (Int.toNat (gx dEE (gx [] x.1.2.2 p.1) a.1).1) (List.getD a.2.1 (Int.toNat (gx dEE (gx [] x.1.2.2 p.1) a.1).1) []++ [(p.1,r.1)]),())/\μ_1 (IntKind.i64.wrap (a.1+1),List.set a.2.1 (Int.toNat (gx dEE (gx [] x.1.2.2 p.1) a.1).1) (List.getD a.2.1 (Int.toNat (gx dEE (gx [] x.1.2.2 p.1) a.1).1) []++ [(p.1,r.1)]),())<μ_1 a
def A0x:A7 G9.args->Prop:=fun(x:MM×Unit)=>True/\∀(r:Bool×Unit),True/\True->r.1=decide (A5 x.1)->((!r.1)=true->(¬A5 x.1->((0:Int),(0:Int),[])=zm/\(1:Int)=(1:Int))/\(A5 x.1->isM x.1.2.1.toNat x.1.1.toNat (fun(i j:Nat)=>el x.1 j i) ((0:Int),(0:Int),[])/\(1:Int)=(0:Int)))/\((!r.1)=false->(0<=x.1.2.1/\x.1.2.1<=x.1.2.1/\(↑(24:Nat):Int)*x.1.2.1<=281474976710656/\x.1.2.1<=9223372036854775807)/\∃(I:Int×List (List EE)×Unit->Prop),∃(μ:Int×List (List EE)×Unit->Nat),I ((0:Int),List.replicate (Int.toNat x.1.2.1) [],())/\∀(p:Int×List (List EE)×Unit),D5 p.1/\G4j p.2.1/\True->I p->(decide (p.1<(x.1.2.2.length:Int))=true->(0<=p.1/\p.1<(x.1.2.2.length:Int))/\∃(I_1:Int×List (List EE)×Unit->Prop),∃(μ_1:Int×List (List EE)×Unit->Nat),I_1 ((0:Int),p.2.1,())/\∀(a:Int×List (List EE)×Unit),D5 a.1/\G4j a.2.1/\True->I_1 a->(decide (a.1<(↑(gx [] x.1.2.2 p.1).length:Int))=true->(0<=a.1/\a.1<(↑(gx [] x.1.2.2 p.1).length:Int))/\((0:Int)<=(gx dEE (gx [] x.1.2.2 p.1) a.1).1/\(gx dEE (gx [] x.1.2.2 p.1) a.1).1<(a.2.1.length:Int))/\((sh3 (gx dEE (gx [] x.1.2.2 p.1) a.1).2/\qd x r p I_1 μ_1 a)/\sh3 (gx dEE (gx [] x.1.2.2 p.1) a.1).2/\qc x r p I_1 μ_1 a)/\((sh3 (gx dEE (gx [] x.1.2.2 p.1) a.1).2/\qd x r p I_1 μ_1 a)/\sh3 (gx dEE (gx [] x.1.2.2 p.1) a.1).2/\qc x r p I_1 μ_1 a)/\sh3 (gx dEE (gx [] x.1.2.2 p.1) a.1).2/\∀(r:QQ×Unit),WfQ r.1/\True->r.1=rc (rv (gx dEE (gx [] x.1.2.2 p.1) a.1).2)->(((((List.getD a.2.1 (Int.toNat (gx dEE (gx [] x.1.2.2 p.1) a.1).1) []).length+ [(p.1,r.1)].length)*(64:Nat)<=(140737488355328:Nat)/\(List.getD a.2.1 (Int.toNat (gx dEE (gx [] x.1.2.2 p.1) a.1).1) []).length+ [(p.1,r.1)].length<=9223372036854775807)/\((0:Int)<=(gx dEE (gx [] x.1.2.2 p.1) a.1).1/\(gx dEE (gx [] x.1.2.2 p.1) a.1).1<(a.2.1.length:Int))/\Int.toNat (gx dEE (gx [] x.1.2.2 p.1) a.1).1=Int.toNat (gx dEE (gx [] x.1.2.2 p.1) a.1).1/\I_1 (IntKind.i64.wrap (a.1+1),List.set a.2.1 (Int.toNat (gx dEE (gx [] x.1.2.2 p.1) a.1).1) (List.getD a.2.1 (Int.toNat (gx dEE (gx [] x.1.2.2 p.1) a.1).1) []++ [(p.1,r.1)]),())/\μ_1 (IntKind.i64.wrap (a.1+1),List.set a.2.1 (Int.toNat (gx dEE (gx [] x.1.2.2 p.1) a.1).1) (List.getD a.2.1 (Int.toNat (gx dEE (gx [] x.1.2.2 p.1) a.1).1) []++ [(p.1,r.1)]),())<μ_1 a)/\((((List.getD a.2.1 (Int.toNat (gx dEE (gx [] x.1.2.2 p.1) a.1).1) []).length+ [(p.1,r.1)].length)*(64:Nat)<=(140737488355328:Nat)/\(List.getD a.2.1 (Int.toNat (gx dEE (gx [] x.1.2.2 p.1) a.1).1) []).length+ [(p.1,r.1)].length<=9223372036854775807)/\((0:Int)<=(gx dEE (gx [] x.1.2.2 p.1) a.1).1/\(gx dEE (gx [] x.1.2.2 p.1) a.1).1<(a.2.1.length:Int))/\Int.toNat (gx dEE (gx [] x.1.2.2 p.1) a.1).1=Int.toNat (gx dEE (gx [] x.1.2.2 p.1) a.1).1/\I_1 (IntKind.i64.wrap (a.1+1),List.set a.2.1 (Int.toNat (gx dEE (gx [] x.1.2.2 p.1) a.1).1) (List.getD a.2.1 (Int.toNat (gx dEE (gx [] x.1.2.2 p.1) a.1).1) []++ [(p.1,r.1)]),())/\μ_1 (IntKind.i64.wrap (a.1+1),List.set a.2.1 (Int.toNat (gx dEE (gx [] x.1.2.2 p.1) a.1).1) (List.getD a.2.1 (Int.toNat (gx dEE (gx [] x.1.2.2 p.1) a.1).1) []++ [(p.1,r.1)]),())<μ_1 a)/\(((List.getD a.2.1 (Int.toNat (gx dEE (gx [] x.1.2.2 p.1) a.1).1) []).length+ [(p.1,r.1)].length)*(64:Nat)<=(140737488355328:Nat)/\(List.getD a.2.1 (Int.toNat (gx dEE (gx [] x.1.2.2 p.1) a.1).1) []).length+ [(p.1,r.1)].length<=9223372036854775807)/\((0:Int)<=(gx dEE (gx [] x.1.2.2 p.1) a.1).1/\(gx dEE (gx [] x.1.2.2 p.1) a.1).1<(a.2.1.length:Int))/\Int.toNat (gx dEE (gx [] x.1.2.2 p.1) a.1).1=Int.toNat (gx dEE (gx [] x.1.2.2 p.1) a.1).1/\I_1 (IntKind.i64.wrap (a.1+1),List.set a.2.1 (Int.toNat (gx dEE (gx [] x.1.2.2 p.1) a.1).1) (List.getD a.2.1 (Int.toNat (gx dEE (gx [] x.1.2.2 p.1) a.1).1) []++ [(p.1,r.1)]),())/\μ_1 (IntKind.i64.wrap (a.1+1),List.set a.2.1 (Int.toNat (gx dEE (gx [] x.1.2.2 p.1) a.1).1) (List.getD a.2.1 (Int.toNat (gx dEE (gx [] x.1.2.2 p.1) a.1).1) []++ [(p.1,r.1)]),())<μ_1 a)/\(((((List.getD a.2.1 (Int.toNat (gx dEE (gx [] x.1.2.2 p.1) a.1).1) []).length+ [(p.1,r.1)].length)*(64:Nat)<=(140737488355328:Nat)/\(List.getD a.2.1 (Int.toNat (gx dEE (gx [] x.1.2.2 p.1) a.1).1) []).length+ [(p.1,r.1)].length<=9223372036854775807)/\((0:Int)<=(gx dEE (gx [] x.1.2.2 p.1) a.1).1/\(gx dEE (gx [] x.1.2.2 p.1) a.1).1<(a.2.1.length:Int))/\Int.toNat (gx dEE (gx [] x.1.2.2 p.1) a.1).1=Int.toNat (gx dEE (gx [] x.1.2.2 p.1) a.1).1/\I_1 (IntKind.i64.wrap (a.1+1),List.set a.2.1 (Int.toNat (gx dEE (gx [] x.1.2.2 p.1) a.1).1) (List.getD a.2.1 (Int.toNat (gx dEE (gx [] x.1.2.2 p.1) a.1).1) []++ [(p.1,r.1)]),())/\μ_1 (IntKind.i64.wrap (a.1+1),List.set a.2.1 (Int.toNat (gx dEE (gx [] x.1.2.2 p.1) a.1).1) (List.getD a.2.1 (Int.toNat (gx dEE (gx [] x.1.2.2 p.1) a.1).1) []++ [(p.1,r.1)]),())<μ_1 a)/\((((List.getD a.2.1 (Int.toNat (gx dEE (gx [] x.1.2.2 p.1) a.1).1) []).length+ [(p.1,r.1)].length)*(64:Nat)<=(140737488355328:Nat)/\(List.getD a.2.1 (Int.toNat (gx dEE (gx [] x.1.2.2 p.1) a.1).1) []).length+ [(p.1,r.1)].length<=9223372036854775807)/\((0:Int)<=(gx dEE (gx [] x.1.2.2 p.1) a.1).1/\(gx dEE (gx [] x.1.2.2 p.1) a.1).1<(a.2.1.length:Int))/\Int.toNat (gx dEE (gx [] x.1.2.2 p.1) a.1).1=Int.toNat (gx dEE (gx [] x.1.2.2 p.1) a.1).1/\I_1 (IntKind.i64.wrap (a.1+1),List.set a.2.1 (Int.toNat (gx dEE (gx [] x.1.2.2 p.1) a.1).1) (List.getD a.2.1 (Int.toNat (gx dEE (gx [] x.1.2.2 p.1) a.1).1) []++ [(p.1,r.1)]),())/\μ_1 (IntKind.i64.wrap (a.1+1),List.set a.2.1 (Int.toNat (gx dEE (gx [] x.1.2.2 p.1) a.1).1) (List.getD a.2.1 (Int.toNat (gx dEE (gx [] x.1.2.2 p.1) a.1).1) []++ [(p.1,r.1)]),())<μ_1 a)/\(((List.getD a.2.1 (Int.toNat (gx dEE (gx [] x.1.2.2 p.1) a.1).1) []).length+ [(p.1,r.1)].length)*(64:Nat)<=(140737488355328:Nat)/\(List.getD a.2.1 (Int.toNat (gx dEE (gx [] x.1.2.2 p.1) a.1).1) []).length+ [(p.1,r.1)].length<=9223372036854775807)/\((0:Int)<=(gx dEE (gx [] x.1.2.2 p.1) a.1).1/\(gx dEE (gx [] x.1.2.2 p.1) a.1).1<(a.2.1.length:Int))/\Int.toNat (gx dEE (gx [] x.1.2.2 p.1) a.1).1=Int.toNat (gx dEE (gx [] x.1.2.2 p.1) a.1).1/\I_1 (IntKind.i64.wrap (a.1+1),List.set a.2.1 (Int.toNat (gx dEE (gx [] x.1.2.2 p.1) a.1).1) (List.getD a.2.1 (Int.toNat (gx dEE (gx [] x.1.2.2 p.1) a.1).1) []++ [(p.1,r.1)]),())/\μ_1 (IntKind.i64.wrap (a.1+1),List.set a.2.1 (Int.toNat (gx dEE (gx [] x.1.2.2 p.1) a.1).1) (List.getD a.2.1 (Int.toNat (gx dEE (gx [] x.1.2.2 p.1) a.1).1) []++ [(p.1,r.1)]),())<μ_1 a)/\(((((List.getD a.2.1 (Int.toNat (gx dEE (gx [] x.1.2.2 p.1) a.1).1) []).length+ [(p.1,r.1)].length)*(64:Nat)<=(140737488355328:Nat)/\(List.getD a.2.1 (Int.toNat (gx dEE (gx [] x.1.2.2 p.1) a.1).1) []).length+ [(p.1,r.1)].length<=9223372036854775807)/\((0:Int)<=(gx dEE (gx [] x.1.2.2 p.1) a.1).1/\(gx dEE (gx [] x.1.2.2 p.1) a.1).1<(a.2.1.length:Int))/\Int.toNat (gx dEE (gx [] x.1.2.2 p.1) a.1).1=Int.toNat (gx dEE (gx [] x.1.2.2 p.1) a.1).1/\I_1 (IntKind.i64.wrap (a.1+1),List.set a.2.1 (Int.toNat (gx dEE (gx [] x.1.2.2 p.1) a.1).1) (List.getD a.2.1 (Int.toNat (gx dEE (gx [] x.1.2.2 p.1) a.1).1) []++ [(p.1,r.1)]),())/\μ_1 (IntKind.i64.wrap (a.1+1),List.set a.2.1 (Int.toNat (gx dEE (gx [] x.1.2.2 p.1) a.1).1) (List.getD a.2.1 (Int.toNat (gx dEE (gx [] x.1.2.2 p.1) a.1).1) []++ [(p.1,r.1)]),())<μ_1 a)/\(((List.getD a.2.1 (Int.toNat (gx dEE (gx [] x.1.2.2 p.1) a.1).1) []).length+ [(p.1,r.1)].length)*(64:Nat)<=(140737488355328:Nat)/\(List.getD a.2.1 (Int.toNat (gx dEE (gx [] x.1.2.2 p.1) a.1).1) []).length+ [(p.1,r.1)].length<=9223372036854775807)/\((0:Int)<=(gx dEE (gx [] x.1.2.2 p.1) a.1).1/\(gx dEE (gx [] x.1.2.2 p.1) a.1).1<(a.2.1.length:Int))/\Int.toNat (gx dEE (gx [] x.1.2.2 p.1) a.1).1=Int.toNat (gx dEE (gx [] x.1.2.2 p.1) a.1).1/\I_1 (IntKind.i64.wrap (a.1+1),List.set a.2.1 (Int.toNat (gx dEE (gx [] x.1.2.2 p.1) a.1).1) (List.getD a.2.1 (Int.toNat (gx dEE (gx [] x.1.2.2 p.1) a.1).1) []++ [(p.1,r.1)]),())/\μ_1 (IntKind.i64.wrap (a.1+1),List.set a.2.1 (Int.toNat (gx dEE (gx [] x.1.2.2 p.1) a.1).1) (List.getD a.2.1 (Int.toNat (gx dEE (gx [] x.1.2.2 p.1) a.1).1) []++ [(p.1,r.1)]),())<μ_1 a)/\(((((List.getD a.2.1 (Int.toNat (gx dEE (gx [] x.1.2.2 p.1) a.1).1) []).length+ [(p.1,r.1)].length)*(64:Nat)<=(140737488355328:Nat)/\(List.getD a.2.1 (Int.toNat (gx dEE (gx [] x.1.2.2 p.1) a.1).1) []).length+ [(p.1,r.1)].length<=9223372036854775807)/\((0:Int)<=(gx dEE (gx [] x.1.2.2 p.1) a.1).1/\(gx dEE (gx [] x.1.2.2 p.1) a.1).1<(a.2.1.length:Int))/\Int.toNat (gx dEE (gx [] x.1.2.2 p.1) a.1).1=Int.toNat (gx dEE (gx [] x.1.2.2 p.1) a.1).1/\I_1 (IntKind.i64.wrap (a.1+1),List.set a.2.1 (Int.toNat (gx dEE (gx [] x.1.2.2 p.1) a.1).1) (List.getD a.2.1 (Int.toNat (gx dEE (gx [] x.1.2.2 p.1) a.1).1) []++ [(p.1,r.1)]),())/\μ_1 (IntKind.i64.wrap (a.1+1),List.set a.2.1 (Int.toNat (gx dEE (gx [] x.1.2.2 p.1) a.1).1) (List.getD a.2.1 (Int.toNat (gx dEE (gx [] x.1.2.2 p.1) a.1).1) []++ [(p.1,r.1)]),())<μ_1 a)/\(((List.getD a.2.1 (Int.toNat (gx dEE (gx [] x.1.2.2 p.1) a.1).1) []).length+ [(p.1,r.1)].length)*(64:Nat)<=(140737488355328:Nat)/\(List.getD a.2.1 (Int.toNat (gx dEE (gx [] x.1.2.2 p.1) a.1).1) []).length+ [(p.1,r.1)].length<=9223372036854775807)/\((0:Int)<=(gx dEE (gx [] x.1.2.2 p.1) a.1).1/\(gx dEE (gx [] x.1.2.2 p.1) a.1).1<(a.2.1.length:Int))/\Int.toNat (gx dEE (gx [] x.1.2.2 p.1) a.1).1=Int.toNat (gx dEE (gx [] x.1.2.2 p.1) a.1).1/\I_1 (IntKind.i64.wrap (a.1+1),List.set a.2.1 (Int.toNat (gx dEE (gx [] x.1.2.2 p.1) a.1).1) (List.getD a.2.1 (Int.toNat (gx dEE (gx [] x.1.2.2 p.1) a.1).1) []++ [(p.1,r.1)]),())/\μ_1 (IntKind.i64.wrap (a.1+1),List.set a.2.1 (Int.toNat (gx dEE (gx [] x.1.2.2 p.1) a.1).1) (List.getD a.2.1 (Int.toNat (gx dEE (gx [] x.1.2.2 p.1) a.1).1) []++ [(p.1,r.1)]),())<μ_1 a)/\(((List.getD a.2.1 (Int.toNat (gx dEE (gx [] x.1.2.2 p.1) a.1).1) []).length+ [(p.1,r.1)].length)*(64:Nat)<=(140737488355328:Nat)/\(List.getD a.2.1 (Int.toNat (gx dEE (gx [] x.1.2.2 p.1) a.1).1) []).length+ [(p.1,r.1)].length<=9223372036854775807)/\(((0:Int)<=(gx dEE (gx [] x.1.2.2 p.1) a.1).1/\(gx dEE (gx [] x.1.2.2 p.1) a.1).1<(a.2.1.length:Int))/\Int.toNat (gx dEE (gx [] x.1.2.2 p.1) a.1).1=Int.toNat (gx dEE (gx [] x.1.2.2 p.1) a.1).1/\I_1 (IntKind.i64.wrap (a.1+1),List.set a.2.1 (Int.toNat (gx dEE (gx [] x.1.2.2 p.1) a.1).1) (List.getD a.2.1 (Int.toNat (gx dEE (gx [] x.1.2.2 p.1) a.1).1) []++ [(p.1,r.1)]),())/\μ_1 (IntKind.i64.wrap (a.1+1),List.set a.2.1 (Int.toNat (gx dEE (gx [] x.1.2.2 p.1) a.1).1) (List.getD a.2.1 (Int.toNat (gx dEE (gx [] x.1.2.2 p.1) a.1).1) []++ [(p.1,r.1)]),())<μ_1 a)/\((0:Int)<=(gx dEE (gx [] x.1.2.2 p.1) a.1).1/\(gx dEE (gx [] x.1.2.2 p.1) a.1).1<(a.2.1.length:Int))/\Int.toNat (gx dEE (gx [] x.1.2.2 p.1) a.1).1=Int.toNat (gx dEE (gx [] x.1.2.2 p.1) a.1).1/\I_1 (IntKind.i64.wrap (a.1+1),List.set a.2.1 (Int.toNat (gx dEE (gx [] x.1.2.2 p.1) a.1).1) (List.getD a.2.1 (Int.toNat (gx dEE (gx [] x.1.2.2 p.1) a.1).1) []++ [(p.1,r.1)]),())/\μ_1 (IntKind.i64.wrap (a.1+1),List.set a.2.1 (Int.toNat (gx dEE (gx [] x.1.2.2 p.1) a.1).1) (List.getD a.2.1 (Int.toNat (gx dEE (gx [] x.1.2.2 p.1) a.1).1) []++ [(p.1,r.1)]),())<μ_1 a)/\(decide (a.1<(↑(gx [] x.1.2.2 p.1).length:Int))=false->I (IntKind.i64.wrap (p.1+1),a.2.1,())/\μ (IntKind.i64.wrap (p.1+1),a.2.1,())<μ p))/\(decide (p.1<(x.1.2.2.length:Int))=false->(¬A5 x.1->(x.1.2.1,x.1.1,p.2.1)=zm/\(0:Int)=(1:Int))/\(A5 x.1->isM x.1.2.1.toNat x.1.1.toNat (fun(i j:Nat)=>el x.1 j i) (x.1.2.1,x.1.1,p.2.1)/\(0:Int)=(0:Int))))
theorem B1x (x:A7 G9.args):H4 Tryz.prog G3r A6b B9n G9 Tryz.f56 x=A0x x:=by kernel_rfl
def A4s:A7 N6.args->Prop:=fun(x:MM×List Int×List Int×Unit)=>True/\∀(r:Bool×Unit),True/\True->r.1=decide (A5 x.1)->((!r.1)=true->(¬A5 x.1->((0:Int),(0:Int),[])=zm/\(1:Int)=(1:Int))/\(A5 x.1->(((∃(i:Int),i∈x.2.1/\(i<(0:Int)\/x.1.1<=i))\/∃(i:Int),i∈x.2.2.1/\(i<(0:Int)\/x.1.2.1<=i))->((0:Int),(0:Int),[])=zm/\(1:Int)=(3:Int))/\(¬((∃(i:Int),i∈x.2.1/\(i<(0:Int)\/x.1.1<=i))\/∃(i:Int),i∈x.2.2.1/\(i<(0:Int)\/x.1.2.1<=i))->(16384<x.2.1.length\/16384<x.2.2.1.length->((0:Int),(0:Int),[])=zm/\(1:Int)=(8:Int))/\(x.2.1.length<=(16384:Nat)/\x.2.2.1.length<=(16384:Nat)->isM x.2.1.length x.2.2.1.length (fun(i j:Nat)=>el x.1 (x.2.1.getD i (0:Int)).toNat (x.2.2.1.getD j (0:Int)).toNat) ((0:Int),(0:Int),[])/\(1:Int)=(0:Int)))))/\((!r.1)=false->Go.Proofs.Tryz.prog=Go.Proofs.Tryz.prog/\false=false/\(∀(i:Int),i∈x.2.1->(fun(x:Int×Unit)=>True,fun(z:Int×Unit)=>decide (z.1<(0:(Ty.int IntKind.i64).den)\/x.1.1<=z.1)).1 (i,()))/\∀(f:Bool×Unit),True/\True->f.1=decide (∃(i:Int),i∈x.2.1/\(fun(x:Int×Unit)=>True,fun(z:Int×Unit)=>decide (z.1<(0:(Ty.int IntKind.i64).den)\/x.1.1<=z.1)).2 (i,())=true)->Go.Proofs.Tryz.prog=Go.Proofs.Tryz.prog/\false=false/\(f.1=false->∀(i:Int),i∈x.2.2.1->(fun(x:Int×Unit)=>True,fun(z:Int×Unit)=>decide (z.1<(0:(Ty.int IntKind.i64).den)\/x.1.2.1<=z.1)).1 (i,()))/\∀(h:Bool×Unit),(f.1=false->(True/\True)/\h.1=decide (∃(i:Int),i∈x.2.2.1/\(fun(x:Int×Unit)=>True,fun(z:Int×Unit)=>decide (z.1<(0:(Ty.int IntKind.i64).den)\/x.1.2.1<=z.1)).2 (i,())=true))->(sel f.1 true h.1=true->(¬A5 x.1->((0:Int),(0:Int),[])=zm/\(3:Int)=(1:Int))/\(A5 x.1->(((∃(i:Int),i∈x.2.1/\(i<(0:Int)\/x.1.1<=i))\/∃(i:Int),i∈x.2.2.1/\(i<(0:Int)\/x.1.2.1<=i))->((0:Int),(0:Int),[])=zm/\(3:Int)=(3:Int))/\(¬((∃(i:Int),i∈x.2.1/\(i<(0:Int)\/x.1.1<=i))\/∃(i:Int),i∈x.2.2.1/\(i<(0:Int)\/x.1.2.1<=i))->(16384<x.2.1.length\/16384<x.2.2.1.length->((0:Int),(0:Int),[])=zm/\(3:Int)=(8:Int))/\(x.2.1.length<=(16384:Nat)/\x.2.2.1.length<=(16384:Nat)->isM x.2.1.length x.2.2.1.length (fun(i j:Nat)=>el x.1 (x.2.1.getD i (0:Int)).toNat (x.2.2.1.getD j (0:Int)).toNat) ((0:Int),(0:Int),[])/\(3:Int)=(0:Int)))))/\(sel f.1 true h.1=false->True/\∀(g:Bool×Unit),True/\True->g.1=decide ((0:Int)<=(x.2.1.length:Int)/\(x.2.1.length:Int)<=(16384:Int))->((!g.1)=false->True)/\∀(k:Bool×Unit),((!g.1)=false->(True/\True)/\k.1=decide ((0:Int)<=(x.2.2.1.length:Int)/\(x.2.2.1.length:Int)<=(16384:Int)))->((sel (!g.1) true !k.1)=true->(¬A5 x.1->((0:Int),(0:Int),[])=zm/\(8:Int)=(1:Int))/\(A5 x.1->(((∃(i:Int),i∈x.2.1/\(i<(0:Int)\/x.1.1<=i))\/∃(i:Int),i∈x.2.2.1/\(i<(0:Int)\/x.1.2.1<=i))->((0:Int),(0:Int),[])=zm/\(8:Int)=(3:Int))/\(¬((∃(i:Int),i∈x.2.1/\(i<(0:Int)\/x.1.1<=i))\/∃(i:Int),i∈x.2.2.1/\(i<(0:Int)\/x.1.2.1<=i))->(16384<x.2.1.length\/16384<x.2.2.1.length->((0:Int),(0:Int),[])=zm/\(8:Int)=(8:Int))/\(x.2.1.length<=(16384:Nat)/\x.2.2.1.length<=(16384:Nat)->isM x.2.1.length x.2.2.1.length (fun(i j:Nat)=>el x.1 (x.2.1.getD i (0:Int)).toNat (x.2.2.1.getD j (0:Int)).toNat) ((0:Int),(0:Int),[])/\(8:Int)=(0:Int)))))/\((sel (!g.1) true !k.1)=false->∃(I:Int×List (Int×List Int)×Unit->Prop),∃(μ:Int×List (Int×List Int)×Unit->Nat),I ((0:Int),[],())/\∀(p:Int×List (Int×List Int)×Unit),D5 p.1/\(∀(x:Int×List Int),x∈p.2.1->D5 x.1/\WfI x.2)/\True->I p->(decide (p.1<(x.2.2.1.length:Int))=true->(0<=p.1/\p.1<(x.2.2.1.length:Int))/\J3 (Ty.int IntKind.i64) (gx (0:Int) x.2.2.1 p.1) p.2.1=Option.none/\(((0:Nat)+ [p.1].length)*(8:Nat)<=(140737488355328:Nat)/\(0:Nat)+ [p.1].length<=9223372036854775807)/\I (IntKind.i64.wrap (p.1+1),C8f (Ty.int IntKind.i64) (gx (0:Int) x.2.2.1 p.1) [p.1] p.2.1,())/\μ (IntKind.i64.wrap (p.1+1),C8f (Ty.int IntKind.i64) (gx (0:Int) x.2.2.1 p.1) [p.1] p.2.1,())<μ p)/\(decide (p.1<(x.2.2.1.length:Int))=false->((0:Int)<=(x.2.1.length:Int)/\(x.2.1.length:Int)<=(x.2.1.length:Int)/\(↑(24:Nat):Int)*(x.2.1.length:Int)<=(281474976710656:Int)/\(x.2.1.length:Int)<=(9223372036854775807:Int))/\∃(I:Int×List (List EE)×Unit->Prop),∃(μ:Int×List (List EE)×Unit->Nat),I ((0:Int),List.replicate (x.2.1.length:Int).toNat [],())/\∀(c:Int×List (List EE)×Unit),D5 c.1/\G4j c.2.1/\True->I c->(decide (c.1<(x.2.1.length:Int))=true->(0<=c.1/\c.1<(x.2.1.length:Int))/\((0:Int)<=gx (0:Int) x.2.1 c.1/\gx (0:Int) x.2.1 c.1<(x.1.2.2.length:Int))/\∃(I_1:List EE×Int×Unit->Prop),∃(μ_1:List EE×Int×Unit->Nat),I_1 ([],(0:Int),())/\∀(d:List EE×Int×Unit),C1l d.1/\D5 d.2.1/\True->I_1 d->(decide (d.2.1<(↑(gx [] x.1.2.2 (gx (0:Int) x.2.1 c.1)).length:Int))=true->(0<=d.2.1/\d.2.1<(↑(gx [] x.1.2.2 (gx (0:Int) x.2.1 c.1)).length:Int))/\∃(I:List EE×Int×Unit->Prop),∃(μ:List EE×Int×Unit->Nat),I (d.1,(0:Int),())/\∀(e:List EE×Int×Unit),C1l e.1/\D5 e.2.1/\True->I e->(decide (e.2.1<(↑((J3 (Ty.int IntKind.i64) (gx dEE (gx [] x.1.2.2 (gx (0:Int) x.2.1 c.1)) d.2.1).1 p.2.1).getD []).length:Int))=true->(0<=e.2.1/\e.2.1<(↑((J3 (Ty.int IntKind.i64) (gx dEE (gx [] x.1.2.2 (gx (0:Int) x.2.1 c.1)) d.2.1).1 p.2.1).getD []).length:Int))/\sh3 (gx dEE (gx [] x.1.2.2 (gx (0:Int) x.2.1 c.1)) d.2.1).2/\∀(r:QQ×Unit),WfQ r.1/\True->r.1=rc (rv (gx dEE (gx [] x.1.2.2 (gx (0:Int) x.2.1 c.1)) d.2.1).2)->((List.length e.1+ [(gx (0:Int) ((J3 (Ty.int IntKind.i64) (gx dEE (gx [] x.1.2.2 (gx (0:Int) x.2.1 c.1)) d.2.1).1 p.2.1).getD []) e.2.1,r.1)].length)*(64:Nat)<=(140737488355328:Nat)/\List.length e.1+ [(gx (0:Int) ((J3 (Ty.int IntKind.i64) (gx dEE (gx [] x.1.2.2 (gx (0:Int) x.2.1 c.1)) d.2.1).1 p.2.1).getD []) e.2.1,r.1)].length<=9223372036854775807)/\I (e.1++ [(gx (0:Int) ((J3 (Ty.int IntKind.i64) (gx dEE (gx [] x.1.2.2 (gx (0:Int) x.2.1 c.1)) d.2.1).1 p.2.1).getD []) e.2.1,r.1)],IntKind.i64.wrap (e.2.1+1),())/\μ (e.1++ [(gx (0:Int) ((J3 (Ty.int IntKind.i64) (gx dEE (gx [] x.1.2.2 (gx (0:Int) x.2.1 c.1)) d.2.1).1 p.2.1).getD []) e.2.1,r.1)],IntKind.i64.wrap (e.2.1+1),())<μ e)/\(decide (e.2.1<(↑((J3 (Ty.int IntKind.i64) (gx dEE (gx [] x.1.2.2 (gx (0:Int) x.2.1 c.1)) d.2.1).1 p.2.1).getD []).length:Int))=false->I_1 (e.1,IntKind.i64.wrap (d.2.1+1),())/\μ_1 (e.1,IntKind.i64.wrap (d.2.1+1),())<μ_1 d))/\(decide (d.2.1<(↑(gx [] x.1.2.2 (gx (0:Int) x.2.1 c.1)).length:Int))=false->List.length d.1<=100000/\∀(l':List EE),tE.sl.wf l'->l'.Perm d.1->List.Pairwise (fun(a b:Int×(Bool×List Int)×List Int)=>¬D0d b.1 a.1<0) l'->(0<=c.1/\c.1<(c.2.1.length:Int))/\I (IntKind.i64.wrap (c.1+1),List.set c.2.1 (Int.toNat c.1) l',())/\μ (IntKind.i64.wrap (c.1+1),List.set c.2.1 (Int.toNat c.1) l',())<μ c))/\(decide (c.1<(x.2.1.length:Int))=false->(¬A5 x.1->((x.2.1.length:Int),(x.2.2.1.length:Int),c.2.1)=zm/\(0:Int)=(1:Int))/\(A5 x.1->(((∃(i:Int),i∈x.2.1/\(i<(0:Int)\/x.1.1<=i))\/∃(i:Int),i∈x.2.2.1/\(i<(0:Int)\/x.1.2.1<=i))->((x.2.1.length:Int),(x.2.2.1.length:Int),c.2.1)=zm/\(0:Int)=(3:Int))/\(¬((∃(i:Int),i∈x.2.1/\(i<(0:Int)\/x.1.1<=i))\/∃(i:Int),i∈x.2.2.1/\(i<(0:Int)\/x.1.2.1<=i))->(16384<x.2.1.length\/16384<x.2.2.1.length->((x.2.1.length:Int),(x.2.2.1.length:Int),c.2.1)=zm/\(0:Int)=(8:Int))/\(x.2.1.length<=(16384:Nat)/\x.2.2.1.length<=(16384:Nat)->isM x.2.1.length x.2.2.1.length (fun(i j:Nat)=>el x.1 (x.2.1.getD i (0:Int)).toNat (x.2.2.1.getD j (0:Int)).toNat) ((x.2.1.length:Int),(x.2.2.1.length:Int),c.2.1)/\(0:Int)=(0:Int)))))))))
theorem B8a (x:A7 N6.args):H4 Tryz.prog G3r B1d D0r N6 Tryz.f45 x=A4s x:=by kernel_rfl
def A0g:A7 F0.args->Prop:=fun(x:Int×Int×Unit)=>sel (decide (x.1<0)) true (decide (x.2.1<=x.1))=decide (x.1<0\/x.2.1<=x.1)
theorem B0k (x:A7 F0.args):H4 Tryz.prog tys A4w B6p F0 Tryz.f107 x=A0g x:=by kernel_rfl
def M7:A7 C0.args->Prop:=fun(x:List Int×((Int×Unit->Prop)×(Int×Unit->Bool))×Unit)=>Go.Proofs.Tryz.prog=Go.Proofs.Tryz.prog/\false=false/\(∀(i:Int),i∈x.1->(x.2.1.1,fun(z:Int×Unit)=>x.2.1.2 z).1 (i,()))/\∀(r:Int×Unit),D5 r.1/\True->r.1=G3s (fun(i:Int)=>(x.2.1.1,fun(z:Int×Unit)=>x.2.1.2 z).2 (i,())) x.1->decide (0<=r.1)=decide (∃(i:Int),i∈x.1/\x.2.1.2 (i,())=true)
theorem A1m (x:A7 C0.args):H4 Tryz.prog tys T8 A3g C0 Tryz.f108 x=M7 x:=by kernel_rfl
def P0:A7 C6.args->Prop:=fun(x:List Int×((Int×Unit->Prop)×(Int×Unit->Bool))×Unit)=>∃(I:Int×Unit->Prop),∃(μ:Int×Unit->Nat),I ((0:Int),())/\∀(p:Int×Unit),D5 p.1/\True->I p->(decide (p.1<(x.1.length:Int))=true->(0<=p.1/\p.1<(x.1.length:Int))/\Go.Proofs.Tryz.prog=Go.Proofs.Tryz.prog/\x.2.1.1 (gx (0:Int) x.1 p.1,())/\(Ty.bool.wf (x.2.1.2 (gx (0:Int) x.1 p.1,()))->(x.2.1.2 (gx (0:Int) x.1 p.1,())=true->p.1=G3s (fun(i:Int)=>x.2.1.2 (i,())) x.1)/\(x.2.1.2 (gx (0:Int) x.1 p.1,())=false->I (IntKind.i64.wrap (p.1+1),())/\μ (IntKind.i64.wrap (p.1+1),())<μ p)))/\(decide (p.1<(x.1.length:Int))=false->(-1:Int)=G3s (fun(i:Int)=>x.2.1.2 (i,())) x.1)
theorem A3h (x:A7 C6.args):H4 Tryz.prog tys W8 A5a C6 Tryz.f165 x=P0 x:=by kernel_rfl
theorem A9w (a b:Int):eqB (.int .i64) a b=decide (a=b):=rfl
theorem C2r {α:Type} (k i:Int) (v:α):∀l:List (Int×α),J3 (.int .i64) i (C8f (.int .i64) k v l)=if i=k then some v else J3 (.int .i64) i l
 | []=>by
  simp only[C8f,J3,A9w];by_cases h:i=k
  . simp[h]
  . rw[if_neg h];simp[h]
 | (a,b)::l=>by
  have ih:=C2r k i v l;simp only[C8f,A9w];by_cases h:k=a
  . subst h;simp only[decide_true,cond_true,J3,A9w];by_cases h2:i=k
    . simp[h2]
    . simp[h2]
  . simp only[h,decide_false,cond_false,J3,A9w,ih];by_cases h2:i=a
    . subst h2;have:¬i=k:=fun e=>h e.symm
      simp[this]
    . simp[h2]
theorem E6d {α:Type} (k:Int) (v:α):∀l:List (Int×α),(C8f (.int .i64) k v l).map (fun e=>e.1)=if k∈l.map (fun e=>e.1)then l.map (fun e=>e.1)else l.map (fun e=>e.1)++ [k]
 | []=>by simp[C8f]
 | (a,b)::l=>by
  have ih:=E6d k v l;simp only[C8f,A9w];by_cases h:k=a
  . subst h;simp
  . simp only[h,decide_false,cond_false,List.map_cons,ih,List.mem_cons,false_or];split<;>simp
theorem E3c {α:Type} (k:Int) (v:α):∀ {l:List (Int×α)} {e:Int×α},e∈C8f (.int .i64) k v l->e=(k,v)\/e∈l
 | [],e,h=>by
  simp only[C8f,List.mem_singleton]at h;exact .inl h
 | (a,b)::l,e,h=>by
  simp only[C8f,A9w]at h;by_cases hk:k=a
  . subst hk;simp only[decide_true,cond_true,List.mem_cons]at h;rcases h with h|h
    . exact .inl h
    . exact .inr (List.mem_cons_of_mem _ h)
  . simp only[hk,decide_false,cond_false,List.mem_cons]at h;rcases h with h|h
    . exact .inr (h▸List.mem_cons_self ..)
    . exact(E3c k v h).imp id (List.mem_cons_of_mem _)
theorem E0o {α:Type} {k:Int} {v:α} :∀ {l:List (Int×α)},J3 (.int .i64) k l=some v->(k,v)∈l
 | (a,b)::l,h=>by
  simp only[J3,A9w]at h;by_cases hk:k=a
  . simp[hk]at h;rw[hk,h];exact List.mem_cons_self ..
  . simp[hk]at h;exact List.mem_cons_of_mem _ (E0o h)
theorem D8x {α:Type} {k:Int} :∀ {l:List (Int×α)},k∉l.map (fun e=>e.1)->J3 (.int .i64) k l=none
 | [],_=>rfl
 | (a,b)::l,h=>by
  simp only[List.map_cons,List.mem_cons,not_or]at h;simp only[J3,A9w];simp[h.1,D8x h.2]
theorem F2j {α:Type} {k:Int} :∀ {l:List (Int×α)},k∈l.map (fun e=>e.1)->∃v,J3 (.int .i64) k l=some v
 | (a,b)::l,h=>by
  simp only[J3,A9w];by_cases hk:k=a
  . exact⟨b,by simp[hk]⟩
  . simp only[List.map_cons,List.mem_cons,hk,false_or]at h;obtain⟨v,hv⟩:=F2j h;exact⟨v,by simp[hk,hv]⟩
theorem F3a:∀ {r l:List Int},r.Nodup->(∀i∈r,i∈l)->r.length<=l.length
 | [],_,_,_=>Nat.zero_le _
 |a::r,l,hd,hs=>by
  rw[List.nodup_cons]at hd;have hm:=hs a (List.mem_cons_self ..);have:=F3a (l:=l.erase a) hd.2 fun i hi=>(List.mem_erase_of_ne fun e=>hd.1 (by rw[<-e];exact hi)).2 (hs i (List.mem_cons_of_mem _ hi))
  have h2:=List.length_erase_of_mem hm;have h3:=List.length_pos_of_mem hm;rw[List.length_cons];omega
theorem F7m {r:List Int} {n:Int} (h:r.Nodup) (hr:∀i∈r,0<=i/\i<n):(r.length:Int)<=max n 0:=by
 have:=F3a (l:=(List.range n.toNat).map fun i:Nat=>(i:Int)) h fun i hi=>by
  have:=hr i hi;exact List.mem_map.2 ⟨i.toNat,List.mem_range.2 (by omega),by omega⟩
 rw[List.length_map,List.length_range]at this;omega
structure F4a (n:Int) (F:Int->Rat) (es:List Ent):Prop where
 nd:(es.map fun e=>e.1).Nodup
 rng:∀e∈es,0<=e.1/\e.1<n
 can:∀e∈es,e.2=rc (rv e.2)
 val:∀j,rv ((J3 (.int .i64) j es).getD dQ)=F j
theorem F4a.at {n:Int} {F:Int->Rat} {es:List Ent} (h:F4a n F es) (j:Int):(J3 (.int .i64) j es).getD dQ=rc (F j)\/((J3 (.int .i64) j es).getD dQ=dQ/\F j=0/\j∉es.map fun e=>e.1):=by
 have hv:=h.val j;cases hf:J3 (.int .i64) j es with
 |none=>
  rw[hf]at hv;refine .inr ⟨rfl, ?_,fun hj=> ?_⟩
  . rw[<-hv];exact F0b
  . obtain⟨v,h2⟩:=F2j hj;rw[hf]at h2;cases h2
 |some v=>
  rw[hf]at hv;have h2:=h.can _ (E0o hf);have hv:rv v=F j:=hv;left;show v= _;rw[<-hv];exact h2
theorem F4a.sh {n:Int} {F:Int->Rat} {es:List Ent} (h:F4a n F es) (j:Int) (hq:qs 2199023255552 (F j)):sh3 ((J3 (.int .i64) j es).getD dQ):=by
 rcases h.at j with h1| ⟨h1,_⟩
 . rw[h1];exact hq
 . rw[h1];exact⟨Nat.zero_le _,Nat.zero_le _⟩
theorem F4a.put {n:Int} {F G:Int->Rat} {es:List Ent} (h:F4a n F es) {k:Int} {q:Rat} (hk:0<=k/\k<n) (h1:G k=q) (h2:∀j,j≠k->G j=F j):F4a n G (C8f (.int .i64) k (rc q) es):=by
 refine⟨?_,fun e he=> ?_,fun e he=> ?_,fun j=> ?_⟩
 . have:=E6d k (rc q) es;rw[this];split
   . exact h.nd
   . rename_i hn;rw[List.nodup_append];refine⟨h.nd,by simp,fun a ha b hb hab=> ?_⟩;rw[List.mem_singleton]at hb;subst hb hab;exact hn ha
 . rcases E3c k (rc q) he with rfl|he
   . exact hk
   . exact h.rng e he
 . rcases E3c k (rc q) he with rfl|he
   . show rc q=rc (rv (rc q));rw[U4]
   . exact h.can e he
 . rw[C2r];by_cases hj:j=k
   . rw[if_pos hj];show rv (rc q)= _;rw[U4,hj,h1]
   . rw[if_neg hj,h.val,h2 j hj]
theorem F4a.len {n:Int} {F:Int->Rat} {es:List Ent} (h:F4a n F es):(es.length:Int)<=max n 0:=by
 have:=F7m h.nd (n:=n) fun i hi=>by
  obtain⟨e,he,rfl⟩:=List.mem_map.1 hi;exact h.rng e he
 rwa[List.length_map]at this
theorem A9f (x:A7 F5.args) (hw:awf F5.args x) (hp:F5.pre x):X8 x:=by
 obtain⟨v,⟨R,C,D⟩,_⟩:=x;have hlv:G2k v:=C8b hw.1.2;have hlm:E0x (R,C,D):=A7v hw.2.1.2.2.2;change List Ent at v;change Int at R C;change List (List Ent)at D;obtain⟨hok,hs,hv,hvv,hR⟩:okV K0 v/\okM K0 (R,C,D)/\A5 (R,C,D)/\J4 v R/\R<=1000:=hp;have v5:(D.length:Int)=R:=hv.2.2.2.2.1;have v6:∀w∈D,J4 w C:=hv.2.2.2.2.2;have v3:0<=C:=hv.2.2.1;have v4:C<=16384:=hv.2.2.2.1;have hvl:v.length<=1000:=by have:=D2d hvv;omega
 simp only[X8]
 let H:Int->Int->Rat:=fun j k=>E2 (D.getD k.toNat []) j
 have hHq:∀j:Int,∀e∈v,qs K0 (H j e.1):=fun j e he=>by
  have:=hvv.2 e he;exact F1b hv hlm hs (by decide) (E7 (by omega)) j
 have hEq:∀(j:Int) (n:Nat),qs ((v.take n).length*(K0+K0+1)+1) (A9c (v.take n) (H j)):=fun j n=>F6t (fun e he=>hlv e (List.mem_of_mem_take he)) (fun e he=>hok.2.1 e (List.mem_of_mem_take he)) (by decide) fun e he=>hHq j e (List.mem_of_mem_take he)
 have h7:K0+K0+1=2147483649:=by decide
 have h8:K0+K0=2147483648:=by decide
 refine⟨fun p=>0<=p.1/\p.1<=(v.length:Int)/\F4a C (fun j=>A9c (v.take p.1.toNat) (H j)) p.2.1,fun p=>((v.length:Int)-p.1).toNat,⟨Int.le_refl _,Int.natCast_nonneg _,List.nodup_nil,fun _ h=>(by cases h),fun _ h=>(by cases h),fun j=>F0b⟩, ?_⟩;rintro⟨i,es,_⟩ _ ⟨i0,i1,hS⟩;change Int at i;change List Ent at es;simp only at i0 i1 hS⊢;refine⟨fun h=> ?_,fun h=> ?_⟩
 . have h:=of_decide_eq_true h;have hem:=L3 (d:=dEE) i0 h;obtain⟨e0,e1,_⟩:=hvv.2 _ hem;have hse:=hok.2.1 _ hem;have hle:=hlv _ hem;have hst:=fun j=>E6m (d:=dEE) i0 h (H j)
   have htl:(v.take i.toNat).length<=999:=by rw[List.length_take];omega
   have hEi:=fun j=>hEq j i.toNat
   generalize gx dEE v i=e at*;have heD:e.1<(D.length:Int):=by omega
   rw[B4s e0 heD];have hme:D.getD e.1.toNat []∈D:=E7 (by omega);have hrow:=B1p hv hs hme;have hvr:=v6 _ hme;have hlr:=hlm _ hme;have hH:∀j,H j e.1=E2 (D.getD e.1.toNat []) j:=fun j=>rfl
   generalize D.getD e.1.toNat []=row at*;have hrl:=hrow.2.2;refine⟨⟨i0,h⟩,⟨e0,heD⟩,fun p=>0<=p.1/\p.1<=(row.length:Int)/\F4a C (fun j=>A9c (v.take i.toNat) (H j)+rv e.2*E2 (row.take p.1.toNat) j) p.2.1,fun p=>((row.length:Int)-p.1).toNat,⟨Int.le_refl _,Int.natCast_nonneg _, ?_⟩, ?_⟩
   . have:(fun j=>A9c (v.take i.toNat) (H j)+rv e.2*E2 (row.take (Int.toNat 0)) j)=fun j=>A9c (v.take i.toNat) (H j):=by
      funext j;show _ +rv e.2*0= _;rw[Rat.mul_zero,Rat.add_zero]
     show F4a C (fun j=>A9c (v.take i.toNat) (H j)+rv e.2*E2 (row.take (Int.toNat 0)) j) es;rw[this];exact hS
   rintro⟨t,fs,_⟩ _ ⟨t0,t1,hT⟩;change Int at t;change List Ent at fs;simp only at t0 t1 hT⊢;refine⟨fun ht=> ?_,fun ht=> ?_⟩
   . have ht:=of_decide_eq_true ht;have hfm:=L3 (d:=dEE) t0 ht;have hfr:=hvr.2 _ hfm;have hsf:=hrow.2.1 _ hfm;have hlf:=hlr _ hfm;have hct:=C2l (d:=dEE) t0 ht;have hcq:=B0n (v:=row.take t.toNat) (k:=K0) hrow.1.take (fun e he=>hlr e (List.mem_of_mem_take he)) (fun e he=>hrow.2.1 e (List.mem_of_mem_take he)) (by decide);generalize gx dEE row t=f at*;have hpq:=A2n (B2h hle hse (by decide)) (B2h hlf hsf (by decide));have hFq:qs 2199023255552 (A9c (v.take i.toNat) (H f.1)+rv e.2*E2 (row.take t.toNat) f.1):=by
      refine B2s (E8e (hEi f.1) (A2n (B2h hle hse (by decide)) (hcq f.1))) ?_;rw[h7,h8];omega
     refine⟨⟨t0,ht⟩,⟨A0c hse (by decide),A0c hsf (by decide)⟩, ?_⟩;rintro⟨q,_⟩ _ hq;simp only at hq⊢;refine⟨⟨hT.sh f.1 hFq,by rw[hq];exact A2a hpq (by decide)⟩, ?_⟩;rintro⟨u,_⟩ _ hu;simp only at hu⊢;rw[wr (by omega) (by omega)];have hval:rv ((J3 (.int .i64) f.1 fs).getD dQ)=A9c (v.take i.toNat) (H f.1)+rv e.2*E2 (row.take t.toNat) f.1:=hT.val f.1;rw[hval,hq,U4]at hu;rw[hu];refine⟨⟨by omega,by omega,hT.put ⟨hfr.1,hfr.2.1⟩ ?_ fun j hj=> ?_⟩,by omega⟩
     . show _ +rv e.2*E2 (row.take (t+1).toNat) f.1= _;rw[hct,if_pos rfl,Rat.mul_add, <-Rat.add_assoc]
     . show _ +rv e.2*E2 (row.take (t+1).toNat) j= _ +rv e.2*E2 (row.take t.toNat) j;rw[hct,if_neg (fun e=>hj e.symm),Rat.add_zero]
   . have ht:=of_decide_eq_false ht;rw[D7 (l:=row) (i:=t) (by omega)]at hT;rw[wr (by omega) (by omega)];refine⟨⟨by omega,by omega, ?_⟩,by omega⟩;have:(fun j=>A9c (v.take (i+1).toNat) (H j))=fun j=>A9c (v.take i.toNat) (H j)+rv e.2*E2 row j:=by
      funext j;rw[hst,hH]
     show F4a C (fun j=>A9c (v.take (i+1).toNat) (H j)) fs;rw[this];exact hT
 . have h:=of_decide_eq_false h;rw[D7 (by omega)]at hS;have hlen:=hS.len;refine⟨⟨by omega,hS.nd⟩,fun l hl hls=> ?_⟩;have hnd:l.Nodup:=hl.nodup_iff.2 hS.nd;have hlt:l.Pairwise (· < ·):=by
    refine List.Pairwise.imp₂ ?_ hls hnd;intro a b h1 h2;omega
   have hll:l.length<=16384:=by
    have:=hl.length_eq;rw[List.length_map]at this;omega
   have hmem:∀j,j∈l↔j∈es.map fun e=>e.1:=fun j=>hl.mem_iff
   refine⟨fun p=>0<=p.2.1/\p.2.1<=(l.length:Int)/\p.1.length<=p.2.1.toNat/\C8p p.1/\(∀e∈p.1,e.1∈l.take p.2.1.toNat)/\(∀j∈l.take p.2.1.toNat,E2 p.1 j=A9c v (H j)),fun p=>((l.length:Int)-p.2.1).toNat,⟨Int.le_refl _,Int.natCast_nonneg _,Nat.le_refl _,D1f,fun _ h=>(by cases h),by simp⟩, ?_⟩;rintro⟨out,j,_⟩ _ ⟨h0,h1,h2,h3,h4,h5⟩;change Int at j;change List Ent at out;simp only at h0 h1 h2 h3 h4 h5⊢;refine⟨fun h=> ?_,fun h=> ?_⟩
   . have h:=of_decide_eq_true h;have hg:=W9 (d:=(0:Int)) h0 h;have hts:l.take (j+1).toNat=l.take j.toNat++ [gx 0 l j]:=by
      rw[show(j+1).toNat=j.toNat+1 from by omega,List.take_add_one,K5 (d:=(0:Int)) h0 h];rfl
     have hlt2:∀y∈l.take j.toNat,y<gx 0 l j:=fun y hy=>by
      have:(l.take (j+1).toNat).Pairwise (· < ·):=hlt.take;rw[hts,List.pairwise_append]at this;exact this.2.2 y hy _ (List.mem_singleton.2 rfl)
     have hin:gx 0 l j∈l:=L3 (d:=(0:Int)) h0 h;rw[<-hg];generalize gx 0 l j=i at*;have hval:(J3 (.int .i64) i es).getD dQ=rc (A9c v (H i)):=by
      rcases hS.at i with h6| ⟨_,_,h6⟩
      . exact h6
      . exact absurd ((hmem i).1 hin) h6
     rw[hval];have hout:∀e∈out,e.1<i:=fun e he=>hlt2 _ (h4 e he)
     have hnil:E2 out i=0:=H7 fun e he hei=>by have:=hout e he;omega
     refine⟨fun p=>p.1.length<=(j+1).toNat/\C8p p.1/\(∀e∈p.1,e.1∈l.take (j+1).toNat)/\∀k∈l.take (j+1).toNat,E2 p.1 k=A9c v (H k),⟨⟨h0,h⟩,trivial, ?_⟩, ?_⟩
     . rintro⟨s,_⟩ _ hsg;simp only at hsg⊢;rw[U4]at hsg;refine⟨fun hz=>⟨⟨by simp only[List.length_singleton];omega,by simp only[List.length_singleton];omega⟩,by show(out++ [(i,_)]).length<= _;simp;omega, ?_,fun e he=> ?_,fun k hk=> ?_⟩,fun hz=>⟨by show out.length<= _;omega,h3,fun e he=>by rw[hts];exact List.mem_append.2 (.inl (h4 e he)),fun k hk=> ?_⟩⟩
       . have hz:=of_decide_eq_true hz;exact D5o h3 (fun h0=>hz (by rw[hsg,h0];rfl)) hout
       . rw[hts];rcases List.mem_append.1 he with he|he
         . exact List.mem_append.2 (.inl (h4 e he))
         . rw[List.mem_singleton.1 he];exact List.mem_append.2 (.inr (List.mem_singleton.2 rfl))
       . show E2 (out++ [(i,rc (A9c v (H i)))]) k=A9c v (H k);rw[C0s];rw[hts]at hk;rcases List.mem_append.1 hk with hk|hk
         . have:=hlt2 k hk;rw[if_neg (by omega),Rat.add_zero,h5 k hk]
         . rw[List.mem_singleton.1 hk,if_pos rfl,hnil,Rat.zero_add]
       . have hz:=of_decide_eq_false hz;have hz0:A9c v (H i)=0:=D1w (by rw[<-hsg];exact Decidable.not_not.1 hz);rw[hts]at hk;show E2 out k=A9c v (H k);rcases List.mem_append.1 hk with hk|hk
         . exact h5 k hk
         . rw[List.mem_singleton.1 hk,hnil,hz0]
     . rintro⟨o,_⟩ _ ho;simp only at ho⊢;rw[wr (by omega) (by omega)];exact⟨⟨by omega,by omega,ho⟩,by omega⟩
   . have h:=of_decide_eq_false h;rw[D7 (by omega)]at h4 h5;refine⟨h3,fun i=> ?_⟩;show E2 out i=A9c v (H i);by_cases hi:i∈l
     . exact h5 i hi
     . rw[H7 fun e he hei=>hi (by rw[<-hei];exact h4 e he)];have:=hS.val i;rw[D8x fun h6=>hi ((hmem i).2 h6)]at this;exact F0b.symm.trans this
theorem C9t (x:A7 V3.args) (hw:awf V3.args x) (hp:V3.pre x):B1b x:=by
 obtain⟨⟨R,C,D⟩,⟨R',C',D'⟩,_⟩:=x;change Int at R C R' C';change List (List Ent)at D D';obtain⟨hs,hs',hC⟩:okM K0 (R,C,D)/\okM K0 (R',C',D')/\C<=1000:=hp;simp only[B1b];refine⟨trivial, ?_⟩;rintro⟨r,_⟩ _ hr;simp only at hr⊢;refine⟨fun _=>trivial, ?_⟩;rintro⟨s,_⟩ hs2;simp only at hs2⊢;rw[Q0];by_cases hv:A5 (R,C,D)
 . have hr:r=true:=by rw[hr];exact decide_eq_true hv
   have hs2:=(hs2 (by rw[hr];rfl)).2;rw[hr,hs2];by_cases hv':A5 (R',C',D')
   . rw[decide_eq_true hv'];refine⟨fun h=>(by cases h),fun _=>⟨fun h=> ?_,fun h=> ?_⟩⟩
     . have h:=of_decide_eq_true h;exact⟨fun h=>absurd ⟨hv,hv'⟩ h,fun _=>⟨fun _=>⟨rfl,by trivial⟩,fun h2=>absurd h2 h⟩⟩
     . have h:=Decidable.not_not.1 (of_decide_eq_false h);obtain⟨v1,v2,v3,v4,_,_⟩:=id hv;have v5:(D.length:Int)=R:=hv.2.2.2.2.1;have v6:∀w∈D,J4 w C:=hv.2.2.2.2.2;have w3:0<=C':=hv'.2.2.1;have w5:(D'.length:Int)=R':=hv'.2.2.2.2.1;have w6:∀w∈D',J4 w C':=hv'.2.2.2.2.2;simp only at v1 v2 v3 v4;refine⟨⟨v1,Int.le_refl _,by omega,by omega⟩, ?_⟩;refine⟨fun p=>0<=p.1/\p.1<=R/\F4o R.toNat p.1.toNat (fun i=>isV C'.toNat fun j=>Y8 C.toNat fun k=>el (R,C,D) i k*el (R',C',D') k j) p.2.1,fun p=>(R-p.1).toNat,⟨Int.le_refl _,v1,G3u List.length_replicate⟩, ?_⟩;rintro⟨k,rows,_⟩ _ ⟨k0,k1,hf⟩;change Int at k;change List (List Ent)at rows;simp only at k0 k1 hf⊢;have:=hf.1;refine⟨fun hk=> ?_,fun hk=> ?_⟩
       . have hk:=of_decide_eq_true hk;have hme:=L3 (d:=([]:List Ent)) k0 hk;rw[B4s k0 hk]at hme⊢;have hvr:=v6 _ hme;refine⟨⟨k0,hk⟩,⟨B1p hv hs hme,hs',hv',by rw[<-h];exact hvr,by omega⟩, ?_⟩;rintro⟨v,_⟩ _ hvv;simp only at hvv⊢;rw[wr (by omega) (by omega)];have hes:∀j:Int,A9c (D.getD k.toNat []) (fun k=>E2 (D'.getD k.toNat []) j)=Y8 C.toNat fun l=>el (R,C,D) k.toNat l*E2 (D'.getD l []) j:=fun j=>by
          rw[F7k (n:=C.toNat) fun e he=>⟨(hvr.2 e he).1,by have:=(hvr.2 e he).2.1;omega⟩];exact A9a fun l _=>by rw[Int.toNat_natCast];rfl
         refine⟨⟨k0,by omega⟩,⟨by omega,by omega,E5d hf k0 (by omega) ?_⟩,by omega⟩;refine F6k hvv (fun j hj=> ?_) fun j _=> ?_
         . rw[hes];refine D3q fun l hl=> ?_
           rw[D1q (w6 _ (E7 (l:=D') (i:=l) (by omega))) (show¬(0<=j/\j<C')by omega),Rat.mul_zero]
         . rw[hes];rfl
       . have hk:=of_decide_eq_false hk;exact⟨fun h=>absurd ⟨hv,hv'⟩ h,fun _=>⟨fun h2=>absurd h h2,fun _=>⟨⟨by show R= _;omega,by show C'= _;omega,hf.1,fun i hi=>hf.2 i (by omega)⟩,by trivial⟩⟩⟩
   . rw[decide_eq_false hv'];exact⟨fun _=>⟨fun _=>⟨rfl,by trivial⟩,fun h=>absurd h.2 hv'⟩,fun h=>(by cases h)⟩
 . have hr:r=false:=by rw[hr];exact decide_eq_false hv
   rw[hr];exact⟨fun _=>⟨fun _=>⟨rfl,by trivial⟩,fun h=>absurd h.1 hv⟩,fun h=>(by simp at h)⟩
theorem G7e {n:Nat} {f:Nat->Rat} {v:List Ent} (h:isV n f v):v.length<=n:=by
 have:=D2d (E7i h);omega
theorem B2a (x:A7 G9.args) (hw:awf G9.args x) (hp:G9.pre x):A0x x:=by
 obtain⟨⟨R,C,D⟩,_⟩:=x;change Int at R C;change List (List Ent)at D;have hs:okM K1 (R,C,D):=hp;simp only[A0x,qc,qd];refine⟨trivial, ?_⟩;rintro⟨r,_⟩ _ hr;simp only at hr⊢;by_cases hv:A5 (R,C,D)
 . have hr:r=true:=by rw[hr];exact decide_eq_true hv
   rw[hr];obtain⟨v1,v2,v3,v4,_,_⟩:=id hv;have v5:(D.length:Int)=R:=hv.2.2.2.2.1;have v6:∀w∈D,J4 w C:=hv.2.2.2.2.2;simp only at v1 v2 v3 v4;refine⟨fun h=>(by cases h),fun _=>⟨⟨v3,Int.le_refl _,by omega,by omega⟩, ?_⟩⟩;refine⟨fun p=>0<=p.1/\p.1<=R/\p.2.1.length=C.toNat/\∀j,j<C.toNat->isV p.1.toNat (fun i=>el (R,C,D) i j) (p.2.1.getD j []),fun p=>(R-p.1).toNat,⟨Int.le_refl _,v1,List.length_replicate,fun j hj=> ?_⟩, ?_⟩
   . have e:(List.replicate C.toNat ([]:List Ent)).getD j []= []:=by
      rw[List.getD_eq_getElem?_getD,List.getElem?_replicate,if_pos hj];rfl
     show isV _ _ ((List.replicate C.toNat ([]:List Ent)).getD j []);rw[e];exact⟨D1f,fun _ h=>(by cases h),fun i hi=>by simp at hi⟩
   rintro⟨k,rows,_⟩ _ ⟨k0,k1,hl,hf⟩;change Int at k;change List (List Ent)at rows;simp only at k0 k1 hl hf⊢;refine⟨fun hk=> ?_,fun hk=> ?_⟩
   . have hk:=of_decide_eq_true hk;have hme:=L3 (d:=([]:List Ent)) k0 hk;rw[B4s k0 hk]at hme⊢;have hvr:=v6 _ hme;have hrow:=B1p hv hs hme;have hcmp:∀j:Nat,E2 (D.getD k.toNat []) (j:Int)=el (R,C,D) k.toNat j:=fun j=>rfl
     generalize D.getD k.toNat []=row at*;have hrl:=hrow.2.2;refine⟨⟨k0,hk⟩,fun p=>0<=p.1/\p.1<=(row.length:Int)/\p.2.1.length=C.toNat/\∀j,j<C.toNat->isV (k+1).toNat (fun i=>if i<k.toNat then el (R,C,D) i j else E2 (row.take p.1.toNat) (j:Int)) (p.2.1.getD j []),fun p=>((row.length:Int)-p.1).toNat,⟨Int.le_refl _,Int.natCast_nonneg _,hl,fun j hj=> ?_⟩, ?_⟩
     . obtain⟨a1,a2,a3⟩:=hf j hj;refine⟨a1,fun e he=>by have:=a2 e he;omega,fun i hi=> ?_⟩;dsimp only;by_cases hi2:i<k.toNat
       . rw[if_pos hi2];exact a3 i hi2
       . rw[if_neg hi2,H7 fun e he hei=>by have:=(a2 e he).2;omega];rfl
     rintro⟨t,o,_⟩ _ ⟨t0,t1,ol,of⟩;change Int at t;change List (List Ent)at o;simp only at t0 t1 ol of⊢;refine⟨fun ht=> ?_,fun ht=> ?_⟩
     . have ht:=of_decide_eq_true ht;have hem:=L3 (d:=dEE) t0 ht;obtain⟨e0,e1,ez⟩:=hvr.2 _ hem;have hse:=hrow.2.1 _ hem;have hct:=C2l (d:=dEE) t0 ht;have hbef:E2 (row.take t.toNat) (gx dEE row t).1=0:=by
        refine H7 fun x hx hxe=> ?_
        have h1:(row.take (t+1).toNat).Pairwise (fun a b=>a.1<b.1):=hrow.1.take;rw[show(t+1).toNat=t.toNat+1 from by omega,List.take_add_one,K5 (d:=dEE) t0 ht,List.pairwise_append]at h1;have:=h1.2.2 x hx (gx dEE row t) (by simp);omega
       generalize gx dEE row t=e at*;have hsh:sh3 e.2:=A0c hse (by decide);have A1:t<(row.length:Int):=ht;have B1:e.1<(o.length:Int):=by rw[ol];omega
       have hoe:=of e.1.toNat (by omega);have hlen:=G7e hoe;have L1:((o.getD e.1.toNat []).length+ [(k,rc (rv e.2))].length)*64<=140737488355328:=by simp only[List.length_singleton];omega
       have L2:(o.getD e.1.toNat []).length+ [(k,rc (rv e.2))].length<=9223372036854775807:=by simp only[List.length_singleton];omega
       have hwr:IntKind.i64.wrap (t+1)=t+1:=wr (by omega) (by omega);rw[hwr];have I1:0<=t+1:=by omega
       have I2:t+1<=(row.length:Int):=by omega
       have I3:(o.set e.1.toNat (o.getD e.1.toNat []++ [(k,rc (rv e.2))])).length=C.toNat:=by rw[List.length_set];exact ol
       have I4:∀j,j<C.toNat->isV (k+1).toNat (fun i=>if i<k.toNat then el (R,C,D) i j else E2 (row.take (t+1).toNat) (j:Int)) ((o.set e.1.toNat (o.getD e.1.toNat []++ [(k,rc (rv e.2))])).getD j []):=fun j hj=>by
        rw[List.getD_eq_getElem?_getD,List.getElem?_set];by_cases hje:e.1.toNat=j
        . rw[if_pos hje,if_pos (by omega)];subst hje;obtain⟨a1,a2,a3⟩:=hoe;have hlt:∀x∈o.getD e.1.toNat [],x.1<k:=fun x hx=>by
           have h1:=a2 x hx;have h2:=(a1.2 x hx).1;rw[<-B1c a1.1 hx]at h2;refine Decidable.byContradiction fun hn=>h2 ?_
           have h3:x.1=((k.toNat:Nat):Int):=by omega
           rw[h3,a3 k.toNat (by omega)];dsimp only;rw[if_neg (by omega),show((e.1.toNat:Nat):Int)=e.1 from by omega];exact hbef
          refine⟨D5o a1 ez hlt,fun x hx=> ?_,fun i hi=> ?_⟩
          . rcases List.mem_append.1 hx with hx|hx
            . exact a2 x hx
            . rw[List.mem_singleton.1 hx];show 0<=k/\k< _;omega
          . show E2 (o.getD e.1.toNat []++ [(k,rc (rv e.2))]) (i:Int)= _;rw[C0s,a3 i hi];dsimp only;rw[hct,if_pos (show e.1=((e.1.toNat:Nat):Int)by omega)];by_cases hi2:i<k.toNat
            . rw[if_pos hi2,if_pos hi2,if_neg (by omega),Rat.add_zero]
            . rw[if_neg hi2,if_neg hi2,if_pos (by omega)]
        . rw[if_neg hje, <-List.getD_eq_getElem?_getD];refine D4x (of j hj) fun i _=> ?_
          rw[hct,if_neg (show¬e.1=(j:Int)by omega),Rat.add_zero]
       have M1:((row.length:Int)-(t+1)).toNat<((row.length:Int)-t).toNat:=by omega
       clear hoe hlen hct hbef of hf hvr
       repeat' first
        |exact⟨⟨e0,B1⟩,by trivial,⟨I1,I2,I3,I4⟩,M1⟩
        |exact⟨L1,L2⟩
        |exact⟨e0,B1⟩
        |exact⟨t0,A1⟩
        |exact hsh
        |apply And.intro
        | (rintro⟨q,_⟩ _ hq;simp only at hq⊢;subst hq)
     . have ht:=of_decide_eq_false ht;rw[wr (by omega) (by omega)];rw[D7 (l:=row) (i:=t) (by omega)]at of;refine⟨⟨by omega,by omega,ol,fun j hj=>D4x (of j hj) fun i hi=> ?_⟩,by omega⟩;by_cases hi2:i<k.toNat
       . rw[if_pos hi2]
       . rw[if_neg hi2,hcmp,show i=k.toNat from by omega]
   . have hk:=of_decide_eq_false hk;exact⟨fun h=>absurd hv h,fun _=>⟨⟨by show C= _;omega,by show R= _;omega,hl,fun j hj=>by
      have:=hf j hj;rw[show k.toNat=R.toNat from by omega]at this;exact this⟩,by trivial⟩⟩
 . have hr:r=false:=by rw[hr];exact decide_eq_false hv
   rw[hr];exact⟨fun _=>⟨fun _=>⟨rfl,by trivial⟩,fun h=>absurd h hv⟩,fun h=>(by cases h)⟩
theorem A2y (x:A7 C6.args) (hw:awf C6.args x) (hp:C6.pre x):P0 x:=by
 obtain⟨l,⟨ok,φ⟩,_⟩:=x;have hl:l.length<=9223372036854775807:=hw.1.1;change List Int at l;have hp:∀i∈l,ok (i,()):=hp;simp only[P0];refine⟨fun p=>0<=p.1/\p.1<=(l.length:Int)/\∀y∈l.take p.1.toNat,φ (y,())=false,fun p=>((l.length:Int)-p.1).toNat,⟨Int.le_refl _,Int.natCast_nonneg _,by simp⟩, ?_⟩;rintro⟨i,_⟩ _ ⟨h0,h1,h2⟩;change Int at i;simp only at h0 h1 h2⊢;refine⟨fun h=> ?_,fun h=> ?_⟩
 . have h:=of_decide_eq_true h;refine⟨⟨h0,h⟩,by trivial,hp _ (L3 h0 h),fun _=>⟨fun ht=> ?_,fun hf=> ?_⟩⟩
   . have hfi:l.findIdx? (fun i=>φ (i,()))=some i.toNat:=by
      rw[List.findIdx?_eq_some_iff_getElem];have hg:=K5 (d:=(0:Int)) h0 h;have hlt:i.toNat<l.length:=by omega
      rw[List.getElem?_eq_getElem hlt]at hg;refine⟨hlt,by rw[Option.some.inj hg];exact ht,fun j hj=> ?_⟩;have:=h2 l[j] (List.mem_iff_getElem.2 ⟨j,by rw[List.length_take];omega,by simp⟩);simp[this]
     unfold G3s;rw[hfi];show i=((i.toNat:Nat):Int);omega
   . rw[wr (by omega) (by omega)];exact⟨⟨by omega,by omega,A2r h0 h h2 hf⟩,by omega⟩
 . have h:=of_decide_eq_false h;rw[D7 (by omega)]at h2;unfold G3s;have:l.findIdx? (fun i=>φ (i,()))=none:=by
    rw[List.findIdx?_eq_none_iff];exact h2
   rw[this]
theorem G6c (p:Int->Bool) (l:List Int):0<=G3s p l↔∃i,i∈l/\p i=true:=by
 unfold G3s;cases h:l.findIdx? p with
 |none=>
  rw[List.findIdx?_eq_none_iff]at h;constructor
  . intro h2;simp at h2
  . rintro⟨i,hi,hp⟩;have:=h i hi;rw[this]at hp;cases hp
 |some k=>
  rw[List.findIdx?_eq_some_iff_getElem]at h;obtain⟨hk,hp,_⟩:=h;exact⟨fun _=>⟨_,List.getElem_mem hk,hp⟩,fun _=>Int.natCast_nonneg _⟩
theorem A1l (x:A7 C0.args) (hw:awf C0.args x) (hp:C0.pre x):M7 x:=by
 obtain⟨l,⟨ok,φ⟩,_⟩:=x;change List Int at l;have hp:∀i∈l,ok (i,()):=hp;simp only[M7];refine⟨by trivial,by trivial,hp, ?_⟩;rintro⟨r,_⟩ _ hr;simp only at hr⊢;rw[hr];exact decide_eq_decide.2 (G6c _ _)
theorem B0j (x:A7 F0.args) (hw:awf F0.args x) (_:F0.pre x):A0g x:=by
 simp only[A0g];rw[Q0,Bool.decide_or]
theorem F7v {a b:List Ent} (h:a.Perm b) (j:Int):E2 a j=E2 b j:=by
 induction h with
 |nil=>rfl
 |cons e _ ih=>rw[E2,E2,ih]
 |swap e f l=>simp only[E2];rw[<-Rat.add_assoc, <-Rat.add_assoc,Rat.add_comm (if f.1=j then rv f.2 else 0)]
 |trans _ _ h1 h2=>rw[h1,h2]
theorem G6j {a b:Int} (h:¬D0d b a<0):a<=b:=by
 unfold D0d at h;split at h
 . omega
 . split at h<;>omega
theorem B9i (x:A7 N6.args) (hw:awf N6.args x) (hp:N6.pre x):A4s x:=by
 obtain⟨⟨R,C,D⟩,rows,cols,_⟩:=x;have hlm:E0x (R,C,D):=A7v hw.1.2.2.2;change Int at R C;change List (List Ent)at D;change List Int at rows cols;obtain⟨⟨hs,hlr,hlc⟩,hnd⟩:(okM K1 (R,C,D)/\rows.length<=1000/\cols.length<=1000)/\cols.Nodup:=by
  obtain⟨a,b,c,d⟩:=hp;exact⟨⟨a,b,c⟩,d⟩
 simp only[A4s];refine⟨trivial, ?_⟩;rintro⟨r,_⟩ _ hr;simp only at hr⊢;by_cases hv:A5 (R,C,D)
 . have hr:r=true:=by rw[hr];exact decide_eq_true hv
   rw[hr];obtain⟨v1,v2,v3,v4,_,_⟩:=id hv;have v5:(D.length:Int)=R:=hv.2.2.2.2.1;have v6:∀w∈D,J4 w C:=hv.2.2.2.2.2;simp only at v1 v2 v3 v4;refine⟨fun h=>(by cases h),fun _=>⟨by trivial,by trivial,fun _ _=>trivial, ?_⟩⟩;rintro⟨b1,_⟩ _ hb1;simp only at hb1⊢;refine⟨by trivial,by trivial,fun _ _ _=>trivial, ?_⟩;rintro⟨b2,_⟩ hb2;simp only at hb2⊢;rw[Q0];have key:(b1||b2)=true↔((∃i,i∈rows/\(i<0\/R<=i))\/∃i,i∈cols/\(i<0\/C<=i)):=by
    by_cases h1:∃i,i∈rows/\(i<0\/R<=i)
    . have:b1=true:=by
       rw[hb1];obtain⟨i,hi,hc⟩:=h1;exact decide_eq_true ⟨i,hi,decide_eq_true hc⟩
      rw[this];exact⟨fun _=> .inl h1,fun _=>rfl⟩
    . have h1':b1=false:=by
       rw[hb1];exact decide_eq_false fun⟨i,hi,hc⟩=>h1 ⟨i,hi,of_decide_eq_true hc⟩
      have hb2:=(hb2 h1').2;rw[h1',Bool.false_or,hb2];constructor
      . intro h;obtain⟨i,hi,hc⟩:=of_decide_eq_true h;exact .inr ⟨i,hi,of_decide_eq_true hc⟩
      . rintro(h| ⟨i,hi,hc⟩)
        . exact absurd h h1
        . exact decide_eq_true ⟨i,hi,decide_eq_true hc⟩
   refine⟨fun h=> ?_,fun h=>⟨trivial, ?_⟩⟩
   . have h:=key.1 h;exact⟨fun h2=>absurd hv h2,fun _=>⟨fun _=>⟨rfl,by trivial⟩,fun h2=>absurd h h2⟩⟩
   have hnot:¬((∃i,i∈rows/\(i<0\/R<=i))\/∃i,i∈cols/\(i<0\/C<=i)):=fun h2=>by rw[key.2 h2]at h;cases h
   have hrows:∀i∈rows,0<=i/\i<R:=fun i hi=>Decidable.byContradiction fun hn=>hnot (.inl ⟨i,hi,by omega⟩)
   have hcols:∀i∈cols,0<=i/\i<C:=fun i hi=>Decidable.byContradiction fun hn=>hnot (.inr ⟨i,hi,by omega⟩)
   rintro⟨b3,_⟩ _ hb3;simp only at hb3⊢;refine⟨fun _=>trivial, ?_⟩;rintro⟨b4,_⟩ hb4;simp only at hb4⊢;have h3:b3=true:=by rw[hb3];exact decide_eq_true ⟨by omega,by omega⟩
   have h4:b4=true:=by rw[(hb4 (by rw[h3];rfl)).2];exact decide_eq_true ⟨by omega,by omega⟩
   rw[h3,h4];refine⟨fun h=>(by cases h),fun _=> ?_⟩;clear hb1 hb2 hb3 hb4 key h;refine⟨fun p=>0<=p.1/\p.1<=(cols.length:Int)/\(∀k:Nat,k<p.1.toNat->J3 (.int .i64) (cols.getD k 0) p.2.1=some [(k:Int)])/\∀c,c∉cols.take p.1.toNat->J3 (.int .i64) c p.2.1=Option.none,fun p=>((cols.length:Int)-p.1).toNat,⟨Int.le_refl _,Int.natCast_nonneg _,fun k hk=>by simp at hk,fun _ _=>rfl⟩, ?_⟩;rintro⟨i,es,_⟩ _ ⟨i0,i1,hm1,hm2⟩;change Int at i;change List (Int×List Int)at es;simp only at i0 i1 hm1 hm2⊢;refine⟨fun hi=> ?_,fun hi=> ?_⟩
   . have hi:=of_decide_eq_true hi;have hg:=W9 (d:=(0:Int)) i0 hi;have hlt:i.toNat<cols.length:=by omega
     have hts:cols.take (i+1).toNat=cols.take i.toNat++ [cols.getD i.toNat 0]:=by
      rw[show(i+1).toNat=i.toNat+1 from by omega,List.take_add_one,List.getElem?_eq_getElem hlt,B5i _ _ hlt];rfl
     have hnin:cols.getD i.toNat 0∉cols.take i.toNat:=fun hin=>by
      have h1:(cols.take (i+1).toNat).Nodup:=hnd.take;rw[hts,List.nodup_append]at h1;exact h1.2.2 _ hin _ (List.mem_singleton.2 rfl) rfl
     rw[hg,wr (by omega) (by omega)];refine⟨⟨i0,hi⟩,hm2 _ hnin,⟨by simp only[List.length_singleton];omega,by simp only[List.length_singleton];omega⟩,⟨by omega,by omega,fun k hk=> ?_,fun c hc=> ?_⟩,by omega⟩
     . show J3 (.int .i64) (cols.getD k 0) (C8f (.int .i64) (cols.getD i.toNat 0) [i] es)= _;rw[C2r];by_cases hk2:k=i.toNat
       . rw[if_pos (by rw[hk2]),hk2,show((i.toNat:Nat):Int)=i from by omega]
       . have hk3:k<i.toNat:=by have hk:k<(i+1).toNat:=hk;omega
         rw[if_neg,hm1 k hk3];intro he;apply hnin;rw[<-he,B5i _ _ (show k<cols.length by omega)];exact List.mem_iff_getElem.2 ⟨k,by rw[List.length_take];omega,by simp⟩
     . show J3 (.int .i64) c (C8f (.int .i64) (cols.getD i.toNat 0) [i] es)= _;have hc:c∉cols.take (i+1).toNat:=hc;rw[hts,List.mem_append,List.mem_singleton,not_or]at hc;rw[C2r,if_neg hc.2,hm2 c hc.1]
   . have hi:=of_decide_eq_false hi;rw[D7 (by omega)]at hm2;have hin:i.toNat=cols.length:=by omega
     rw[hin]at hm1;rw[Int.toNat_natCast];refine⟨⟨by omega,Int.le_refl _,by omega,by omega⟩,fun p=>0<=p.1/\p.1<=(rows.length:Int)/\F4o rows.length p.1.toNat (fun i=>isV cols.length fun j=>el (R,C,D) (rows.getD i 0).toNat (cols.getD j 0).toNat) p.2.1,fun p=>((rows.length:Int)-p.1).toNat,⟨Int.le_refl _,Int.natCast_nonneg _,G3u List.length_replicate⟩, ?_⟩;rintro⟨k,out,_⟩ _ ⟨k0,k1,hf⟩;change Int at k;change List (List Ent)at out;simp only at k0 k1 hf⊢;have hol:=hf.1;refine⟨fun hk=> ?_,fun hk=> ?_⟩
     . have hk:=of_decide_eq_true hk;have hg:=W9 (d:=(0:Int)) k0 hk;have hri:=hrows _ (L3 (d:=(0:Int)) k0 hk);rw[hg]at hri⊢;have hfs:∀ {w:List Ent},isV cols.length (fun j=>el (R,C,D) (rows.getD k.toNat 0).toNat (cols.getD j 0).toNat) w->F4o rows.length (k+1).toNat (fun i=>isV cols.length fun j=>el (R,C,D) (rows.getD i 0).toNat (cols.getD j 0).toNat) (out.set k.toNat w):=fun {w} hw2=>E5d hf k0 hk hw2
       generalize rows.getD k.toNat 0=ri' at*;have hrD:ri'<(D.length:Int):=by omega
       rw[B4s hri.1 hrD];have hme:D.getD ri'.toNat []∈D:=E7 (by omega);have hrow:=B1p hv hs hme;have hvr:=v6 _ hme;have hcmp:∀c:Int,0<=c->E2 (D.getD ri'.toNat []) c=el (R,C,D) ri'.toNat c.toNat:=fun c hc=>E4c _ _ hc
       generalize D.getD ri'.toNat []=row at*;have hrl:=hrow.2.2;refine⟨⟨k0,hk⟩,⟨hri.1,hrD⟩,fun p=>0<=p.2.1/\p.2.1<=(row.length:Int)/\p.1.length<=p.2.1.toNat/\(p.1.map fun e=>e.1).Nodup/\(∀x∈p.1,∃q:Nat,q<cols.length/\x.1=(q:Int)/\(∃y∈row.take p.2.1.toNat,y.1=cols.getD q 0)/\rv x.2≠0/\x.2=rc (rv x.2))/\∀j:Nat,j<cols.length->E2 p.1 (j:Int)=E2 (row.take p.2.1.toNat) (cols.getD j 0),fun p=>((row.length:Int)-p.2.1).toNat,⟨Int.le_refl _,Int.natCast_nonneg _,Nat.le_refl _,List.nodup_nil,fun _ h=>(by cases h),fun j _=>rfl⟩, ?_⟩;rintro⟨o,t,_⟩ _ ⟨t0,t1,o1,o2,o3,o4⟩;change List Ent at o;change Int at t;simp only at t0 t1 o1 o2 o3 o4⊢;refine⟨fun ht=> ?_,fun ht=> ?_⟩
       . have ht:=of_decide_eq_true ht;have hem:=L3 (d:=dEE) t0 ht;obtain⟨e0,e1,ez⟩:=hvr.2 _ hem;have hse:=hrow.2.1 _ hem;have hct:=C2l (d:=dEE) t0 ht;have hbef:∀y∈row.take t.toNat,y.1≠(gx dEE row t).1:=fun x hx hxe=>by
          have h1:(row.take (t+1).toNat).Pairwise (fun a b=>a.1<b.1):=hrow.1.take;rw[show(t+1).toNat=t.toNat+1 from by omega,List.take_add_one,K5 (d:=dEE) t0 ht,List.pairwise_append]at h1;have:=h1.2.2 x hx (gx dEE row t) (by simp);omega
         have hsub:∀y∈row.take t.toNat,y∈row.take (t+1).toNat:=fun y hy=>by
          rw[show(t+1).toNat=t.toNat+1 from by omega,List.take_add_one];exact List.mem_append.2 (.inl hy)
         have hnew:gx dEE row t∈row.take (t+1).toNat:=by
          rw[show(t+1).toNat=t.toNat+1 from by omega,List.take_add_one,K5 (d:=dEE) t0 ht];simp
         generalize gx dEE row t=e at*;have hL:(J3 (.int .i64) e.1 es).getD []= []/\e.1∉cols\/∃q:Nat,q<cols.length/\cols.getD q 0=e.1/\(J3 (.int .i64) e.1 es).getD []= [(q:Int)]:=by
          by_cases hc:e.1∈cols
          . obtain⟨q,hq,hqe⟩:=C4a 0 hc;have:=hm1 q hq;rw[hqe]at this;exact .inr ⟨q,hq,hqe,by rw[this];rfl⟩
          . exact .inl ⟨by rw[hm2 _ hc];rfl,hc⟩
         generalize (J3 (.int .i64) e.1 es).getD []=L at*;have hLl:L.length<=1:=by
          rcases hL with⟨h,_⟩ | ⟨q,_,_,h⟩<;>rw[h]<;>simp
         refine⟨⟨t0,ht⟩,fun p=>0<=p.2.1/\p.2.1<=(L.length:Int)/\p.1=o++(L.take p.2.1.toNat).map fun q=>(q,rc (rv e.2)),fun p=>((L.length:Int)-p.2.1).toNat,⟨Int.le_refl _,Int.natCast_nonneg _,by simp⟩, ?_⟩;rintro⟨o',u,_⟩ _ ⟨u0,u1,ho'⟩;change List Ent at o';change Int at u;simp only at u0 u1 ho'⊢;have hol':o'.length<=o.length+1:=by
          rw[ho',List.length_append,List.length_map,List.length_take];omega
         refine⟨fun hu=> ?_,fun hu=> ?_⟩
         . have hu:=of_decide_eq_true hu;refine⟨⟨u0,hu⟩,A0c hse (by decide), ?_⟩;rintro⟨q,_⟩ _ hq;simp only at hq⊢;rw[wr (by omega) (by omega)];refine⟨⟨by simp only[List.length_singleton];omega,by simp only[List.length_singleton];omega⟩,⟨by omega,by omega, ?_⟩,by omega⟩;rw[ho',hq,show(u+1).toNat=u.toNat+1 from by omega,List.take_add_one,K5 (d:=(0:Int)) u0 hu,List.map_append,List.append_assoc];rfl
         . have hu:=of_decide_eq_false hu;rw[D7 (l:=L) (i:=u) (by omega)]at ho';rw[wr (by omega) (by omega)];have hcj:∀j:Nat,j<cols.length->E2 (row.take (t+1).toNat) (cols.getD j 0)=E2 (row.take t.toNat) (cols.getD j 0)+if e.1=cols.getD j 0 then rv e.2 else 0:=fun j _=>hct _
           have hmono:∀x∈o,∃q:Nat,q<cols.length/\x.1=(q:Int)/\(∃y∈row.take (t+1).toNat,y.1=cols.getD q 0)/\rv x.2≠0/\x.2=rc (rv x.2):=fun x hx=>by
            obtain⟨q,h1,h2,⟨y,hy,h3⟩,h4,h5⟩:=o3 x hx;exact⟨q,h1,h2,⟨y,hsub y hy,h3⟩,h4,h5⟩
           rcases hL with⟨hL,hnc⟩ | ⟨q,hq,hqe,hL⟩
           . rw[hL,List.map_nil,List.append_nil]at ho';subst ho';refine⟨⟨by omega,by omega,by omega,o2,hmono,fun j hj=> ?_⟩,by omega⟩;rw[o4 j hj,hcj j hj,if_neg (fun h=>hnc (by rw[h];exact E7 hj)),Rat.add_zero]
           . rw[hL,List.map_cons,List.map_nil]at ho';subst ho';refine⟨⟨by omega,by omega,by omega, ?_,fun x hx=> ?_,fun j hj=> ?_⟩,by omega⟩
             . show((o++ [((q:Int),rc (rv e.2))]).map fun e:Ent=>e.1).Nodup;rw[List.map_append,List.nodup_append];refine⟨o2,by simp,fun a ha b hb hab=> ?_⟩;obtain⟨x,hx,rfl⟩:=List.mem_map.1 ha;simp only[List.map_cons,List.map_nil,List.mem_singleton]at hb;obtain⟨q',h1,h2,⟨y,hy,h3⟩,_⟩:=o3 x hx;have:q'=q:=by omega
               subst this;exact hbef y hy (by rw[h3,hqe])
             . rcases List.mem_append.1 hx with hx|hx
               . exact hmono x hx
               . rw[List.mem_singleton.1 hx];exact⟨q,hq,rfl,⟨e,hnew,hqe.symm⟩,by rw[U4];exact ez,by rw[U4]⟩
             . show E2 (o++ [((q:Int),rc (rv e.2))]) (j:Int)= _;rw[C0s,o4 j hj,hcj j hj];congr 1;by_cases hqj:q=j
               . subst hqj;rw[if_pos rfl,if_pos hqe.symm]
               . rw[if_neg (by omega),if_neg];intro h6;apply hqj;have h7:cols.getD q 0=cols.getD j 0:=hqe.trans h6;rw[B5i _ _ hq,B5i _ _ hj]at h7;exact(List.getElem_inj hnd).1 h7
       . have ht:=of_decide_eq_false ht;rw[D7 (by omega)]at o4;refine⟨by omega,fun l' _ hpm hst=> ?_⟩;have hst:l'.Pairwise fun a b:Ent=>¬D0d b.1 a.1<0:=hst
         rw[wr (by omega) (by omega)];refine⟨⟨k0,by omega⟩,⟨by omega,by omega,hfs ?_⟩,by omega⟩;have hnd2:(l'.map fun e:Ent=>e.1).Nodup:=(hpm.map _).nodup_iff.2 o2;have hasc:asc l':=by
          unfold List.Nodup at hnd2;rw[List.pairwise_map]at hnd2;refine List.Pairwise.imp₂ ?_ hst hnd2;intro a b h1 h2;have:=G6j h1;omega
         have hx:∀x∈l',∃q:Nat,q<cols.length/\x.1=(q:Int)/\rv x.2≠0/\x.2=rc (rv x.2):=fun x hx=>by
          obtain⟨q,h1,h2,_,h4,h5⟩:=o3 x (hpm.mem_iff.1 hx);exact⟨q,h1,h2,h4,h5⟩
         refine⟨⟨hasc,fun x hx'=> ?_⟩,fun x hx'=> ?_,fun j hj=> ?_⟩
         . obtain⟨q,_,_,h4,h5⟩:=hx x hx';exact⟨h4,h5⟩
         . obtain⟨q,h1,h2,_⟩:=hx x hx';omega
         . rw[F7v hpm,o4 j hj];exact hcmp _ (hcols _ (E7 hj)).1
     . have hk:=of_decide_eq_false hk;exact⟨fun h=>absurd hv h,fun _=>⟨fun h2=>absurd h2 hnot,fun _=>⟨fun h2=>absurd h2 (by omega),fun _=>⟨⟨rfl,rfl,hf.1,fun i hi=>hf.2 i (by omega)⟩,by trivial⟩⟩⟩⟩
 . have hr:r=false:=by rw[hr];exact decide_eq_false hv
   rw[hr];exact⟨fun _=>⟨fun _=>⟨rfl,by trivial⟩,fun h=>absurd h hv⟩,fun h=>(by cases h)⟩
end Go.Proofs.YtkdmjgcjpmcjjaaGreat
