/- Part. -/
import Derived.Test.YtkdmjgcjpmcjjaaGreatK40F
namespace Go.Proofs.YtkdmjgcjpmcjjaaGreat
open Go.Vc Go.Gw
theorem G5m {l:List N8} {i:Int} (h0:0<=i) (h1:i<(l.length:Int)):gx dQ l i=l.getD i.toNat zr:=V5 (d:=zr) h0 h1
theorem B1k (x:A6 G9.args) (hw:awf G9.args x) (hp:G9.pre x):A0i x:=by
 obtain⟨l,_⟩:=x;change List N8 at l;obtain⟨hl,hs⟩:l.length<=100000/\szL K1 l:=hp;simp only[A0i];refine⟨fun p=>0<=p.2.1/\p.2.1<=(l.length:Int)/\p.1.length<=p.2.1.toNat/\isV p.2.1.toNat (fun j=>rv (l.getD j zr)) p.1,fun p=>((l.length:Int)-p.2.1).toNat,⟨Int.le_refl _,Int.natCast_nonneg _,Nat.le_refl _,C1a,fun _ h=>(by cases h),fun j hj=>by simp at hj⟩, ?_⟩;rintro⟨v,i,_⟩ _ ⟨h0,h1,h2,h3⟩;change List Ent at v;change Int at i;simp only at h0 h1 h2 h3⊢;refine⟨fun h=> ?_,fun h=> ?_⟩
 . have h:=of_decide_eq_true h;have hme:gx dQ l i∈l:=N0 h0 h;have hz:=hs _ hme;have hg:=G5m h0 h;have hlt:∀e∈v,e.1<i:=fun e he=>by have:=(h3.2.1 e he).2;omega
   rw[hg]at hz⊢;have hstep:∀w:List Ent,B5p w->(∀e∈w,e∈v\/e.1=i)->(∀j:Int,D5 w j=D5 v j+if i=j then rv (l.getD i.toNat zr)else 0)->isV (i+1).toNat (fun j=>rv (l.getD j zr)) w:=fun w hc hw hcm=>by
    refine⟨hc,fun e he=> ?_,fun j hj=> ?_⟩
    . rcases hw e he with he|he
      . have:=h3.2.1 e he;omega
      . omega
    . rw[hcm];by_cases hj2:j<i.toNat
      . rw[h3.2.2 j hj2,if_neg (by omega),Rat.add_zero]
      . have:j=i.toNat:=by omega
        rw[H7 fun e he hei=>by have:=hlt e he;omega,if_pos (by omega),Rat.zero_add,this]
   refine⟨fun p=>p.1.length<=(i+1).toNat/\isV (i+1).toNat (fun j=>rv (l.getD j zr)) p.1,⟨⟨h0,h⟩,trivial, ?_⟩, ?_⟩
   . rintro⟨s,_⟩ _ hsg;simp only at hsg⊢;refine⟨fun hne=>⟨A6n hz (by decide), ?_⟩,fun he=>⟨by show v.length<= _;omega,hstep v h3.1 (fun e he=> .inl he) fun j=> ?_⟩⟩
     . rintro⟨r,_⟩ _ hr;simp only at hr⊢;have hne:=of_decide_eq_true hne;have hq:rv (l.getD i.toNat zr)≠0:=fun h0=>hne (by rw[hsg,h0];rfl)
       refine⟨⟨by simp only[List.length_singleton];omega,by simp only[List.length_singleton];omega⟩,by show(v++ [(i,r)]).length<= _;simp;omega, ?_⟩;show isV _ _ (v++ [(i,r)]);rw[hr];exact hstep _ (C1p h3.1 hq hlt) (fun e he=>by
        rcases List.mem_append.1 he with he|he
        . exact .inl he
        . rw[List.mem_singleton.1 he];exact .inr rfl) fun j=>C3c v i _ j
     . have he:=of_decide_eq_false he;have hq:rv (l.getD i.toNat zr)=0:=D5q (by rw[<-hsg];exact Decidable.not_not.1 he);rw[hq,ite_self,Rat.add_zero]
   . rintro⟨w,_⟩ _ hw';simp only at hw'⊢;rw[wr (by omega) (by omega)];exact⟨⟨by omega,by omega,hw'⟩,by omega⟩
 . have h:=of_decide_eq_false h;rw[show i.toNat=l.length from by omega]at h3;exact h3
theorem C1s (x:A6 P0.args) (hw:awf P0.args x) (hp:P0.pre x):A5s x:=by
 obtain⟨v,n,_⟩:=x;change List Ent at v;change Int at n;obtain⟨hv,hva,n0,n1⟩:okV K1 v/\J4 v n/\0<=n/\n<=16384:=hp;simp only[A5s];refine⟨fun h=> ?_,fun _=>⟨hv, ?_⟩⟩
 . rw[N4]at h;simp only[Bool.or_eq_true,decide_eq_true_eq]at h;omega
 rintro⟨c,_⟩ ⟨⟨hcl,_⟩,_⟩ ⟨hc1,hc2⟩;change List Ent at c;simp only at hc1 hc2 hcl⊢;have hcv:∀e∈c,0<=e.1/\e.1<n:=fun e he=>by
  have:D5 v e.1≠0:=by rw[<-hc2,A9i hc1.1 he];exact(hc1.2 e he).1
  exact D8k hva this
 refine⟨fun h=>⟨Int.le_refl _,of_decide_eq_true h⟩,fun h=> ?_,fun h=> ?_,fun _=>⟨⟨n0,Int.le_refl _,by omega,by omega⟩, ?_⟩⟩
 . have:=of_decide_eq_true h.2;rw[wr (by omega) (by omega)];omega
 . rw[O1,N4]at h;simp only[Bool.and_eq_true,Bool.or_eq_true,decide_eq_true_eq]at h;obtain⟨hl,h⟩:=h;have g1:=hcv _ (N0 (d:=dEE) (i:=0) (Int.le_refl _) hl);rw[wr (by omega) (by omega)]at h;have g2:=hcv _ (N0 (d:=dEE) (i:=(c.length:Int)-1) (by omega) (by omega));omega
 have hrl:(List.replicate n.toNat dQ).length=n.toNat:=List.length_replicate;rw[hrl];refine⟨fun p=>0<=p.2.1/\p.2.1<=n/\fill n.toNat p.2.1.toNat (fun j:Nat=>rc (D5 v (j:Int))) p.2.2.1/\B5p p.1/\(∀e∈p.1,p.2.1<=e.1)/\∀j,p.2.1<=j->D5 p.1 j=D5 v j,fun p=>(n-p.2.1).toNat,⟨Int.le_refl _,n0,F8g hrl,hc1,fun e he=>(hcv e he).1,fun j _=>hc2 j⟩, ?_⟩;rintro⟨d,i,out,_⟩ _ ⟨i0,i1,hf,hd,hdi,hdc⟩;change List Ent at d;change Int at i;change List N8 at out;simp only at i0 i1 hf hd hdi hdc⊢;refine⟨fun h=> ?_,fun h=> ?_⟩
 . have h:=of_decide_eq_true h;have hlen:=hf.1;have hci:=hdc i (Int.le_refl _);refine⟨fun p=>fill n.toNat (i+1).toNat (fun j:Nat=>rc (D5 v (j:Int))) p.2.1/\B5p p.1/\(∀e∈p.1,i+1<=e.1)/\∀j,i+1<=j->D5 p.1 j=D5 v j,⟨fun h=>⟨Int.le_refl _,of_decide_eq_true h⟩,fun h2=> ?_,fun h2=>⟨trivial, ?_⟩⟩, ?_⟩
   . rw[O1]at h2;simp only[Bool.and_eq_true,decide_eq_true_eq]at h2;obtain⟨hl,he⟩:=h2;cases d with
     |nil=>simp at hl
     |cons e d=>
      have he:e.1=i:=he;have hl1:(1:Int)<=((e::d).length:Int):=by simp only[List.length_cons];omega
      rw[F9l];have hdt:∀z∈d,i+1<=z.1:=fun z hz=>by have:=(J2.1 hd.1).1 z hz;omega
      refine⟨⟨Int.le_refl _,hl⟩,⟨i0,by omega⟩,⟨by omega,hl1,Int.le_refl _⟩, ?_,D3s hd,hdt,fun j hj=> ?_⟩
      . refine C1m hf i0 (by omega) ?_;show e.2= _;rw[show((i.toNat:Nat):Int)=i from by omega, <-hci, <-he,R3 hd.1];exact(hd.2 e (List.mem_cons_self ..)).2
      . rw[<-hdc j (by omega),Z6 (by omega)]
   . rintro⟨r,_⟩ _ hr;simp only at hr⊢;have hr:r=rc 0:=by rw[hr, <-D7v];rfl
     have hno:∀e∈d,e.1≠i:=fun e he hei=>by
      cases d with
      |nil=>cases he
      |cons f d=>
       rw[O1]at h2;simp only[Bool.and_eq_false_iff,decide_eq_false_iff_not]at h2;rcases h2 with h2|h2
       . simp at h2
       . have h2:¬f.1=i:=h2;rcases List.mem_cons.1 he with rfl|he
         . exact h2 hei
         . have:=(J2.1 hd.1).1 e he;have:=hdi f (List.mem_cons_self ..);omega
     refine⟨⟨i0,by omega⟩, ?_,hd,fun e he=> ?_,fun j hj=>hdc j (by omega)⟩
     . refine C1m hf i0 (by omega) ?_;rw[hr,show((i.toNat:Nat):Int)=i from by omega, <-hci,H7 hno]
     . have:=hdi e he;have:=hno e he;omega
   . rintro⟨d',o',_⟩ _ ⟨j1,j2,j3,j4⟩;simp only at j1 j2 j3 j4⊢;rw[wr (by omega) (by omega)];exact⟨⟨by omega,by omega,j1,j2,j3,j4⟩,by omega⟩
 . have h:=of_decide_eq_false h;exact⟨C9v hf (by omega),by trivial⟩
theorem A8d (x:A6 F3.args) (hw:awf F3.args x) (hp:F3.pre x):W3 x:=by
 obtain⟨p,q,f,_⟩:=x;have lq:F8r q:=E7y hw.2.1;have lf:F8r f:=E7y hw.2.2.1;change N8 at p q f;obtain⟨hp',hq,hf⟩:sz K1 p/\sz K1 q/\sz K1 f:=hp;simp only[W3];refine⟨trivial, ?_⟩;rintro⟨s,_⟩ _ hs;simp only at hs⊢;refine⟨fun h=>⟨A6n hp' (by decide), ?_⟩,fun _=>⟨⟨A6n hf (by decide),A6n hq (by decide)⟩, ?_⟩⟩
 . rintro⟨r,_⟩ _ hr;simp only at hr⊢;have h:=of_decide_eq_true h;rw[hs]at h;rw[hr,D5q h,Rat.mul_zero,Rat.add_zero]
 . rintro⟨r,_⟩ _ hr;simp only at hr⊢;have hm:=D3e (E5w lf hf (by decide)) (E5w lq hq (by decide));refine⟨⟨A6n hp' (by decide),by rw[hr];exact A8v hm (by decide)⟩, ?_⟩;rintro⟨t,_⟩ _ ht;simp only at ht⊢;rw[ht,hr,A0t]
theorem B1d (x:A6 H2.args) (hw:awf H2.args x) (hp:H2.pre x):A0j x:=by
 obtain⟨a,f,b,_⟩:=x;change List Ent at a b;change N8 at f;obtain⟨⟨a1,a2,a3⟩,hf,b1,b2,b3⟩:okV K1 a/\sz K1 f/\okV K1 b:=hp;simp only[A0j];refine⟨a1, ?_⟩;rintro⟨r,_⟩ _ hr;simp only at hr⊢;subst hr;refine⟨b1, ?_⟩;rintro⟨s,_⟩ _ hs;simp only at hs⊢;subst hs;refine⟨fun y=>sz K1 y.1/\sz K1 y.2.1,fun y=>rc (rv y.1+rv f*rv y.2.1), ?_,⟨a3,b3,fun u v hu hv=>⟨F6k a2 hu,F6k b2 hv⟩⟩, ?_⟩
 . rintro⟨u,v,_⟩ _ ⟨hu,hv⟩;exact⟨⟨hu,hv,hf⟩,fun z _ hz=>⟨by trivial,hz⟩⟩
 . rintro⟨r,_⟩ _ hr;simp only at hr⊢;rw[hr];obtain⟨m1,_,m3⟩:=D0z (fun y=>rc (rv y.1+rv f*rv y.2.1)) (fun p q=>p+rv f*q) (by rw[Rat.mul_zero,Rat.add_zero]) _ _ (fun _ _ _ _=>rfl) a1 b1;exact⟨m1,m3⟩
def F1f:An:= {join:= [(4,⟨[0,1,4,5,6],[0],[],[(1,31,[.val .bool, .val (.sl (.int .u32)), .val (.sl (.int .u32))])],[]⟩)],loop:= [(3,⟨[0,1,4,5],[0],[(6,false,[.val (.int .i64)])],[(1,31,[.val .bool, .val (.sl (.int .u32)), .val (.sl (.int .u32))])],[]⟩)],plan:= [(6,[0,5],[7],true,(.q 0 (.p 1 (.p 2 (.p 3 (.p 4 (.q 5 (.e 6 (.e 7 .done)))))))))]}
def D9a:B4:= [(32,A1m),(75,P9)]
def D6b:An:= {join:= [(7,⟨[5,6,9,10,11],[],[(3,false,[.own (.int .i64) 3])],[],[]⟩)],loop:= [(9,⟨[3,5,6,9,10,11],[1],[(7,false,[.val (.int .i64)])],[],[]⟩),(6,⟨[5,9,10,11],[],[(3,false,[.own (.int .i64) 3]),(6,false,[.val (.int .i64)])],[],[]⟩),(3,⟨[9,10],[],[(3,false,[.own (.int .i64) 3]),(11,false,[.val (.int .i64)])],[],[]⟩)],plan:= [(9,[8,13],[],true,(.p 0 (.p 1 (.p 2 (.p 3 (.p 4 (.p 5 (.p 6 (.p 7 (.q 8 (.p 9 (.p 10 (.p 11 (.p 12 (.q 13 (.p 14 (.p 15 .done))))))))))))))))),(11,[8,13],[],true,(.p 0 (.p 1 (.p 2 (.p 3 (.p 4 (.p 5 (.p 6 (.p 7 (.q 8 (.p 9 (.p 10 (.p 11 (.p 12 (.q 13 (.p 14 (.p 15 .done)))))))))))))))))]}
def B6j:B4:= []
def E6k:An:= {join:= [(8,⟨[0,9,10,11],[],[(3,false,[.own tE 94])],[],[]⟩)],loop:= [(3,⟨[0,9,10],[],[(3,false,[.own tE 94]),(11,false,[.val (.int .i64)])],[],[]⟩)]}
def D3n:B4:= [(29,X0),(120,Z7),(199,Q8)]
def C9b:An:= {loop:= [(4,⟨[0,1],[],[(5,false,[.val (.int .i64)])],[],[]⟩)],plan:= [(6,[4,9,16,25,30],[],false,(.p 0 (.p 1 (.p 2 (.p 3 (.q 4 (.p 5 (.p 6 (.p 7 (.p 8 (.q 9 (.p 10 (.p 11 (.p 12 (.p 13 (.p 14 (.p 15 (.q 16 (.e 17 (.p 18 (.p 19 (.p 20 (.p 21 (.p 22 (.p 23 (.p 24 (.q 25 (.p 26 (.p 27 (.p 28 (.p 29 (.q 30 (.e 31 (.p 32 (.p 33 .done)))))))))))))))))))))))))))))))))))]}
def B0o:B4:= [(17,P7),(102,J7)]
def E5o:An:= {loop:= [(2,⟨[0,1],[],[(5,false,[.val (.int .i64)])],[],[]⟩)],plan:= [(4,[4,11,23,29,38],[],true,(.p 0 (.p 1 (.p 2 (.p 3 (.q 4 (.p 5 (.p 6 (.p 7 (.p 8 (.p 9 (.p 10 (.q 11 (.p 12 (.p 13 (.p 14 (.p 15 (.p 16 (.p 17 (.p 18 (.p 19 (.p 20 (.p 21 (.p 22 (.q 23 (.p 24 (.p 25 (.p 26 (.p 27 (.p 28 (.q 29 (.p 30 (.p 31 (.p 32 (.p 33 (.p 34 (.p 35 (.p 36 (.p 37 (.q 38 (.e 39 (.p 40 (.p 41 .done)))))))))))))))))))))))))))))))))))))))))))]}
def C7t:B4:= [(29,X0)]
def C8q:An:= {loop:= [(3,⟨[0],[],[(3,false,[.own tE 94]),(4,false,[.val (.int .i64)])],[],[]⟩)]}
def B0r:B4:= [(164,X2)]
def E3a:An:= {loop:= [(5,⟨[0,1,6],[],[(7,false,[.val (.int .i64)])],[],[(0, .row tQ 31)]⟩)]}
def C7s:B4:= [(104,U9),(120,Z7),(164,X2)]
def E7i:An:= {loop:= [(4,⟨[0,1],[],[(5,false,[.val (.int .i64)])],[],[]⟩)],plan:= [(6,[3,10,18,22],[],false,(.p 0 (.p 1 (.p 2 (.q 3 (.e 4 (.p 5 (.p 6 (.p 7 (.p 8 (.p 9 (.q 10 (.e 11 (.p 12 (.p 13 (.p 14 (.p 15 (.p 16 (.p 17 (.q 18 (.p 19 (.p 20 (.p 21 (.q 22 (.e 23 (.p 24 (.p 25 .done)))))))))))))))))))))))))))]}
def D1m:B4:= [(17,P7),(102,J7)]
def C7c:A6 Z7.args->Prop:=fun(x:List EE×Int×Unit)=>True/\∀(r:QQ×Unit),WfQ r.1/\True->r.1=rc (0:Rat)->∃(I:Int×Bool×List Int×List Int×Unit->Prop),∃(μ:Int×Bool×List Int×List Int×Unit->Nat),I ((0:Int),r.1.1.1,r.1.1.2,r.1.2,())/\∀(p:Int×Bool×List Int×List Int×Unit),E5 p.1/\True/\WfU p.2.2.1/\WfU p.2.2.2.1/\True->I p->(decide (p.1<(x.1.length:Int))=true->∃(J:Bool×List Int×List Int×Unit->Prop),((0<=p.1/\p.1<(x.1.length:Int))/\(decide ((gx dEE x.1 p.1).1=x.2.1)=true->(0<=p.1/\p.1<(x.1.length:Int))/\(sh3 ((p.2.1,p.2.2.1),p.2.2.2.1)/\sh3 (gx dEE x.1 p.1).2)/\∀(r:QQ×Unit),WfQ r.1/\True->r.1=rc (rv ((p.2.1,p.2.2.1),p.2.2.2.1)+rv (gx dEE x.1 p.1).2)->J (r.1.1.1,r.1.1.2,r.1.2,()))/\(decide ((gx dEE x.1 p.1).1=x.2.1)=false->J (p.2.1,p.2.2.1,p.2.2.2.1,())))/\∀(a:Bool×List Int×List Int×Unit),True/\WfU a.2.1/\WfU a.2.2.1/\True->J a->I (IntKind.i64.wrap (p.1+1),a.1,a.2.1,a.2.2.1,())/\μ (IntKind.i64.wrap (p.1+1),a.1,a.2.1,a.2.2.1,())<μ p)/\(decide (p.1<(x.1.length:Int))=false->((p.2.1,p.2.2.1),p.2.2.2.1)=rc (D5 x.1 x.2.1))
theorem E0m (x:A6 Z7.args):I2 Tryz.prog tys D9a F1f Z7 Tryz.f120 x=C7c x:=by kernel_rfl
def A7l:A6 Q8.args->Prop:=fun(x:List (List EE)×Unit)=>∃(I:List Int×Int×Unit->Prop),∃(μ:List Int×Int×Unit->Nat),I ([],(0:Int),())/\∀(p:List Int×Int×Unit),WfI p.1/\E5 p.2.1/\True->I p->(decide (p.2.1<(x.1.length:Int))=true->(0<=p.2.1/\p.2.1<(x.1.length:Int))/\∃(I_1:List Int×Int×Unit->Prop),∃(μ_1:List Int×Int×Unit->Nat),I_1 (p.1,(0:Int),())/\∀(a:List Int×Int×Unit),WfI a.1/\E5 a.2.1/\True->I_1 a->(decide (a.2.1<(↑(gx [] x.1 p.2.1).length:Int))=true->∃(J:List Int×Unit->Prop),(∃(I:Int×Unit->Prop),∃(μ:Int×Unit->Nat),I ((0:Int),())/\∀(b:Int×Unit),E5 b.1/\True->I b->(decide (b.1<(a.1.length:Int))=true->0<=b.1/\b.1<(a.1.length:Int))/\(decide (b.1<(a.1.length:Int))=true->0<=a.2.1/\a.2.1<(↑(gx [] x.1 p.2.1).length:Int))/\(sel (decide (b.1<(a.1.length:Int))) (decide (List.getD a.1 (Int.toNat b.1) (0:Int)<(gx dEE (gx [] x.1 p.2.1) a.2.1).1)) false=true->I (IntKind.i64.wrap (b.1+1),())/\μ (IntKind.i64.wrap (b.1+1),())<μ b)/\(sel (decide (b.1<(a.1.length:Int))) (decide (List.getD a.1 (Int.toNat b.1) (0:Int)<(gx dEE (gx [] x.1 p.2.1) a.2.1).1)) false=false->(decide (b.1<(a.1.length:Int))=true->0<=b.1/\b.1<(a.1.length:Int))/\(decide (b.1<(a.1.length:Int))=true->0<=a.2.1/\a.2.1<(↑(gx [] x.1 p.2.1).length:Int))/\(sel (decide (b.1<(a.1.length:Int))) (decide (List.getD a.1 (Int.toNat b.1) (0:Int)=(gx dEE (gx [] x.1 p.2.1) a.2.1).1)) false=true->J (a.1,()))/\(sel (decide (b.1<(a.1.length:Int))) (decide (List.getD a.1 (Int.toNat b.1) (0:Int)=(gx dEE (gx [] x.1 p.2.1) a.2.1).1)) false=false->((0:Int)<=(0:Int)/\0<=b.1/\b.1<=(a.1.length:Int))/\(((0:Nat)+(List.drop (Int.toNat (0:Int)) (List.take (Int.toNat b.1) a.1)).length)*(8:Nat)<=(140737488355328:Nat)/\(0:Nat)+(List.drop (Int.toNat (0:Int)) (List.take (Int.toNat b.1) a.1)).length<=9223372036854775807)/\(0<=a.2.1/\a.2.1<(↑(gx [] x.1 p.2.1).length:Int))/\(((List.drop (Int.toNat (0:Int)) (List.take (Int.toNat b.1) a.1)).length+ [(gx dEE (gx [] x.1 p.2.1) a.2.1).1].length)*(8:Nat)<=(140737488355328:Nat)/\(List.drop (Int.toNat (0:Int)) (List.take (Int.toNat b.1) a.1)).length+ [(gx dEE (gx [] x.1 p.2.1) a.2.1).1].length<=9223372036854775807)/\(0<=b.1/\b.1<=(a.1.length:Int)/\(a.1.length:Int)<=(a.1.length:Int))/\(((List.drop (Int.toNat (0:Int)) (List.take (Int.toNat b.1) a.1)++ [(gx dEE (gx [] x.1 p.2.1) a.2.1).1]).length+(List.drop (Int.toNat b.1) (List.take (a.1.length:Int).toNat a.1)).length)*(8:Nat)<=(140737488355328:Nat)/\(List.drop (Int.toNat (0:Int)) (List.take (Int.toNat b.1) a.1)++ [(gx dEE (gx [] x.1 p.2.1) a.2.1).1]).length+(List.drop (Int.toNat b.1) (List.take (a.1.length:Int).toNat a.1)).length<=9223372036854775807)/\J (List.drop (Int.toNat (0:Int)) (List.take (Int.toNat b.1) a.1)++ [(gx dEE (gx [] x.1 p.2.1) a.2.1).1]++List.drop (Int.toNat b.1) (List.take (a.1.length:Int).toNat a.1),()))))/\∀(p:List Int×Unit),WfI p.1/\True->J p->I_1 (p.1,IntKind.i64.wrap (a.2.1+1),())/\μ_1 (p.1,IntKind.i64.wrap (a.2.1+1),())<μ_1 a)/\(decide (a.2.1<(↑(gx [] x.1 p.2.1).length:Int))=false->I (a.1,IntKind.i64.wrap (p.2.1+1),())/\μ (a.1,IntKind.i64.wrap (p.2.1+1),())<μ p))/\(decide (p.2.1<(x.1.length:Int))=false->List.Pairwise (fun(x1 x2:Int)=>x1<x2) p.1/\∀(i:Int),i∈p.1↔∃(v:List EE),v∈x.1/\∃(e:EE),e∈v/\e.1=i)
theorem C4k (x:A6 Q8.args):I2 Tryz.prog tys B6j D6b Q8 Tryz.f199 x=A7l x:=by kernel_rfl
def B9d:A6 X2.args->Prop:=fun(x:List EE×Unit)=>([x.1].length<=(4:Nat)/\∀(v:List EE),v∈ [x.1]->v.length<=(100000:Nat))/\∀(r:List Int×Unit),WfI r.1/\True->(List.Pairwise (fun(x1 x2:Int)=>x1<x2) r.1/\∀(i:Int),i∈r.1↔∃(v:List EE),v∈ [x.1]/\∃(e:EE),e∈v/\e.1=i)->∃(I:List EE×Int×Unit->Prop),∃(μ:List EE×Int×Unit->Nat),I ([],(0:Int),())/\∀(p:List EE×Int×Unit),B1h p.1/\E5 p.2.1/\True->I p->(decide (p.2.1<(r.1.length:Int))=true->∃(J:List EE×Unit->Prop),((0<=p.2.1/\p.2.1<(r.1.length:Int))/\okV K1 x.1/\∀(a:QQ×Unit),WfQ a.1/\True->a.1=rc (D5 x.1 (gx (0:Int) r.1 p.2.1))->sh3 a.1/\∀(b:Int×Unit),E5 b.1/\True->b.1=(rv a.1).num.sign->(decide (b.1≠0)=true->((List.length p.1+ [(gx (0:Int) r.1 p.2.1,a.1)].length)*(64:Nat)<=(140737488355328:Nat)/\List.length p.1+ [(gx (0:Int) r.1 p.2.1,a.1)].length<=9223372036854775807)/\J (p.1++ [(gx (0:Int) r.1 p.2.1,a.1)],()))/\(decide (b.1≠0)=false->J (p.1,())))/\∀(c:List EE×Unit),B1h c.1/\True->J c->I (c.1,IntKind.i64.wrap (p.2.1+1),())/\μ (c.1,IntKind.i64.wrap (p.2.1+1),())<μ p)/\(decide (p.2.1<(r.1.length:Int))=false->B5p p.1/\∀(i:Int),D5 p.1 i=D5 x.1 i)
theorem D5t (x:A6 X2.args):I2 Tryz.prog tys D3n E6k X2 Tryz.f164 x=B9d x:=by kernel_rfl
def A3w:A6 M6.args->Prop:=fun(x:List EE×List EE×Unit)=>(decide ((x.1.length:Int)≠(x.2.1.length:Int))=true->false=decide (x.1=x.2.1/\∀(e:EE),e∈x.1->e.2=rc (rv e.2)))/\(decide ((x.1.length:Int)≠(x.2.1.length:Int))=false->∃(I:Int×Unit->Prop),∃(μ:Int×Unit->Nat),I ((0:Int),())/\∀(p:Int×Unit),E5 p.1/\True->I p->(decide (p.1<(x.1.length:Int))=true->(0<=p.1/\p.1<(x.1.length:Int))/\(0<=p.1/\p.1<(x.2.1.length:Int))/\(decide ((gx dEE x.1 p.1).1≠(gx dEE x.2.1 p.1).1)=false->0<=p.1/\p.1<(x.1.length:Int))/\(decide ((gx dEE x.1 p.1).1≠(gx dEE x.2.1 p.1).1)=false->sh3 (gx dEE x.1 p.1).2)/\∀(r:Bool×Unit),(decide ((gx dEE x.1 p.1).1≠(gx dEE x.2.1 p.1).1)=false->(True/\True)/\r.1=decide ((gx dEE x.1 p.1).2=rc (rv (gx dEE x.1 p.1).2)))->((sel (decide ((gx dEE x.1 p.1).1≠(gx dEE x.2.1 p.1).1)) true !r.1)=false->0<=p.1/\p.1<(x.1.length:Int))/\((sel (decide ((gx dEE x.1 p.1).1≠(gx dEE x.2.1 p.1).1)) true !r.1)=false->0<=p.1/\p.1<(x.2.1.length:Int))/\((sel (decide ((gx dEE x.1 p.1).1≠(gx dEE x.2.1 p.1).1)) true !r.1)=false->True)/\∀(a:Bool×Unit),((sel (decide ((gx dEE x.1 p.1).1≠(gx dEE x.2.1 p.1).1)) true !r.1)=false->(True/\True)/\a.1=decide ((gx dEE x.1 p.1).2=(gx dEE x.2.1 p.1).2))->((sel (sel (decide ((gx dEE x.1 p.1).1≠(gx dEE x.2.1 p.1).1)) true !r.1) true !a.1)=true->false=decide (x.1=x.2.1/\∀(e:EE),e∈x.1->e.2=rc (rv e.2)))/\((sel (sel (decide ((gx dEE x.1 p.1).1≠(gx dEE x.2.1 p.1).1)) true !r.1) true !a.1)=false->I (IntKind.i64.wrap (p.1+1),())/\μ (IntKind.i64.wrap (p.1+1),())<μ p))/\(decide (p.1<(x.1.length:Int))=false->true=decide (x.1=x.2.1/\∀(e:EE),e∈x.1->e.2=rc (rv e.2))))
theorem B7f (x:A6 M6.args):I2 Tryz.prog tys B0o C9b M6 Tryz.f126 x=A3w x:=by kernel_rfl
def B2p:A6 U9.args->Prop:=fun(x:List EE×Int×Unit)=>∃(I:Int×Unit->Prop),∃(μ:Int×Unit->Nat),I ((0:Int),())/\∀(p:Int×Unit),E5 p.1/\True->I p->(decide (p.1<(x.1.length:Int))=true->(0<=p.1/\p.1<(x.1.length:Int))/\(decide ((gx dEE x.1 p.1).1<(0:Int))=false->0<=p.1/\p.1<(x.1.length:Int))/\(decide (0<p.1)=true/\sel (decide ((gx dEE x.1 p.1).1<(0:Int))) true (decide (x.2.1<=(gx dEE x.1 p.1).1))=false->0<=p.1/\p.1<(x.1.length:Int))/\(decide (0<p.1)=true/\sel (decide ((gx dEE x.1 p.1).1<(0:Int))) true (decide (x.2.1<=(gx dEE x.1 p.1).1))=false->(0:Int)<=IntKind.i64.wrap (p.1-1)/\IntKind.i64.wrap (p.1-1)<(x.1.length:Int))/\(sel (sel (decide ((gx dEE x.1 p.1).1<(0:Int))) true (decide (x.2.1<=(gx dEE x.1 p.1).1))) true (sel (decide (0<p.1)) (decide ((gx dEE x.1 p.1).1<=(gx dEE x.1 (IntKind.i64.wrap (p.1-1))).1)) false)=false->0<=p.1/\p.1<(x.1.length:Int))/\(sel (sel (decide ((gx dEE x.1 p.1).1<(0:Int))) true (decide (x.2.1<=(gx dEE x.1 p.1).1))) true (sel (decide (0<p.1)) (decide ((gx dEE x.1 p.1).1<=(gx dEE x.1 (IntKind.i64.wrap (p.1-1))).1)) false)=false->sh3 (gx dEE x.1 p.1).2)/\∀(r:Int×Unit),(sel (sel (decide ((gx dEE x.1 p.1).1<(0:Int))) true (decide (x.2.1<=(gx dEE x.1 p.1).1))) true (sel (decide (0<p.1)) (decide ((gx dEE x.1 p.1).1<=(gx dEE x.1 (IntKind.i64.wrap (p.1-1))).1)) false)=false->(E5 r.1/\True)/\r.1=(rv (gx dEE x.1 p.1).2).num.sign)->(sel (sel (sel (decide ((gx dEE x.1 p.1).1<(0:Int))) true (decide (x.2.1<=(gx dEE x.1 p.1).1))) true (sel (decide (0<p.1)) (decide ((gx dEE x.1 p.1).1<=(gx dEE x.1 (IntKind.i64.wrap (p.1-1))).1)) false)) true (decide (r.1=0))=true->false=decide (J4 x.1 x.2.1))/\(sel (sel (sel (decide ((gx dEE x.1 p.1).1<(0:Int))) true (decide (x.2.1<=(gx dEE x.1 p.1).1))) true (sel (decide (0<p.1)) (decide ((gx dEE x.1 p.1).1<=(gx dEE x.1 (IntKind.i64.wrap (p.1-1))).1)) false)) true (decide (r.1=0))=false->I (IntKind.i64.wrap (p.1+1),())/\μ (IntKind.i64.wrap (p.1+1),())<μ p))/\(decide (p.1<(x.1.length:Int))=false->true=decide (J4 x.1 x.2.1))
theorem D1s (x:A6 U9.args):I2 Tryz.prog tys C7t E5o U9 Tryz.f104 x=B2p x:=by kernel_rfl
def A3x:A6 M8.args->Prop:=fun(x:List QQ×Unit)=>∃(I:List EE×Int×Unit->Prop),∃(μ:List EE×Int×Unit->Nat),I ([],(0:Int),())/\∀(p:List EE×Int×Unit),B1h p.1/\E5 p.2.1/\True->I p->(decide (p.2.1<(x.1.length:Int))=true->(0<=p.2.1/\p.2.1<(x.1.length:Int))/\((List.length p.1+ [(p.2.1,gx dQ x.1 p.2.1)].length)*(64:Nat)<=(140737488355328:Nat)/\List.length p.1+ [(p.2.1,gx dQ x.1 p.2.1)].length<=9223372036854775807)/\I (p.1++ [(p.2.1,gx dQ x.1 p.2.1)],IntKind.i64.wrap (p.2.1+1),())/\μ (p.1++ [(p.2.1,gx dQ x.1 p.2.1)],IntKind.i64.wrap (p.2.1+1),())<μ p)/\(decide (p.2.1<(x.1.length:Int))=false->okV K1 p.1/\∀(r:List EE×Unit),B1h r.1/\True->isC (D5 p.1) r.1->B5p r.1/\(∀(e:Ent),e∈r.1->0<=e.1/\e.1<(↑x.1.length:Int))/\∀(j:Nat),j<x.1.length->D5 r.1 (↑j:Int)=rv (x.1.getD j zr))
theorem B9c (x:A6 M8.args):I2 Tryz.prog tys B0r C8q M8 Tryz.f105 x=A3x x:=by kernel_rfl
def B3e:A6 V8.args->Prop:=fun(x:List EE×Int×Unit)=>(sel (decide (x.2.1<0)) true (decide (16384<x.2.1))=false->okV K1 x.1)/\∀(r:List EE×Unit),(sel (decide (x.2.1<0)) true (decide (16384<x.2.1))=false->(B1h r.1/\True)/\isC (D5 x.1) r.1)->(sel (decide (x.2.1<0)) true (decide (16384<x.2.1))=false->szV K1 r.1)/\∀(a:Bool×Unit),(sel (decide (x.2.1<0)) true (decide (16384<x.2.1))=false->(True/\True)/\a.1=decide (J4 r.1 x.2.1))->((sel (sel (decide (x.2.1<0)) true (decide (16384<x.2.1))) true !a.1)=true->D4n QQ=dl x.2.1 (D5 x.1)/\false=true)/\((sel (sel (decide (x.2.1<0)) true (decide (16384<x.2.1))) true !a.1)=false->(0<=x.2.1/\x.2.1<=x.2.1/\(↑(56:Nat):Int)*x.2.1<=281474976710656/\x.2.1<=9223372036854775807)/\∃(I:Int×List QQ×Unit->Prop),∃(μ:Int×List QQ×Unit->Nat),I ((0:Int),List.replicate (Int.toNat x.2.1) dQ,())/\∀(p:Int×List QQ×Unit),E5 p.1/\WfL p.2.1/\True->I p->(decide (p.1<x.2.1)=true->okV K1 x.1/\∀(r:QQ×Unit),WfQ r.1/\True->r.1=rc (D5 x.1 p.1)->(0<=p.1/\p.1<(p.2.1.length:Int))/\I (IntKind.i64.wrap (p.1+1),List.set p.2.1 (Int.toNat p.1) r.1,())/\μ (IntKind.i64.wrap (p.1+1),List.set p.2.1 (Int.toNat p.1) r.1,())<μ p)/\(decide (p.1<x.2.1)=false->p.2.1=dl x.2.1 (D5 x.1)/\true=true))
theorem D1w (x:A6 V8.args):I2 Tryz.prog tys C7s E3a V8 Tryz.f131 x=B3e x:=by kernel_rfl
def B8i:A6 A0p.args->Prop:=fun(x:List QQ×List QQ×Unit)=>(decide ((x.1.length:Int)≠(x.2.1.length:Int))=true->false=decide (x.1=x.2.1/\∀(e:QQ),e∈x.1->e=rc (rv e)))/\(decide ((x.1.length:Int)≠(x.2.1.length:Int))=false->∃(I:Int×Unit->Prop),∃(μ:Int×Unit->Nat),I ((0:Int),())/\∀(p:Int×Unit),E5 p.1/\True->I p->(decide (p.1<(x.1.length:Int))=true->(0<=p.1/\p.1<(x.1.length:Int))/\sh3 (gx dQ x.1 p.1)/\∀(r:Bool×Unit),True/\True->r.1=decide (gx dQ x.1 p.1=rc (rv (gx dQ x.1 p.1)))->((!r.1)=false->0<=p.1/\p.1<(x.2.1.length:Int))/\((!r.1)=false->sh3 (gx dQ x.2.1 p.1))/\∀(a:Bool×Unit),((!r.1)=false->(True/\True)/\a.1=decide (gx dQ x.2.1 p.1=rc (rv (gx dQ x.2.1 p.1))))->((sel (!r.1) true !a.1)=false->0<=p.1/\p.1<(x.1.length:Int))/\((sel (!r.1) true !a.1)=false->0<=p.1/\p.1<(x.2.1.length:Int))/\((sel (!r.1) true !a.1)=false->True)/\∀(b:Bool×Unit),((sel (!r.1) true !a.1)=false->(True/\True)/\b.1=decide (gx dQ x.1 p.1=gx dQ x.2.1 p.1))->((sel (sel (!r.1) true !a.1) true !b.1)=true->false=decide (x.1=x.2.1/\∀(e:QQ),e∈x.1->e=rc (rv e)))/\((sel (sel (!r.1) true !a.1) true !b.1)=false->I (IntKind.i64.wrap (p.1+1),())/\μ (IntKind.i64.wrap (p.1+1),())<μ p))/\(decide (p.1<(x.1.length:Int))=false->true=decide (x.1=x.2.1/\∀(e:QQ),e∈x.1->e=rc (rv e))))
theorem D6u (x:A6 A0p.args):I2 Tryz.prog tys D1m E7i A0p Tryz.f38 x=B8i x:=by kernel_rfl
theorem E1r {l:List Int} {v:Int} {a:Nat} (hs:l.Pairwise (· < ·)) (h1:∀y∈l.take a,y<v) (h2:∀y,l[a]? =some y->v<y):(l.take a++ [v]++l.drop a).Pairwise (· < ·):=by
 have hd:∀y∈l.drop a,v<y:=fun y hy=>by
  rw[<-List.take_append_drop a l,List.pairwise_append]at hs;cases hc:l.drop a with
  |nil=>rw[hc]at hy;cases hy
  |cons z r=>
   have hz:v<z:=h2 z (by rw[<-List.head?_drop,hc];rfl);rw[hc]at hy;rcases List.mem_cons.1 hy with rfl|hy
   . exact hz
   . have:=hs.2.1;rw[hc,List.pairwise_cons]at this;have:=this.1 y hy;omega
 rw[List.pairwise_append,List.pairwise_append];refine⟨⟨hs.take,List.pairwise_singleton _ _,fun y hy z hz=> ?_⟩,hs.drop,fun y hy z hz=> ?_⟩
 . rw[List.mem_singleton.1 hz];exact h1 y hy
 . rcases List.mem_append.1 hy with hy|hy
   . have:=h1 y hy;have:=hd z hz;omega
   . rw[List.mem_singleton.1 hy];exact hd z hz
theorem C4u (x:A6 Q8.args) (hw:awf Q8.args x) (hp:Q8.pre x):A7l x:=by
 obtain⟨ls,_⟩:=x;change List (List (Int×(Bool×List Int)×List Int))at ls;obtain⟨hl,hv⟩:ls.length<=4/\∀v∈ls,v.length<=100000:=hp;simp only[A7l];refine⟨fun p=>0<=p.2.1/\p.2.1<=(ls.length:Int)/\p.1.length<=100000*p.2.1.toNat/\p.1.Pairwise (· < ·)/\∀i,i∈p.1↔∃v∈ls.take p.2.1.toNat,∃e∈v,e.1=i,fun p=>((ls.length:Int)-p.2.1).toNat,⟨Int.le_refl _,Int.natCast_nonneg _,by simp,List.Pairwise.nil,fun i=>by simp⟩, ?_⟩;rintro⟨out,j,_⟩ _ ⟨h0,h1,h2,h3,h4⟩;change Int at j;change List Int at out;simp only at h0 h1 h2 h3 h4⊢;refine⟨fun h=> ?_,fun h=> ?_⟩
 . have h:=of_decide_eq_true h;have hvl:=hv _ (N0 (d:=([]:List (Int×(Bool×List Int)×List Int))) h0 h);have hts:ls.take (j+1).toNat=ls.take j.toNat++ [gx [] ls j]:=by
    rw[show(j+1).toNat=j.toNat+1 from by omega,List.take_add_one,K9 (d:=([]:List (Int×(Bool×List Int)×List Int))) h0 h];rfl
   generalize gx ([]:List (Int×(Bool×List Int)×List Int)) ls j=v at*;refine⟨⟨h0,h⟩,fun p=>0<=p.2.1/\p.2.1<=(v.length:Int)/\p.1.length<=100000*j.toNat+p.2.1.toNat/\p.1.Pairwise (· < ·)/\∀i,i∈p.1↔(∃v∈ls.take j.toNat,∃e∈v,e.1=i)\/∃e∈v.take p.2.1.toNat,e.1=i,fun p=>((v.length:Int)-p.2.1).toNat,⟨Int.le_refl _,Int.natCast_nonneg _,by simpa using h2,h3,fun i=>by rw[h4];simp⟩, ?_⟩;rintro⟨o,k,_⟩ _ ⟨g0,g1,g2,g3,g4⟩;change Int at k;change List Int at o;simp only at g0 g1 g2 g3 g4⊢;refine⟨fun hk=> ?_,fun hk=> ?_⟩
   . have hk:=of_decide_eq_true hk;have hvs:v.take (k+1).toNat=v.take k.toNat++ [gx dEE v k]:=by
      rw[show(k+1).toNat=k.toNat+1 from by omega,List.take_add_one,K9 (d:=dEE) g0 hk];rfl
     have hmem:∀i,((∃v∈ls.take j.toNat,∃e∈v,e.1=i)\/∃e∈v.take (k+1).toNat,e.1=i)↔(i∈o\/(gx dEE v k).1=i):=fun i=>by
      rw[g4 i,hvs];constructor
      . rintro(h| ⟨e,he,rfl⟩)
        . exact .inl (.inl h)
        . rcases List.mem_append.1 he with he|he
          . exact .inl (.inr ⟨e,he,rfl⟩)
          . rw[List.mem_singleton.1 he];exact .inr rfl
      . rintro((h| ⟨e,he,rfl⟩) |rfl)
        . exact .inl h
        . exact .inr ⟨e,List.mem_append.2 (.inl he),rfl⟩
        . exact .inr ⟨_,List.mem_append.2 (.inr (by simp)),rfl⟩
     generalize gx dEE v k=e at*;refine⟨fun p=>p.1.length<=100000*j.toNat+k.toNat+1/\p.1.Pairwise (· < ·)/\∀i,i∈p.1↔(∃v∈ls.take j.toNat,∃e∈v,e.1=i)\/∃e∈v.take (k+1).toNat,e.1=i, ?_, ?_⟩
     . refine⟨fun p=>0<=p.1/\p.1<=(o.length:Int)/\∀y∈o.take p.1.toNat,y<e.1,fun p=>((o.length:Int)-p.1).toNat,⟨Int.le_refl _,Int.natCast_nonneg _,by simp⟩, ?_⟩;rintro⟨a,_⟩ _ ⟨a0,a1,a2⟩;change Int at a;simp only at a0 a1 a2⊢;refine⟨fun ha=>⟨a0,of_decide_eq_true ha⟩,fun _=>⟨g0,hk⟩,fun ha=> ?_,fun ha=>⟨fun ha=>⟨a0,of_decide_eq_true ha⟩,fun _=>⟨g0,hk⟩,fun hb=> ?_,fun hb=> ?_⟩⟩
       . rw[O1]at ha;simp only[Bool.and_eq_true,decide_eq_true_eq]at ha;rw[wr (by omega) (by omega)];refine⟨⟨by omega,by omega,A0f (d:=(0:Int)) a0 ha.1 a2 ?_⟩,by omega⟩;rw[V5 a0 ha.1];exact ha.2
       . rw[O1]at hb;simp only[Bool.and_eq_true,decide_eq_true_eq]at hb;refine⟨by show o.length<= _;omega,g3,fun i=> ?_⟩;rw[hmem i];constructor
         . exact .inl
         . rintro(hi|rfl)
           . exact hi
           . have:=N0 (d:=(0:Int)) a0 hb.1;rw[V5 a0 hb.1,hb.2]at this;exact this
       . rw[O1]at ha hb;simp only[Bool.and_eq_false_iff,decide_eq_false_iff_not]at ha hb;have e1:(o.take a.toNat).drop (Int.toNat 0)=o.take a.toNat:=rfl;have e2:o.take ((o.length:Int)).toNat=o:=by rw[Int.toNat_natCast,List.take_length]
         rw[e1,e2];have l1:(o.take a.toNat).length<=o.length:=by rw[List.length_take];omega
         have l2:(o.drop a.toNat).length<=o.length:=by rw[List.length_drop];omega
         have l3:(o.take a.toNat++ [e.1]++o.drop a.toNat).length=o.length+1:=by
          simp only[List.length_append,List.length_take,List.length_drop,List.length_singleton];omega
         refine⟨⟨Int.le_refl _,a0,a1⟩,⟨by omega,by omega⟩,⟨g0,hk⟩,⟨by simp only[List.length_singleton];omega,by simp only[List.length_singleton];omega⟩,⟨a0,a1,Int.le_refl _⟩,⟨?_, ?_⟩,⟨by show(o.take a.toNat++ [e.1]++o.drop a.toNat).length<= _;omega, ?_,fun i=> ?_⟩⟩
         . simp only[List.length_append,List.length_singleton];omega
         . simp only[List.length_append,List.length_singleton];omega
         . refine E1r g3 a2 fun y hy=> ?_
           have hlt:a.toNat<o.length:=by
            rcases Nat.lt_or_ge a.toNat o.length with h|h
            . exact h
            . rw[List.getElem?_eq_none h]at hy;cases hy
           have hy2:o.getD a.toNat 0=y:=by rw[List.getD_eq_getElem?_getD,hy];rfl
           rw[hy2]at ha hb;omega
         . rw[hmem i];simp only[List.mem_append,List.mem_singleton];have hsplit:i∈o↔i∈o.take a.toNat\/i∈o.drop a.toNat:=by
            conv=>lhs;rw[<-List.take_append_drop a.toNat o]
            exact List.mem_append
           rw[hsplit];constructor
           . rintro((h|h) |h)
             . exact .inl (.inl h)
             . exact .inr h.symm
             . exact .inl (.inr h)
           . rintro((h|h) |h)
             . exact .inl (.inl h)
             . exact .inr h
             . exact .inl (.inr h.symm)
     . rintro⟨o2,_⟩ _ ⟨k1,k2,k3⟩;simp only at k1 k2 k3⊢;rw[wr (by omega) (by omega)];exact⟨⟨by omega,by omega,by omega,k2,k3⟩,by omega⟩
   . have hk:=of_decide_eq_false hk;rw[wr (by omega) (by omega)];rw[E2 (l:=v) (i:=k) (by omega)]at g4;refine⟨⟨by omega,by omega,by omega,g3,fun i=> ?_⟩,by omega⟩;rw[g4 i,hts];simp only[List.mem_append,List.mem_singleton];constructor
     . rintro(⟨w,h1,h2⟩ |h)
       . exact⟨w, .inl h1,h2⟩
       . exact⟨v, .inr rfl,h⟩
     . rintro⟨w,h1|rfl,h2⟩
       . exact .inl ⟨w,h1,h2⟩
       . exact .inr h2
 . have h:=of_decide_eq_false h;rw[E2 (by omega)]at h4;exact⟨h3,h4⟩
theorem B7p (x:A6 M6.args) (hw:awf M6.args x) (hp:M6.pre x):A3w x:=by
 obtain⟨a,b,_⟩:=x;have hl:a.length<=9223372036854775807:=hw.1.1;change List (Int×(Bool×List Int)×List Int)at a b;have hwh:∀e∈a,sh3 e.2:=fun e he=>A6n ((show szV K1 a from hp) e he) (by decide)
 simp only[A3w];refine⟨fun h=> ?_,fun h=> ?_⟩
 . have h:=of_decide_eq_true h;exact(decide_eq_false fun e=>h (by rw[e.1])).symm
 . have hlen:a.length=b.length:=by have:=of_decide_eq_false h;omega
   refine⟨fun p=>0<=p.1/\p.1<=(a.length:Int)/\a.take p.1.toNat=b.take p.1.toNat/\∀e∈a.take p.1.toNat,e.2=rc (rv e.2),fun p=>((a.length:Int)-p.1).toNat,⟨Int.le_refl _,Int.natCast_nonneg _,by simp,by simp⟩, ?_⟩;rintro⟨i,_⟩ _ ⟨h0,h1,h2,h3⟩;change Int at i;simp only at h0 h1 h2 h3⊢;refine⟨fun h=> ?_,fun h=> ?_⟩
   . have h:=of_decide_eq_true h;have ma:=N0 (d:=dEE) h0 h;have ga:=K9 (d:=dEE) h0 h;have gb:=K9 (d:=dEE) (l:=b) h0 (by omega);have hta:a.take (i+1).toNat=a.take i.toNat++ [gx dEE a i]:=by
      rw[show(i+1).toNat=i.toNat+1 from by omega,List.take_add_one,ga];rfl
     have htb:b.take (i+1).toNat=b.take i.toNat++ [gx dEE b i]:=by
      rw[show(i+1).toNat=i.toNat+1 from by omega,List.take_add_one,gb];rfl
     generalize gx dEE a i=e at*;generalize gx dEE b i=f at*;obtain⟨ei,ev⟩:=e;obtain⟨fi,fv⟩:=f;simp only at ma ga gb hta htb⊢;refine⟨⟨h0,h⟩,⟨h0,by omega⟩,fun _=>⟨h0,h⟩,fun _=>hwh _ ma, ?_⟩;rintro⟨r,_⟩ hr;refine⟨fun _=>⟨h0,h⟩,fun _=>⟨h0,by omega⟩,fun _=>trivial, ?_⟩;rintro⟨s,_⟩ hs;change Bool at r s;simp only at hr hs⊢;rw[N4]at hs;rw[N4,N4];have key:(decide (ei≠fi) || !r|| !s)=false↔ei=fi/\ev=rc (rv ev)/\ev=fv:=by
      by_cases hi:ei=fi
      . have hr:=(hr (by simp[hi])).2;by_cases hc:ev=rc (rv ev)
        . have hr:r=true:=by rw[hr];exact decide_eq_true hc
          have hs:=(hs (by simp[hi,hr])).2;rw[hs,hr];simp[hi, <-hc]
        . have hr:r=false:=by rw[hr];exact decide_eq_false hc
          rw[hr];simp[hc]
      . simp[hi]
     refine⟨fun hb=> ?_,fun hb=> ?_⟩
     . refine(decide_eq_false fun hall=> ?_).symm;obtain⟨hab,hcan⟩:=hall;subst hab;rw[ga]at gb;have gb:=Option.some.inj gb;rw[Prod.mk.injEq]at gb;have:=key.2 ⟨gb.1,hcan _ ma,gb.2⟩;rw[this]at hb;cases hb
     . obtain⟨k1,k2,k3⟩:=key.1 hb;rw[wr (by omega) (by omega)];refine⟨⟨by omega,by omega, ?_, ?_⟩,by omega⟩
       . rw[hta,htb,h2,k1,k3]
       . rw[hta];intro y hy;rcases List.mem_append.1 hy with hy|hy
         . exact h3 y hy
         . rw[List.mem_singleton.1 hy];exact k2
   . have h:=of_decide_eq_false h;rw[E2 (by omega),E2 (by omega)]at h2;rw[E2 (by omega)]at h3;exact(decide_eq_true ⟨h2,h3⟩).symm
theorem B2s {l:List Ent} {e:Ent} :asc (l++ [e])↔asc l/\∀x∈l,x.1<e.1:=by
 unfold asc;rw[List.pairwise_append];simp
theorem D2v (x:A6 U9.args) (hw:awf U9.args x) (hp:U9.pre x):B2p x:=by
 obtain⟨v,n,_⟩:=x;have hl:v.length<=9223372036854775807:=hw.1.1;change List (Int×(Bool×List Int)×List Int)at v;change Int at n;have hwh:∀e∈v,sh3 e.2:=fun e he=>A6n ((show szV K1 v from hp) e he) (by decide)
 simp only[B2p];refine⟨fun p=>0<=p.1/\p.1<=(v.length:Int)/\J4 (v.take p.1.toNat) n,fun p=>((v.length:Int)-p.1).toNat,⟨Int.le_refl _,Int.natCast_nonneg _,List.Pairwise.nil,by simp⟩, ?_⟩;rintro⟨i,_⟩ _ ⟨h0,h1,h2,h3⟩;change Int at i;simp only at h0 h1 h2 h3⊢;refine⟨fun h=> ?_,fun h=> ?_⟩
 . have h:=of_decide_eq_true h;have ma:=N0 (d:=dEE) h0 h;have ga:=K9 (d:=dEE) h0 h;have hta:v.take (i+1).toNat=v.take i.toNat++ [gx dEE v i]:=by
    rw[show(i+1).toNat=i.toNat+1 from by omega,List.take_add_one,ga];rfl
   have hprev:0<i->((∀x∈v.take i.toNat,x.1<(gx dEE v i).1)↔¬(gx dEE v i).1<=(gx dEE v (IntKind.i64.wrap (i-1))).1):=fun hi=>by
    rw[wr (by omega) (by omega)];have gp:=K9 (d:=dEE) (l:=v) (i:=i-1) (by omega) (by omega);have htp:v.take i.toNat=v.take (i-1).toNat++ [gx dEE v (i-1)]:=by
     rw[show i.toNat=(i-1).toNat+1 from by omega,List.take_add_one,gp];rfl
    rw[htp]at h2⊢;constructor
    . intro hh;have:=hh (gx dEE v (i-1)) (by simp);omega
    . intro hh x hx;rcases List.mem_append.1 hx with hx|hx
      . have:=(B2s.1 h2).2 x hx;omega
      . rw[List.mem_singleton.1 hx];omega
   have hwr:0<i->IntKind.i64.wrap (i-1)=i-1:=fun _=>wr (by omega) (by omega)
   generalize gx dEE v (IntKind.i64.wrap (i-1))=f at*;generalize gx dEE v i=e at*;refine⟨⟨h0,h⟩,fun _=>⟨h0,h⟩,fun _=>⟨h0,h⟩,fun hh=> ?_,fun _=>⟨h0,h⟩,fun _=>hwh _ ma, ?_⟩
   . have hi:=of_decide_eq_true hh.1;rw[hwr hi];exact⟨by omega,by omega⟩
   rintro⟨r,_⟩ hr;change Int at r;simp only at hr⊢;rw[N4,O1,N4]at hr;rw[N4,O1,N4,N4];have key:(decide (e.1<0) ||decide (n<=e.1) || (decide (0<i)&&decide (e.1<=f.1)) ||decide (r=0))=false↔0<=e.1/\e.1<n/\(∀x∈v.take i.toNat,x.1<e.1)/\rv e.2≠0:=by
    have hpv:(∀x∈v.take i.toNat,x.1<e.1)↔(decide (0<i)&&decide (e.1<=f.1))=false:=by
     by_cases hi:0<i
     . rw[hprev hi];simp[hi]
     . have:i.toNat=0:=by omega
       rw[this];simp[hi]
    rw[hpv];by_cases hA:(decide (e.1<0) ||decide (n<=e.1) || (decide (0<i)&&decide (e.1<=f.1)))=false
    . have hr:=(hr hA).2;rw[hA,hr];simp only[Bool.or_eq_false_iff,decide_eq_false_iff_not]at hA;obtain⟨⟨q1,q2⟩,q3⟩:=hA;rw[q3];simp only[Bool.or_false,Bool.false_or,decide_eq_false_iff_not];exact⟨fun h=>⟨by omega,by omega,by trivial,fun h0=>h (by rw[h0];rfl)⟩,fun h h0=>h.2.2.2 (D5q h0)⟩
    . rw[Bool.or_eq_false_iff];constructor
      . intro hh;exact absurd hh.1 hA
      . rintro⟨q1,q2,q3,_⟩;refine absurd ?_ hA;simp only[Bool.or_eq_false_iff,decide_eq_false_iff_not];exact⟨⟨by omega,by omega⟩,q3⟩
   refine⟨fun hb=> ?_,fun hb=> ?_⟩
   . refine(decide_eq_false fun hall=> ?_).symm;obtain⟨hby,hmem⟩:=hall;have he:=hmem e ma;have hby2:asc (v.take (i+1).toNat):=List.Pairwise.take hby;rw[hta,B2s]at hby2;have:=key.2 ⟨he.1,he.2.1,hby2.2,he.2.2⟩;rw[this]at hb;cases hb
   . obtain⟨k1,k2,k3,k4⟩:=key.1 hb;rw[wr (by omega) (by omega)];refine⟨⟨by omega,by omega, ?_, ?_⟩,by omega⟩
     . show asc _;rw[hta,B2s];exact⟨h2,k3⟩
     . rw[hta];intro y hy;rcases List.mem_append.1 hy with hy|hy
       . exact h3 y hy
       . rw[List.mem_singleton.1 hy];exact⟨k1,k2,k4⟩
 . have h:=of_decide_eq_false h;rw[E2 (by omega)]at h2 h3;exact(decide_eq_true ⟨h2,h3⟩).symm
theorem E0t (x:A6 Z7.args) (hw:awf Z7.args x) (hp:Z7.pre x):C7c x:=by
 obtain⟨v,k,_⟩:=x;have hlv:F7q v:=C5r hw.1.2;have hll:v.length<=9223372036854775807:=hw.1.1;change List Ent at v;change Int at k;obtain⟨ha,hs,hl⟩:okV K1 v:=hp;simp only[C7c];refine⟨trivial, ?_⟩;rintro⟨z,_⟩ _ hz;simp only at hz⊢;refine⟨fun p=>0<=p.1/\p.1<=(v.length:Int)/\((p.2.1,p.2.2.1),p.2.2.2.1)=rc (D5 (v.take p.1.toNat) k),fun p=>((v.length:Int)-p.1).toNat,⟨Int.le_refl _,Int.natCast_nonneg _,by rw[hz];rfl⟩, ?_⟩;rintro⟨i,b,m,d,_⟩ _ ⟨h0,h1,h2⟩;change Int at i;simp only at h0 h1 h2⊢;refine⟨fun h=> ?_,fun h=> ?_⟩
 . have h:=of_decide_eq_true h;have hme:gx dEE v i∈v:=N0 h0 h;have hts:v.take (i+1).toNat=v.take i.toNat++ [gx dEE v i]:=by
    rw[show(i+1).toNat=i.toNat+1 from by omega,List.take_add_one,K9 (d:=dEE) h0 h];rfl
   have hq:=B4a (v:=v.take i.toNat) (k:=K1) (ha.take) (fun e he=>hlv e (List.mem_of_mem_take he)) (fun e he=>hs e (List.mem_of_mem_take he)) (by decide) k;have hse:=hs _ hme;have hct:D5 (v.take (i+1).toNat) k=D5 (v.take i.toNat) k+if(gx dEE v i).1=k then rv (gx dEE v i).2 else 0:=by
    rw[hts,A5q];simp only[D5,Rat.add_zero]
   generalize gx dEE v i=e at*;refine⟨fun p=>((p.1,p.2.1),p.2.2.1)=rc (D5 (v.take (i+1).toNat) k),⟨⟨h0,h⟩,fun he=>⟨⟨h0,h⟩,⟨?_,A6n (k:=K1) hse (by decide)⟩, ?_⟩,fun he=> ?_⟩, ?_⟩
   . rw[h2];exact A8v hq (by decide)
   . have he:=of_decide_eq_true he;rintro⟨r,_⟩ _ hr;simp only at hr⊢;show r= _;rw[hr,h2,A0t,hct,if_pos he]
   . have he:=of_decide_eq_false he;show((b,m),d)= _;rw[h2,hct,if_neg he,Rat.add_zero]
   . rintro⟨b',m',d',_⟩ _ hr;simp only at hr⊢;rw[wr (by omega) (by omega)];exact⟨⟨by omega,by omega,hr⟩,by omega⟩
 . have h:=of_decide_eq_false h;rw[E2 (by omega)]at h2;exact h2
theorem G6b {r l:List Int} (h:r.Pairwise (· < ·)) (hs:∀i∈r,i∈l):r.length<=l.length:=by
 have hd:r.Nodup:=h.imp fun h e=>by omega
 clear h
 induction r generalizing l with
 |nil=>exact Nat.zero_le _
 |cons a r ih=>
  rw[List.nodup_cons]at hd;have hm:=hs a (List.mem_cons_self ..);have:=ih (l:=l.erase a) (fun i hi=>by
   refine(List.mem_erase_of_ne fun e=>hd.1 (by rw[<-e];exact hi)).2 (hs i (List.mem_cons_of_mem _ hi))) hd.2
  have h2:=List.length_erase_of_mem hm;have h3:=List.length_pos_of_mem hm;rw[List.length_cons];omega
theorem D4u (x:A6 X2.args) (hw:awf X2.args x) (hp:X2.pre x):B9d x:=by
 obtain⟨v,_⟩:=x;have hlv:F7q v:=C5r hw.1.2;change List Ent at v;obtain⟨ha,hs,hl⟩:okV K1 v:=hp;simp only[B9d];refine⟨⟨by simp,fun w hw=>by rw[List.mem_singleton.1 hw];exact hl⟩, ?_⟩;rintro⟨r,_⟩ ⟨⟨hrl,_⟩,_⟩ ⟨r1,r2⟩;change List Int at r;simp only at r1 r2 hrl⊢;have r3:∀i,i∈r↔∃e∈v,e.1=i:=fun i=>by
  rw[r2 i];constructor
  . rintro⟨w,hw,he⟩;rw[List.mem_singleton.1 hw]at he;exact he
  . intro he;exact⟨v,by simp,he⟩
 have hlen:r.length<=v.length:=by
  have:=G6b (l:=v.map fun e:Ent=>e.1) r1 fun i hi=>by
   obtain⟨e,he,rfl⟩:=(r3 i).1 hi;exact List.mem_map_of_mem he
  rwa[List.length_map]at this
 refine⟨fun p=>0<=p.2.1/\p.2.1<=(r.length:Int)/\p.1.length<=p.2.1.toNat/\B5p p.1/\(∀e∈p.1,e.1∈r.take p.2.1.toNat)/\(∀j∈r.take p.2.1.toNat,D5 p.1 j=D5 v j),fun p=>((r.length:Int)-p.2.1).toNat,⟨Int.le_refl _,Int.natCast_nonneg _,Nat.le_refl _,C1a,fun _ h=>(by cases h),by simp⟩, ?_⟩;rintro⟨out,j,_⟩ _ ⟨h0,h1,h2,h3,h4,h5⟩;change Int at j;change List Ent at out;simp only at h0 h1 h2 h3 h4 h5⊢;refine⟨fun h=> ?_,fun h=> ?_⟩
 . have h:=of_decide_eq_true h;have hts:r.take (j+1).toNat=r.take j.toNat++ [gx 0 r j]:=by
    rw[show(j+1).toNat=j.toNat+1 from by omega,List.take_add_one,K9 (d:=(0:Int)) h0 h];rfl
   have hlt:∀y∈r.take j.toNat,y<gx 0 r j:=fun y hy=>by
    have:(r.take (j+1).toNat).Pairwise (· < ·):=r1.take;rw[hts,List.pairwise_append]at this;exact this.2.2 y hy _ (List.mem_singleton.2 rfl)
   have hq:=B4a ha hlv hs (by decide) (gx 0 r j);generalize gx 0 r j=i at*;have hout:∀e∈out,e.1<i:=fun e he=>hlt _ (h4 e he)
   have hnil:D5 out i=0:=H7 fun e he hei=>by have:=hout e he;omega
   refine⟨fun p=>p.1.length<=(j+1).toNat/\B5p p.1/\(∀e∈p.1,e.1∈r.take (j+1).toNat)/\∀k∈r.take (j+1).toNat,D5 p.1 k=D5 v k,⟨⟨h0,h⟩,⟨ha,hs,hl⟩, ?_⟩, ?_⟩
   . rintro⟨q,_⟩ _ hq';simp only at hq'⊢;subst hq';refine⟨A8v hq (by decide), ?_⟩;rintro⟨s,_⟩ _ hsg;simp only at hsg⊢;rw[A0t]at hsg;refine⟨fun hz=>⟨⟨by simp only[List.length_singleton];omega,by simp only[List.length_singleton];omega⟩,by show(out++ [(i,_)]).length<= _;simp;omega, ?_,fun e he=> ?_,fun k hk=> ?_⟩,fun hz=>⟨by show out.length<= _;omega,h3,fun e he=>by rw[hts];exact List.mem_append.2 (.inl (h4 e he)),fun k hk=> ?_⟩⟩
     . have hz:=of_decide_eq_true hz;exact C1p h3 (fun h0=>hz (by rw[hsg,h0];rfl)) hout
     . rw[hts];rcases List.mem_append.1 he with he|he
       . exact List.mem_append.2 (.inl (h4 e he))
       . rw[List.mem_singleton.1 he];exact List.mem_append.2 (.inr (List.mem_singleton.2 rfl))
     . show D5 (out++ [(i,rc (D5 v i))]) k=D5 v k;rw[C3c];rw[hts]at hk;rcases List.mem_append.1 hk with hk|hk
       . have:=hlt k hk;rw[if_neg (by omega),Rat.add_zero,h5 k hk]
       . rw[List.mem_singleton.1 hk,if_pos rfl,hnil,Rat.zero_add]
     . have hz:=of_decide_eq_false hz;have hz0:D5 v i=0:=D5q (by rw[<-hsg];exact Decidable.not_not.1 hz);rw[hts]at hk;show D5 out k=D5 v k;rcases List.mem_append.1 hk with hk|hk
       . exact h5 k hk
       . rw[List.mem_singleton.1 hk,hnil,hz0]
   . rintro⟨o,_⟩ _ ho;simp only at ho⊢;rw[wr (by omega) (by omega)];exact⟨⟨by omega,by omega,ho⟩,by omega⟩
 . have h:=of_decide_eq_false h;rw[E2 (by omega)]at h4 h5;refine⟨h3,fun i=> ?_⟩;by_cases hi:i∈r
   . exact h5 i hi
   . rw[H7 fun e he hei=>hi (by rw[<-hei];exact h4 e he),H7 fun e he hei=>hi ((r3 i).2 ⟨e,he,hei⟩)]
theorem E4d (l:List N8) (j:Int):∀n:Nat,n<=l.length->D5 ((List.range n).map fun i:Nat=>((i:Int),l.getD i zr)) j=if 0<=j/\j<(n:Int)then rv (l.getD j.toNat zr)else 0
 |0,_=>by rw[if_neg (by omega)];rfl
 |n+1,h=>by
  rw[List.range_succ,List.map_append,A5q,E4d l j n (by omega)];simp only[List.map_cons,List.map_nil,D5,Rat.add_zero];by_cases hj:(n:Int)=j
  . subst hj;rw[if_neg (by omega),if_pos rfl,Rat.zero_add,if_pos (by omega),Int.toNat_natCast]
  . rw[if_neg hj,Rat.add_zero];by_cases h2:0<=j/\j<(n:Int)
    . rw[if_pos h2,if_pos (by omega)]
    . rw[if_neg h2,if_neg (by omega)]
theorem B7k (x:A6 M8.args) (hw:awf M8.args x) (hp:M8.pre x):A3x x:=by
 obtain⟨l,_⟩:=x;change List N8 at l;obtain⟨hl,hs⟩:l.length<=100000/\szL K1 l:=hp;simp only[A3x];refine⟨fun p=>0<=p.2.1/\p.2.1<=(l.length:Int)/\p.1=(List.range p.2.1.toNat).map fun i:Nat=>((i:Int),l.getD i zr),fun p=>((l.length:Int)-p.2.1).toNat,⟨Int.le_refl _,Int.natCast_nonneg _,rfl⟩, ?_⟩;rintro⟨v,i,_⟩ _ ⟨h0,h1,h2⟩;change List Ent at v;change Int at i;simp only at h0 h1 h2⊢;have hlen:v.length=i.toNat:=by rw[h2];simp
 refine⟨fun h=> ?_,fun h=> ?_⟩
 . have h:=of_decide_eq_true h;rw[G5m h0 h,wr (by omega) (by omega)];refine⟨⟨h0,h⟩,⟨by simp only[List.length_singleton];omega,by simp only[List.length_singleton];omega⟩,⟨by omega,by omega, ?_⟩,by omega⟩;rw[F0e _ h0,h2,show((i.toNat:Nat):Int)=i from by omega]
 . have h:=of_decide_eq_false h;have hi:i.toNat=l.length:=by omega
   rw[hi]at h2 hlen;have hcm:=fun j=>E4d l j l.length (Nat.le_refl _)
   rw[<-h2]at hcm;refine⟨⟨?_,fun e he=> ?_,by omega⟩, ?_⟩
   . rw[h2];unfold asc;rw[List.pairwise_map];exact List.pairwise_lt_range.imp fun h=>by show((_:Nat):Int)<((_:Nat):Int);omega
   . rw[h2]at he;obtain⟨j,hj,rfl⟩:=List.mem_map.1 he;rw[List.mem_range]at hj;exact hs _ (K6 hj)
   . rintro⟨r,_⟩ _ hr;simp only at hr⊢;exact F5b hr (fun i hi=>by rw[hcm,if_neg hi]) fun j hj=>by rw[hcm,if_pos (by omega),Int.toNat_natCast]
theorem D1p (x:A6 V8.args) (hw:awf V8.args x) (hp:V8.pre x):B3e x:=by
 obtain⟨v,n,_⟩:=x;have hlv:F7q v:=C5r hw.1.2;change List Ent at v;change Int at n;obtain⟨hv,hva,n0,n1⟩:okV K1 v/\J4 v n/\0<=n/\n<=16384:=hp;simp only[B3e];have hc0:sel (decide (n<0)) true (decide (16384<n))=false:=by
  rw[N4];simp only[Bool.or_eq_false_iff,decide_eq_false_iff_not];omega
 refine⟨fun _=>hv, ?_⟩;rintro⟨c,_⟩ hc;change List Ent at c;obtain⟨_,hc1,hc2⟩:=hc hc0;simp only at hc1 hc2⊢;have hq:∀i,qs K1 (D5 c i):=fun i=>by rw[hc2];exact B4a hv.1 hlv hv.2.1 (by decide) i
 refine⟨fun _=>F5w hc1 hq, ?_⟩;rintro⟨b,_⟩ hb;have hb:=(hb hc0).2;simp only at hb⊢;have hcv:J4 c n:=⟨hc1.1,fun e he=>by
  have:D5 v e.1≠0:=by rw[<-hc2,A9i hc1.1 he];exact(hc1.2 e he).1
  have:=D8k hva this;exact⟨this.1,this.2,(hc1.2 e he).1⟩⟩
 have hbt:b=true:=by rw[hb];exact decide_eq_true hcv
 have hall:(sel (sel (decide (n<0)) true (decide (16384<n))) true !b)=false:=by rw[hc0,hbt];rfl
 refine⟨fun h=>(by rw[hall]at h;cases h),fun _=>⟨⟨n0,Int.le_refl _,by omega,by omega⟩, ?_⟩⟩;have hrl:(List.replicate n.toNat dQ).length=n.toNat:=List.length_replicate;refine⟨fun p=>0<=p.1/\p.1<=n/\fill n.toNat p.1.toNat (fun j:Nat=>rc (D5 v (j:Int))) p.2.1,fun p=>(n-p.1).toNat,⟨Int.le_refl _,n0,F8g hrl⟩, ?_⟩;rintro⟨i,out,_⟩ _ ⟨i0,i1,hf⟩;change Int at i;change List N8 at out;simp only at i0 i1 hf⊢;refine⟨fun h=>⟨hv, ?_⟩,fun h=> ?_⟩
 . have h:=of_decide_eq_true h;have:=hf.1;rintro⟨r,_⟩ _ hr;simp only at hr⊢;rw[wr (by omega) (by omega)];exact⟨⟨i0,by omega⟩,⟨by omega,by omega,C1m hf i0 (by omega) (by rw[hr,show((i.toNat:Nat):Int)=i from by omega])⟩,by omega⟩
 . have h:=of_decide_eq_false h;exact⟨C9v hf (by omega),by trivial⟩
theorem D5l (x:A6 A0p.args) (hw:awf A0p.args x) (hp:A0p.pre x):B8i x:=by
 obtain⟨a,b,_⟩:=x;have hl:a.length<=9223372036854775807:=hw.1.1;change List N8 at a b;obtain⟨ha,hb⟩:(∀e∈a,sh3 e)/\∀e∈b,sh3 e:=hp;simp only[B8i];refine⟨fun h=> ?_,fun h=> ?_⟩
 . have h:=of_decide_eq_true h;exact(decide_eq_false fun e=>h (by rw[e.1])).symm
 . have hlen:a.length=b.length:=by have:=of_decide_eq_false h;omega
   refine⟨fun p=>0<=p.1/\p.1<=(a.length:Int)/\a.take p.1.toNat=b.take p.1.toNat/\∀e∈a.take p.1.toNat,e=rc (rv e),fun p=>((a.length:Int)-p.1).toNat,⟨Int.le_refl _,Int.natCast_nonneg _,by simp,by simp⟩, ?_⟩;rintro⟨i,_⟩ _ ⟨h0,h1,h2,h3⟩;change Int at i;simp only at h0 h1 h2 h3⊢;refine⟨fun h=> ?_,fun h=> ?_⟩
   . have h:=of_decide_eq_true h;have ma:=N0 (d:=dQ) h0 h;have mb:=N0 (d:=dQ) (l:=b) h0 (by omega);have ga:=K9 (d:=dQ) h0 h;have gb:=K9 (d:=dQ) (l:=b) h0 (by omega);have hta:a.take (i+1).toNat=a.take i.toNat++ [gx dQ a i]:=by
      rw[show(i+1).toNat=i.toNat+1 from by omega,List.take_add_one,ga];rfl
     have htb:b.take (i+1).toNat=b.take i.toNat++ [gx dQ b i]:=by
      rw[show(i+1).toNat=i.toNat+1 from by omega,List.take_add_one,gb];rfl
     generalize gx dQ a i=e at*;generalize gx dQ b i=f at*;refine⟨⟨h0,h⟩,ha _ ma, ?_⟩;rintro⟨r,_⟩ _ hr;refine⟨fun _=>⟨h0,by omega⟩,fun _=>hb _ mb, ?_⟩;rintro⟨s,_⟩ hs;refine⟨fun _=>⟨h0,h⟩,fun _=>⟨h0,by omega⟩,fun _=>trivial, ?_⟩;rintro⟨t,_⟩ ht;change Bool at r s t;simp only at hr hs ht⊢;rw[N4]at ht;rw[N4,N4];have key:(!r|| !s|| !t)=false↔e=rc (rv e)/\e=f:=by
      by_cases hc:e=rc (rv e)
      . have hr:r=true:=by rw[hr];exact decide_eq_true hc
        have hs:=(hs (by simp[hr])).2;by_cases hd:f=rc (rv f)
        . have hs:s=true:=by rw[hs];exact decide_eq_true hd
          have ht:=(ht (by simp[hr,hs])).2;rw[hr,hs,ht];simp[<-hc]
        . have hs:s=false:=by rw[hs];exact decide_eq_false hd
          rw[hr,hs];simp only[Bool.not_true,Bool.not_false,Bool.or_true,Bool.true_or,Bool.false_or];refine⟨fun h=>(by cases h),fun h=>absurd ?_ hd⟩;rw[<-h.2];exact hc
      . have hr:r=false:=by rw[hr];exact decide_eq_false hc
        rw[hr];simp[hc]
     refine⟨fun hx=> ?_,fun hx=> ?_⟩
     . refine(decide_eq_false fun hall=> ?_).symm;obtain⟨hab,hcan⟩:=hall;subst hab;rw[ga]at gb;have:=key.2 ⟨hcan _ ma,Option.some.inj gb⟩;rw[this]at hx;cases hx
     . obtain⟨k1,k2⟩:=key.1 hx;rw[wr (by omega) (by omega)];refine⟨⟨by omega,by omega, ?_, ?_⟩,by omega⟩
       . rw[hta,htb,h2,k2]
       . rw[hta];intro y hy;rcases List.mem_append.1 hy with hy|hy
         . exact h3 y hy
         . rw[List.mem_singleton.1 hy];exact k1
   . have h:=of_decide_eq_false h;rw[E2 (by omega),E2 (by omega)]at h2;rw[E2 (by omega)]at h3;exact(decide_eq_true ⟨h2,h3⟩).symm
def C7f:An:= {}
def A8g:B4:= []
def D1f:An:= {loop:= [(4,⟨[1,24,25],[0],[(26,false,[.val (.int .i64)])],[],[]⟩)]}
def B4n:B4:= [(109,F0),(151,O8)]
noncomputable def B1j:B4:= []
def B1p:An:= {}
def B8p:An:= {loop:= [(4,⟨[0,1,4,21,22],[0],[(23,false,[.val (.int .i64)])],[],[]⟩),(11,⟨[4,8,37,38],[0,3],[(39,false,[.val (.int .i64)])],[],[(2, .row (.sl tE) 92)]⟩)],plan:= [(13,[1],[6],true,(.p 0 (.q 1 (.p 2 (.p 3 (.e 4 (.p 5 (.e 6 .done))))))))]}
noncomputable def A5v:B4:= [(109,F0),(130,G9),(110,A5r (E6r ⟨Tryz.prog,tys⟩ [(36,B1j,B1p)] Tryz.f110.results.toList (Tryz.f110.body.getD .skip) Tryz.f110.ntmps))]
def D2n:An:= {loop:= [(5,⟨[1,4,14,15],[0],[(16,false,[.val (.int .i64)])],[],[(1, .row (.sl tQ) 56)]⟩)]}
def B1z:B4:= [(85,H5),(103,P0)]
noncomputable def B3h:B4:= []
def B2x:An:= {}
def C2l:An:= {loop:= [(5,⟨[2,4,13],[0,3],[(14,false,[.val (.int .i64)])],[],[(2, .row (.sl tE) 92)]⟩)],plan:= [(7,[1],[8],true,(.p 0 (.q 1 (.p 2 (.p 3 (.e 4 (.p 5 (.e 6 (.p 7 (.e 8 .done))))))))))]}
noncomputable def A6j:B4:= [(70,E6),(109,F0),(110,A5r (E6r ⟨Tryz.prog,tys⟩ [(12,B3h,B2x)] Tryz.f110.results.toList (Tryz.f110.body.getD .skip) Tryz.f110.ntmps))]
def D0q:An:= {join:= [(20,⟨[1,2,3,6,8,10,14,16,62,63,64,85,86,87],[0,1,2,3,4,6],[],[(7,94,[.val (.int .i64), .val .bool, .val (.sl (.int .u32)), .val (.sl (.int .u32))])],[]⟩),(23,⟨[1,2,3,6,8,10,62,63,64],[0,1,2],[],[(3,24,[.val (.int .i64), .val (.int .i64), .own (.sl tE) 92])],[]⟩)],loop:= [(16,⟨[1,2,3,6,8,10,62,63,64,85,86],[0,1,2,3,4],[(14,false,[.own tE 94]),(87,false,[.val (.int .i64)])],[],[]⟩),(10,⟨[1,2,3,6,8,10,62,63],[0,1,2],[(64,false,[.val (.int .i64)])],[(3,24,[.val (.int .i64), .val (.int .i64), .own (.sl tE) 92])],[]⟩)],plan:= [(13,[3],[7],true,(.p 0 (.p 1 (.q 3 (.or 2 (.or 4 (.or 5 (.e 6 (.e 7 .done)) (.e 6 (.e 5 (.e 7 .done)))) (.e 6 (.e 4 (.e 5 (.e 7 .done))))) (.e 6 (.e 2 (.e 4 (.e 5 (.e 7 .done)))))))))),(15,[1,3,6],[],true,(.p 0 (.q 1 (.p 2 (.q 3 (.p 4 (.p 5 (.q 6 (.p 9 (.e 7 (.p 8 .done)))))))))))]}
def B1v:B4:= [(71,J5),(73,P5),(85,H5),(117,P4),(118,T8),(119,H2)]
def A2p:A6 F0.args->Prop:=fun(x:Int×Unit)=>sel (decide (0<=x.1)) (decide (x.1<=16384)) false=decide (0<=x.1/\x.1<=16384)
theorem B6d (x:A6 F0.args):I2 Tryz.prog tys A8g C7f F0 Tryz.f109 x=A2p x:=by kernel_rfl
def A4r:A6 H5.args->Prop:=fun(x:MM×Unit)=>True/\∀(r:Bool×Unit),True/\True->r.1=decide (0<=x.1.1/\x.1.1<=16384)->((!r.1)=false->True)/\∀(a:Bool×Unit),((!r.1)=false->(True/\True)/\a.1=decide (0<=x.1.2.1/\x.1.2.1<=16384))->(sel (sel (!r.1) true !a.1) true (decide ((x.1.2.2.length:Int)≠x.1.1))=true->false=decide (A7 x.1))/\(sel (sel (!r.1) true !a.1) true (decide ((x.1.2.2.length:Int)≠x.1.1))=false->∃(I:Int×Unit->Prop),∃(μ:Int×Unit->Nat),I ((0:Int),())/\∀(p:Int×Unit),E5 p.1/\True->I p->(decide (p.1<(x.1.2.2.length:Int))=true->(0<=p.1/\p.1<(x.1.2.2.length:Int))/\True/\∀(r:Bool×Unit),True/\True->r.1=decide (J4 (gx [] x.1.2.2 p.1) x.1.2.1)->((!r.1)=true->false=decide (A7 x.1))/\((!r.1)=false->I (IntKind.i64.wrap (p.1+1),())/\μ (IntKind.i64.wrap (p.1+1),())<μ p))/\(decide (p.1<(x.1.2.2.length:Int))=false->true=decide (A7 x.1)))
theorem C1r (x:A6 H5.args):I2 Tryz.prog tys B4n D1f H5 Tryz.f85 x=A4r x:=by kernel_rfl
def A0c:A6 H0.args->Prop:=fun(x:List (List QQ)×Int×Unit)=>True/\∀(r:Bool×Unit),True/\True->r.1=decide (0<=x.2.1/\x.2.1<=16384)->((!r.1)=false->True)/\∀(a:Bool×Unit),((!r.1)=false->(True/\True)/\a.1=decide ((0:Int)<=(x.1.length:Int)/\(x.1.length:Int)<=(16384:Int)))->((sel (!r.1) true !a.1)=true->(¬(0<=x.2.1/\x.2.1<=16384)\/16384<x.1.length->((0:Int),(0:Int),[])=zm/\(3:Int)=(3:Int))/\((0<=x.2.1/\x.2.1<=16384)/\x.1.length<=(16384:Nat)->((∃(l:List QQ),l∈x.1/\(↑l.length:Int)≠x.2.1)->((0:Int),(0:Int),[])=zm/\(3:Int)=(4:Int))/\((∀(l:List QQ),l∈x.1->(↑l.length:Int)=x.2.1)->isM x.1.length x.2.1.toNat (fun(i j:Nat)=>rv ((x.1.getD i []).getD j zr)) ((0:Int),(0:Int),[])/\(3:Int)=(0:Int))))/\((sel (!r.1) true !a.1)=false->∃(I:Int×Unit->Prop),∃(μ:Int×Unit->Nat),I ((0:Int),())/\∀(p:Int×Unit),E5 p.1/\True->I p->(decide (p.1<(x.1.length:Int))=true->(0<=p.1/\p.1<(x.1.length:Int))/\(decide ((↑(gx [] x.1 p.1).length:Int)≠x.2.1)=true->(¬(0<=x.2.1/\x.2.1<=16384)\/16384<x.1.length->((0:Int),(0:Int),[])=zm/\(4:Int)=(3:Int))/\((0<=x.2.1/\x.2.1<=16384)/\x.1.length<=(16384:Nat)->((∃(l:List QQ),l∈x.1/\(↑l.length:Int)≠x.2.1)->((0:Int),(0:Int),[])=zm/\(4:Int)=(4:Int))/\((∀(l:List QQ),l∈x.1->(↑l.length:Int)=x.2.1)->isM x.1.length x.2.1.toNat (fun(i j:Nat)=>rv ((x.1.getD i []).getD j zr)) ((0:Int),(0:Int),[])/\(4:Int)=(0:Int))))/\(decide ((↑(gx [] x.1 p.1).length:Int)≠x.2.1)=false->I (IntKind.i64.wrap (p.1+1),())/\μ (IntKind.i64.wrap (p.1+1),())<μ p))/\(decide (p.1<(x.1.length:Int))=false->((0:Int)<=(x.1.length:Int)/\(x.1.length:Int)<=(x.1.length:Int)/\(↑(24:Nat):Int)*(x.1.length:Int)<=(281474976710656:Int)/\(x.1.length:Int)<=(9223372036854775807:Int))/\∃(I:Int×List (List EE)×Unit->Prop),∃(μ:Int×List (List EE)×Unit->Nat),I ((0:Int),List.replicate (x.1.length:Int).toNat [],())/\∀(p:Int×List (List EE)×Unit),E5 p.1/\G2a p.2.1/\True->I p->(decide (p.1<(x.1.length:Int))=true->(0<=p.1/\p.1<(x.1.length:Int))/\((gx [] x.1 p.1).length<=(100000:Nat)/\szL K1 (gx [] x.1 p.1))/\∀(r:List EE×Unit),B1h r.1/\True->isV (gx [] x.1 p.1).length (fun(j:Nat)=>rv ((gx [] x.1 p.1).getD j zr)) r.1->(0<=p.1/\p.1<(p.2.1.length:Int))/\I (IntKind.i64.wrap (p.1+1),List.set p.2.1 (Int.toNat p.1) r.1,())/\μ (IntKind.i64.wrap (p.1+1),List.set p.2.1 (Int.toNat p.1) r.1,())<μ p)/\(decide (p.1<(x.1.length:Int))=false->(¬(0<=x.2.1/\x.2.1<=16384)\/16384<x.1.length->((x.1.length:Int),x.2.1,p.2.1)=zm/\(0:Int)=(3:Int))/\((0<=x.2.1/\x.2.1<=16384)/\x.1.length<=(16384:Nat)->((∃(l:List QQ),l∈x.1/\(↑l.length:Int)≠x.2.1)->((x.1.length:Int),x.2.1,p.2.1)=zm/\(0:Int)=(4:Int))/\((∀(l:List QQ),l∈x.1->(↑l.length:Int)=x.2.1)->isM x.1.length x.2.1.toNat (fun(i j:Nat)=>rv ((x.1.getD i []).getD j zr)) ((x.1.length:Int),x.2.1,p.2.1)/\(0:Int)=(0:Int))))))
theorem B1b (x:A6 H0.args):I2 Tryz.prog tys A5v B8p H0 Tryz.f63 x=A0c x:=by kernel_rfl
def A4v:A6 O9.args->Prop:=fun(x:MM×Unit)=>True/\∀(r:Bool×Unit),True/\True->r.1=decide (A7 x.1)->((!r.1)=true->(¬A7 x.1->(1:Int)=(1:Int))/\(A7 x.1->D4n (List QQ)=els x.1/\(1:Int)=(0:Int)))/\((!r.1)=false->(0<=x.1.1/\x.1.1<=x.1.1/\(↑(24:Nat):Int)*x.1.1<=281474976710656/\x.1.1<=9223372036854775807)/\∃(I:Int×List (List QQ)×Unit->Prop),∃(μ:Int×List (List QQ)×Unit->Nat),I ((0:Int),List.replicate (Int.toNat x.1.1) [],())/\∀(p:Int×List (List QQ)×Unit),E5 p.1/\E4c p.2.1/\True->I p->(decide (p.1<(x.1.2.2.length:Int))=true->(0<=p.1/\p.1<(x.1.2.2.length:Int))/\(okV K1 (gx [] x.1.2.2 p.1)/\J4 (gx [] x.1.2.2 p.1) x.1.2.1/\0<=x.1.2.1/\x.1.2.1<=16384)/\∀(r:List QQ×Bool×Unit),WfL r.1/\True/\True->r.1=dl x.1.2.1 (D5 (gx [] x.1.2.2 p.1))/\r.2.1=true->(0<=p.1/\p.1<(p.2.1.length:Int))/\I (IntKind.i64.wrap (p.1+1),List.set p.2.1 (Int.toNat p.1) r.1,())/\μ (IntKind.i64.wrap (p.1+1),List.set p.2.1 (Int.toNat p.1) r.1,())<μ p)/\(decide (p.1<(x.1.2.2.length:Int))=false->(¬A7 x.1->(0:Int)=(1:Int))/\(A7 x.1->p.2.1=els x.1/\(0:Int)=(0:Int))))
theorem C0n (x:A6 O9.args):I2 Tryz.prog tys B1z D2n O9 Tryz.f66 x=A4v x:=by kernel_rfl
def A0z:A6 I5.args->Prop:=fun(x:Int×Unit)=>True/\∀(r:Bool×Unit),True/\True->r.1=decide (0<=x.1/\x.1<=16384)->((!r.1)=true->(¬(0<=x.1/\x.1<=16384)->((0:Int),(0:Int),[])=zm/\(3:Int)=(3:Int))/\(0<=x.1/\x.1<=16384->isM x.1.toNat x.1.toNat (fun(i j:Nat)=>if i=j then(1:Rat)else(0:Rat)) ((0:Int),(0:Int),[])/\(3:Int)=(0:Int)))/\((!r.1)=false->(0<=x.1/\x.1<=x.1/\(↑(24:Nat):Int)*x.1<=281474976710656/\x.1<=9223372036854775807)/\∃(I:Int×List (List EE)×Unit->Prop),∃(μ:Int×List (List EE)×Unit->Nat),I ((0:Int),List.replicate (Int.toNat x.1) [],())/\∀(p:Int×List (List EE)×Unit),E5 p.1/\G2a p.2.1/\True->I p->(decide (p.1<x.1)=true->True/\∀(r:QQ×Unit),WfQ r.1/\True->r.1=ri (1:Int)->(0<=p.1/\p.1<(p.2.1.length:Int))/\I (IntKind.i64.wrap (p.1+1),List.set p.2.1 (Int.toNat p.1) [(p.1,r.1)],())/\μ (IntKind.i64.wrap (p.1+1),List.set p.2.1 (Int.toNat p.1) [(p.1,r.1)],())<μ p)/\(decide (p.1<x.1)=false->(¬(0<=x.1/\x.1<=16384)->(x.1,x.1,p.2.1)=zm/\(0:Int)=(3:Int))/\(0<=x.1/\x.1<=16384->isM x.1.toNat x.1.toNat (fun(i j:Nat)=>if i=j then(1:Rat)else(0:Rat)) (x.1,x.1,p.2.1)/\(0:Int)=(0:Int))))
theorem B4h (x:A6 I5.args):I2 Tryz.prog tys A6j C2l I5 Tryz.f67 x=A0z x:=by kernel_rfl
def qb (x:MM×Int×Int×Unit) (r:QQ×Unit) (I:Int×Int×Int×List (List EE)×Unit->Prop) (μ:Int×Int×Int×List (List EE)×Unit->Nat) (p:Int×Int×Int×List (List EE)×Unit) (J:Int×Int×List (List EE)×Unit->Prop) (c:QQ×Unit):Prop:=∀(r:QQ×Unit),WfQ r.1/\True->r.1=rc (-rv c.1)->(0<=x.2.1/\x.2.1<(x.1.2.2.length:Int))/\(okV K1 (gx [] x.1.2.2 p.1)/\sz K1 r.1/\okV K1 (gx [] x.1.2.2 x.2.1))/\∀(b:List EE×Unit),B1h b.1/\True->isC (fun(i:Int)=>D5 (gx [] x.1.2.2 p.1) i+rv r.1*D5 (gx [] x.1.2.2 x.2.1) i) b.1->∃(I:List EE×Int×Unit->Prop),∃(μ:List EE×Int×Unit->Nat),I ([],(0:Int),())/\∀(a:List EE×Int×Unit),B1h a.1/\E5 a.2.1/\True->I a->(decide (a.2.1<(b.1.length:Int))=true->(0<=a.2.1/\a.2.1<(b.1.length:Int))/\∃(J:Int×Bool×List Int×List Int×Unit->Prop),((decide (x.2.2.1<(gx dEE b.1 a.2.1).1)=true->J (IntKind.i64.wrap ((gx dEE b.1 a.2.1).1-(1:Int)),(gx dEE b.1 a.2.1).2.1.1,(gx dEE b.1 a.2.1).2.1.2,(gx dEE b.1 a.2.1).2.2,()))/\(decide (x.2.2.1<(gx dEE b.1 a.2.1).1)=false->J ((gx dEE b.1 a.2.1).1,(gx dEE b.1 a.2.1).2.1.1,(gx dEE b.1 a.2.1).2.1.2,(gx dEE b.1 a.2.1).2.2,())))/\∀(p:Int×Bool×List Int×List Int×Unit),E5 p.1/\True/\WfU p.2.2.1/\WfU p.2.2.2.1/\True->J p->((List.length a.1+ [(p.1,(p.2.1,p.2.2.1),p.2.2.2.1)].length)*(64:Nat)<=(140737488355328:Nat)/\List.length a.1+ [(p.1,(p.2.1,p.2.2.1),p.2.2.2.1)].length<=9223372036854775807)/\I (a.1++ [(p.1,(p.2.1,p.2.2.1),p.2.2.2.1)],IntKind.i64.wrap (a.2.1+1),())/\μ (a.1++ [(p.1,(p.2.1,p.2.2.1),p.2.2.2.1)],IntKind.i64.wrap (a.2.1+1),())<μ a)/\(decide (a.2.1<(b.1.length:Int))=false->((List.length p.2.2.2.1+ [a.1].length)*(24:Nat)<=(140737488355328:Nat)/\List.length p.2.2.2.1+ [a.1].length<=9223372036854775807)/\J (p.2.1,p.2.2.1,p.2.2.2.1++ [a.1],()))
def A4p:A6 P3.args->Prop:=fun(x:MM×Int×Int×Unit)=>True/\∀(r:Bool×Unit),True/\True->r.1=decide (A7 x.1)->((!r.1)=true->(¬A7 x.1->((0:Int),(0:Int),[])=zm/\(1:Int)=(1:Int))/\(A7 x.1->(¬(0<=x.2.1/\x.2.1<x.1.1/\0<=x.2.2.1/\x.2.2.1<x.1.2.1)->((0:Int),(0:Int),[])=zm/\(1:Int)=(3:Int))/\(0<=x.2.1/\x.2.1<x.1.1/\0<=x.2.2.1/\x.2.2.1<x.1.2.1->(el x.1 x.2.1.toNat x.2.2.1.toNat=(0:Rat)->((0:Int),(0:Int),[])=zm/\(1:Int)=(5:Int))/\(el x.1 x.2.1.toNat x.2.2.1.toNat≠(0:Rat)->isM (x.1.1-1).toNat (x.1.2.1-1).toNat (F8l x.1 x.2.1.toNat x.2.2.1.toNat) ((0:Int),(0:Int),[])/\(1:Int)=(0:Int)))))/\((!r.1)=false->(sel (sel (sel (decide (x.2.1<0)) true (decide (x.1.1<=x.2.1))) true (decide (x.2.2.1<0))) true (decide (x.1.2.1<=x.2.2.1))=true->(¬A7 x.1->((0:Int),(0:Int),[])=zm/\(3:Int)=(1:Int))/\(A7 x.1->(¬(0<=x.2.1/\x.2.1<x.1.1/\0<=x.2.2.1/\x.2.2.1<x.1.2.1)->((0:Int),(0:Int),[])=zm/\(3:Int)=(3:Int))/\(0<=x.2.1/\x.2.1<x.1.1/\0<=x.2.2.1/\x.2.2.1<x.1.2.1->(el x.1 x.2.1.toNat x.2.2.1.toNat=(0:Rat)->((0:Int),(0:Int),[])=zm/\(3:Int)=(5:Int))/\(el x.1 x.2.1.toNat x.2.2.1.toNat≠(0:Rat)->isM (x.1.1-1).toNat (x.1.2.1-1).toNat (F8l x.1 x.2.1.toNat x.2.2.1.toNat) ((0:Int),(0:Int),[])/\(3:Int)=(0:Int)))))/\(sel (sel (sel (decide (x.2.1<0)) true (decide (x.1.1<=x.2.1))) true (decide (x.2.2.1<0))) true (decide (x.1.2.1<=x.2.2.1))=false->(0<=x.2.1/\x.2.1<(x.1.2.2.length:Int))/\okV K1 (gx [] x.1.2.2 x.2.1)/\∀(r:QQ×Unit),WfQ r.1/\True->r.1=rc (D5 (gx [] x.1.2.2 x.2.1) x.2.2.1)->sh3 r.1/\∀(d:QQ×Bool×Unit),WfQ d.1/\True/\True->(rv r.1=(0:Rat)->d.2.1=false)/\(rv r.1≠(0:Rat)->d.1=rc (rv r.1)⁻¹/\d.2.1=true)->((!d.2.1)=true->(¬A7 x.1->((0:Int),(0:Int),[])=zm/\(5:Int)=(1:Int))/\(A7 x.1->(¬(0<=x.2.1/\x.2.1<x.1.1/\0<=x.2.2.1/\x.2.2.1<x.1.2.1)->((0:Int),(0:Int),[])=zm/\(5:Int)=(3:Int))/\(0<=x.2.1/\x.2.1<x.1.1/\0<=x.2.2.1/\x.2.2.1<x.1.2.1->(el x.1 x.2.1.toNat x.2.2.1.toNat=(0:Rat)->((0:Int),(0:Int),[])=zm/\(5:Int)=(5:Int))/\(el x.1 x.2.1.toNat x.2.2.1.toNat≠(0:Rat)->isM (x.1.1-1).toNat (x.1.2.1-1).toNat (F8l x.1 x.2.1.toNat x.2.2.1.toNat) ((0:Int),(0:Int),[])/\(5:Int)=(0:Int)))))/\((!d.2.1)=false->∃(I:Int×Int×Int×List (List EE)×Unit->Prop),∃(μ:Int×Int×Int×List (List EE)×Unit->Nat),I ((0:Int),IntKind.i64.wrap (x.1.1-1),IntKind.i64.wrap (x.1.2.1-1),[],())/\∀(p:Int×Int×Int×List (List EE)×Unit),E5 p.1/\E5 p.2.1/\E5 p.2.2.1/\G2a p.2.2.2.1/\True->I p->(decide (p.1<(x.1.2.2.length:Int))=true->∃(J:Int×Int×List (List EE)×Unit->Prop),((0<=p.1/\p.1<(x.1.2.2.length:Int))/\(decide (p.1=x.2.1)=true->J (p.2.1,p.2.2.1,p.2.2.2.1,()))/\(decide (p.1=x.2.1)=false->(okV K1 (gx [] x.1.2.2 p.1)/\∀(r:QQ×Unit),WfQ r.1/\True->r.1=rc (D5 (gx [] x.1.2.2 p.1) x.2.2.1)->((sh3 r.1/\sh3 d.1)/\∀(c:QQ×Unit),WfQ c.1/\True->c.1=rc (rv r.1*rv d.1)->(sh3 c.1/\qb x r I μ p J c)/\sh3 c.1/\qb x r I μ p J c)/\(sh3 r.1/\sh3 d.1)/\∀(c:QQ×Unit),WfQ c.1/\True->c.1=rc (rv r.1*rv d.1)->sh3 c.1/\qb x r I μ p J c)/\okV K1 (gx [] x.1.2.2 p.1)/\∀(r:QQ×Unit),WfQ r.1/\True->r.1=rc (D5 (gx [] x.1.2.2 p.1) x.2.2.1)->(sh3 r.1/\sh3 d.1)/\∀(c:QQ×Unit),WfQ c.1/\True->c.1=rc (rv r.1*rv d.1)->sh3 c.1/\qb x r I μ p J c))/\∀(a:Int×Int×List (List EE)×Unit),E5 a.1/\E5 a.2.1/\G2a a.2.2.1/\True->J a->I (IntKind.i64.wrap (p.1+1),a.1,a.2.1,a.2.2.1,())/\μ (IntKind.i64.wrap (p.1+1),a.1,a.2.1,a.2.2.1,())<μ p)/\(decide (p.1<(x.1.2.2.length:Int))=false->(¬A7 x.1->(p.2.1,p.2.2.1,p.2.2.2.1)=zm/\(0:Int)=(1:Int))/\(A7 x.1->(¬(0<=x.2.1/\x.2.1<x.1.1/\0<=x.2.2.1/\x.2.2.1<x.1.2.1)->(p.2.1,p.2.2.1,p.2.2.2.1)=zm/\(0:Int)=(3:Int))/\(0<=x.2.1/\x.2.1<x.1.1/\0<=x.2.2.1/\x.2.2.1<x.1.2.1->(el x.1 x.2.1.toNat x.2.2.1.toNat=(0:Rat)->(p.2.1,p.2.2.1,p.2.2.2.1)=zm/\(0:Int)=(5:Int))/\(el x.1 x.2.1.toNat x.2.2.1.toNat≠(0:Rat)->isM (x.1.1-1).toNat (x.1.2.1-1).toNat (F8l x.1 x.2.1.toNat x.2.2.1.toNat) (p.2.1,p.2.2.1,p.2.2.2.1)/\(0:Int)=(0:Int))))))))
theorem C1o (x:A6 P3.args):I2 Tryz.prog tys B1v D0q P3 Tryz.f50 x=A4p x:=by kernel_rfl
theorem D1n {D:List (List Ent)} {R C:Int} (h:∀x∈D,List.length x<=9223372036854775807/\∀y∈x,WfE y):F7r (R,C,D):=fun v hv=>C5r (h v hv).2
theorem C7m {D:List (List Ent)} {i:Int} (h0:0<=i) (h1:i<(D.length:Int)):gx [] D i=D.getD i.toNat []:=V5 h0 h1
theorem B5z (x:A6 F0.args) (hw:awf F0.args x) (_:F0.pre x):A2p x:=by
 simp only[A2p];rw[O1,Bool.decide_and]
theorem C2g (x:A6 H5.args) (hw:awf H5.args x) (_:H5.pre x):A4r x:=by
 obtain⟨⟨R,C,D⟩,_⟩:=x;have hD:D.length<=9223372036854775807:=hw.1.2.2.1;change Int at R C;change List (List Ent)at D;simp only[A4r];refine⟨trivial, ?_⟩;rintro⟨r,_⟩ _ hr;simp only at hr⊢;refine⟨fun _=>trivial, ?_⟩;rintro⟨s,_⟩ hs;simp only at hs⊢;rw[N4,N4];by_cases hR:0<=R/\R<=16384
 . have hr:r=true:=by rw[hr];exact decide_eq_true hR
   have hs:=(hs (by rw[hr];rfl)).2;rw[hr,hs];refine⟨fun h=> ?_,fun h=> ?_⟩
   . refine(decide_eq_false fun hv=> ?_).symm;obtain⟨_,_,v3,v4,v5,_⟩:=hv;simp only at v3 v4 v5;rw[decide_eq_true (show 0<=C/\C<=16384 from⟨v3,v4⟩)]at h;simp at h;exact h v5
   . simp only[Bool.not_true,Bool.false_or,Bool.or_eq_false_iff,Bool.not_eq_false',decide_eq_true_eq,decide_eq_false_iff_not,Decidable.not_not]at h;refine⟨fun p=>0<=p.1/\∀v∈D.take p.1.toNat,J4 v C,fun p=>((D.length:Int)-p.1).toNat,⟨Int.le_refl _,by simp⟩, ?_⟩;rintro⟨i,_⟩ _ ⟨h0,h1⟩;change Int at i;simp only at h0 h1⊢;refine⟨fun hi=> ?_,fun hi=> ?_⟩
     . have hi:=of_decide_eq_true hi;refine⟨⟨h0,hi⟩,trivial, ?_⟩;rintro⟨b,_⟩ _ hb;simp only at hb⊢;refine⟨fun h2=> ?_,fun h2=> ?_⟩
       . refine(decide_eq_false fun hv=> ?_).symm;rw[hb]at h2;have:=hv.2.2.2.2.2 _ (N0 (d:=([]:List Ent)) h0 hi);rw[decide_eq_true this]at h2;cases h2
       . rw[hb]at h2;have h2:decide (J4 (gx [] D i) C)=true:=by simpa using h2
         rw[wr (by omega) (by omega)];exact⟨⟨by omega,A0f (d:=([]:List Ent)) (q:=fun v=>J4 v C) h0 hi h1 (of_decide_eq_true h2)⟩,by omega⟩
     . have hi:=of_decide_eq_false hi;rw[E2 (by omega)]at h1;exact(decide_eq_true ⟨hR.1,hR.2,h.1.1,h.1.2,h.2,h1⟩).symm
 . have hr:r=false:=by rw[hr];exact decide_eq_false hR
   rw[hr];refine⟨fun _=>(decide_eq_false fun hv=>hR ⟨hv.1,hv.2.1⟩).symm,fun h=>(by simp at h)⟩
theorem B1i (x:A6 H0.args) (hw:awf H0.args x) (hp:H0.pre x):A0c x:=by
 obtain⟨D,C,_⟩:=x;change List (List N8)at D;change Int at C;have hs:∀l∈D,szL K1 l:=hp;have hDl:D.length<=9223372036854775807:=hw.1.1;simp only[A0c];refine⟨trivial, ?_⟩;rintro⟨r,_⟩ _ hr;simp only at hr⊢;refine⟨fun _=>trivial, ?_⟩;rintro⟨s,_⟩ hs2;simp only at hs2⊢;rw[N4];by_cases hC:0<=C/\C<=16384
 . have hr:r=true:=by rw[hr];exact decide_eq_true hC
   have hs2:=(hs2 (by rw[hr];rfl)).2;rw[hr,hs2];refine⟨fun h=> ?_,fun h=> ?_⟩
   . have hD:16384<D.length:=by
      simp at h;omega
     exact⟨fun _=>⟨rfl,by trivial⟩,fun h=>absurd h.2 (by omega)⟩
   . have hD:D.length<=16384:=by
      simp at h;omega
     refine⟨fun p=>0<=p.1/\∀l∈D.take p.1.toNat,(l.length:Int)=C,fun p=>((D.length:Int)-p.1).toNat,⟨Int.le_refl _,by simp⟩, ?_⟩;rintro⟨i,_⟩ _ ⟨h0,h1⟩;change Int at i;simp only at h0 h1⊢;refine⟨fun hi=> ?_,fun hi=> ?_⟩
     . have hi:=of_decide_eq_true hi;have hme:=N0 (d:=([]:List N8)) h0 hi;refine⟨⟨h0,hi⟩,fun hb=> ?_,fun hb=> ?_⟩
       . have hb:=of_decide_eq_true hb;exact⟨fun h=>absurd h (by rintro(h|h);exact h hC;omega),fun _=>⟨fun _=>⟨rfl,by trivial⟩,fun h=>absurd (h _ hme) hb⟩⟩
       . have hb:=of_decide_eq_false hb;rw[wr (by omega) (by omega)];exact⟨⟨by omega,A0f (d:=([]:List N8)) (q:=fun l=>(l.length:Int)=C) h0 hi h1 (Decidable.not_not.1 hb)⟩,by omega⟩
     . have hi:=of_decide_eq_false hi;rw[E2 (by omega)]at h1;rw[Int.toNat_natCast];refine⟨⟨by omega,Int.le_refl _,by omega,by omega⟩,fun p=>0<=p.1/\p.1<=(D.length:Int)/\E3e D.length p.1.toNat (fun i=>isV C.toNat fun j=>rv ((D.getD i []).getD j zr)) p.2.1,fun p=>((D.length:Int)-p.1).toNat,⟨Int.le_refl _,Int.natCast_nonneg _,F0a List.length_replicate⟩, ?_⟩;rintro⟨k,rows,_⟩ _ ⟨k0,k1,hf⟩;change Int at k;change List (List Ent)at rows;simp only at k0 k1 hf⊢;have:=hf.1;refine⟨fun h=> ?_,fun h=> ?_⟩
       . have h:=of_decide_eq_true h;have hme:=N0 (d:=([]:List N8)) k0 h;have hl:=h1 _ hme;refine⟨⟨k0,h⟩,⟨by omega,hs _ hme⟩, ?_⟩;rintro⟨v,_⟩ _ hv;simp only at hv⊢;rw[wr (by omega) (by omega)];refine⟨⟨k0,by omega⟩,⟨by omega,by omega,C3g hf k0 (by omega) ?_⟩,by omega⟩;rw[show(gx [] D k).length=C.toNat from by omega]at hv;rw[V5 k0 h]at hv;exact hv
       . have h:=of_decide_eq_false h;refine⟨fun h=>absurd h (by rintro(h|h);exact h hC;omega),fun _=>⟨fun⟨l,hl,hne⟩=>absurd (h1 l hl) hne,fun _=>⟨⟨rfl,by show C= _;omega,hf.1,fun i hi=>hf.2 i (by omega)⟩,by trivial⟩⟩⟩
 . have hr:r=false:=by rw[hr];exact decide_eq_false hC
   rw[hr];exact⟨fun _=>⟨fun _=>⟨rfl,by trivial⟩,fun h=>absurd h.1 hC⟩,fun h=>(by simp at h)⟩
theorem C0v (x:A6 O9.args) (hw:awf O9.args x) (hp:O9.pre x):A4v x:=by
 obtain⟨⟨R,C,D⟩,_⟩:=x;change Int at R C;change List (List Ent)at D;have hs:okM K1 (R,C,D):=hp;simp only[A4v];refine⟨trivial, ?_⟩;rintro⟨r,_⟩ _ hr;simp only at hr⊢;by_cases hv:A7 (R,C,D)
 . have hr:r=true:=by rw[hr];exact decide_eq_true hv
   rw[hr];obtain⟨v1,v2,v3,v4,v5,v6⟩:=id hv;simp only at v1 v2 v3 v4 v5;refine⟨fun h=>(by cases h),fun _=>⟨⟨v1,Int.le_refl _,by omega,by omega⟩, ?_⟩⟩;refine⟨fun p=>0<=p.1/\p.1<=R/\fill R.toNat p.1.toNat (fun i=>dl C (D5 (D.getD i []))) p.2.1,fun p=>(R-p.1).toNat,⟨Int.le_refl _,v1,F8g List.length_replicate⟩, ?_⟩;rintro⟨k,rows,_⟩ _ ⟨k0,k1,hf⟩;change Int at k;change List (List N8)at rows;simp only at k0 k1 hf⊢;have:=hf.1;refine⟨fun h=> ?_,fun h=> ?_⟩
   . have h:=of_decide_eq_true h;have hme:=N0 (d:=([]:List Ent)) k0 h;refine⟨⟨k0,h⟩,⟨C1b hv hs hme,v6 _ hme,v3,v4⟩, ?_⟩;rintro⟨l,b,_⟩ _ ⟨hl,_⟩;simp only at hl⊢;rw[wr (by omega) (by omega)];refine⟨⟨k0,by omega⟩,⟨by omega,by omega,C1m hf k0 (by omega) ?_⟩,by omega⟩;rw[hl,C7m k0 h]
   . have h:=of_decide_eq_false h;exact⟨fun h=>absurd hv h,fun _=>⟨C9v hf (by omega),by trivial⟩⟩
 . have hr:r=false:=by rw[hr];exact decide_eq_false hv
   rw[hr];exact⟨fun _=>⟨fun _=>by trivial,fun h=>absurd h hv⟩,fun h=>(by cases h)⟩
theorem B3p (x:A6 I5.args) (hw:awf I5.args x) (_:I5.pre x):A0z x:=by
 obtain⟨n,_⟩:=x;change Int at n;simp only[A0z];refine⟨trivial, ?_⟩;rintro⟨r,_⟩ _ hr;simp only at hr⊢;by_cases hn:0<=n/\n<=16384
 . have hr:r=true:=by rw[hr];exact decide_eq_true hn
   rw[hr];refine⟨fun h=>(by cases h),fun _=>⟨⟨hn.1,Int.le_refl _,by omega,by omega⟩, ?_⟩⟩;refine⟨fun p=>0<=p.1/\p.1<=n/\E3e n.toNat p.1.toNat (fun i=>isV n.toNat fun j=>if i=j then 1 else 0) p.2.1,fun p=>(n-p.1).toNat,⟨Int.le_refl _,hn.1,F0a List.length_replicate⟩, ?_⟩;rintro⟨k,rows,_⟩ _ ⟨k0,k1,hf⟩;change Int at k;change List (List Ent)at rows;simp only at k0 k1 hf⊢;have:=hf.1;refine⟨fun h=>⟨trivial, ?_⟩,fun h=> ?_⟩
   . have h:=of_decide_eq_true h;rintro⟨q,_⟩ _ hq;simp only at hq⊢;rw[wr (by omega) (by omega)];refine⟨⟨k0,by omega⟩,⟨by omega,by omega,C3g hf k0 (by omega) ?_⟩,by omega⟩;have hq:q=rc 1:=by rw[hq, <-D7v];rfl
     rw[hq];refine⟨C1p (v:= []) C1a (by decide) fun _ h=>(by cases h),fun e he=> ?_,fun j hj=> ?_⟩
     . rw[List.mem_singleton.1 he];omega
     . rw[D5,C9x,A0t,Rat.add_zero];show(if k=(j:Int)then(1:Rat)else 0)=if k.toNat=j then 1 else 0
       by_cases hj2:k.toNat=j
       . rw[if_pos hj2,if_pos (by omega)]
       . rw[if_neg hj2,if_neg (by omega)]
   . have h:=of_decide_eq_false h;exact⟨fun h=>absurd hn h,fun _=>⟨⟨by show n= _;omega,by show n= _;omega,hf.1,fun i hi=>hf.2 i (by omega)⟩,by trivial⟩⟩
 . have hr:r=false:=by rw[hr];exact decide_eq_false hn
   rw[hr];exact⟨fun _=>⟨fun _=>⟨rfl,by trivial⟩,fun h=>absurd h hn⟩,fun h=>(by cases h)⟩
theorem E1p {R C:Int} {D:List (List Ent)} (i:Nat) (j:Int) (h:0<=j):D5 (D.getD i []) j=el (R,C,D) i j.toNat:=by
 unfold el;rw[show((j.toNat:Nat):Int)=j from by omega]
theorem E3b {d:Ent} {v:List Ent} {i:Int} (h0:0<=i) (h1:i<(v.length:Int)) (j:Int):D5 (v.take (i+1).toNat) j=D5 (v.take i.toNat) j+if(gx d v i).1=j then rv (gx d v i).2 else 0:=by
 rw[show(i+1).toNat=i.toNat+1 from by omega,List.take_add_one,K9 (d:=d) h0 h1,A5q];simp only[Option.toList_some,D5,Rat.add_zero]
theorem F8i {j k:Nat} {v:List Ent} (h:szV j v) (hk:j<=k):szV k v:=fun e he=>F7f (h e he) hk
theorem A9e {j k:Nat} {m:B1t} (h:okM j m) (hk:j<=k):okM k m:=fun v hv=>F8i (h v hv) hk
def shL (j:Int) (e:Ent):Ent:=if j<e.1 then(e.1-1,e.2)else e
theorem G0m (j:Int) (e:Ent):(shL j e).1=if j<e.1 then e.1-1 else e.1:=by unfold shL;split<;>rfl
theorem G5l (j:Int) (e:Ent):(shL j e).2=e.2:=by unfold shL;split<;>rfl
theorem G0k {j:Int} {w:List Ent} (hj:∀e∈w,e.1≠j) (c:Int):D5 (w.map (shL j)) c=D5 w (if c<j then c else c+1):=by
 induction w with
 |nil=>rfl
 |cons e w ih=>
  have h1:=hj e (List.mem_cons_self ..);rw[List.map_cons,D5,D5,ih fun x hx=>hj x (List.mem_cons_of_mem _ hx),G0m,G5l];congr 1;by_cases h2:j<e.1
  . rw[if_pos h2];by_cases h3:c<j
    . rw[if_pos h3,if_neg (by omega),if_neg (by omega)]
    . rw[if_neg h3];by_cases h4:e.1-1=c
      . rw[if_pos h4,if_pos (by omega)]
      . rw[if_neg h4,if_neg (by omega)]
  . rw[if_neg h2];by_cases h3:c<j
    . rw[if_pos h3]
    . rw[if_neg h3,if_neg (by omega),if_neg (by omega)]
theorem F8a {j:Int} {w:List Ent} (h:B5p w) (hj:∀e∈w,e.1≠j):B5p (w.map (shL j)):=by
 refine⟨?_,fun e he=> ?_⟩
 . unfold asc;rw[List.pairwise_map];refine List.Pairwise.imp_of_mem ?_ h.1;intro a b ha hb hab;rw[G0m,G0m];have:=hj a ha;have:=hj b hb;split<;>split<;>omega
 . obtain⟨x,hx,rfl⟩:=List.mem_map.1 he;rw[G5l];exact h.2 x hx
theorem E7e {R C:Int} {D:List (List Ent)} {k:Nat} (hv:A7 (R,C,D)) (hl:F7r (R,C,D)) (hs:okM k (R,C,D)) (hk:1<=k) {v:List Ent} (hm:v∈D) (j:Int):qs k (D5 v j):=B4a (hv.2.2.2.2.2 v hm).1 (hl v hm) (hs v hm) hk j
theorem G3w (a b c d:Rat):a+ -(b*d⁻¹)*c=a-b*c/d:=by
 rw[Rat.div_def];grind
theorem C1c (x:A6 P3.args) (hw:awf P3.args x) (hp:P3.pre x):A4p x:=by
 obtain⟨⟨R,C,D⟩,I,J,_⟩:=x;have hlm:F7r (R,C,D):=D1n hw.1.2.2.2;change Int at R C I J;change List (List Ent)at D;have hs:okM K0 (R,C,D):=hp;have hs1:okM K1 (R,C,D):=A9e hs (by decide);simp only[A4p,qb];refine⟨trivial, ?_⟩;rintro⟨r,_⟩ _ hr;simp only at hr⊢;simp only[N4];by_cases hv:A7 (R,C,D)
 . have hr:r=true:=by rw[hr];exact decide_eq_true hv
   rw[hr];obtain⟨v1,v2,v3,v4,_,_⟩:=id hv;have v5:(D.length:Int)=R:=hv.2.2.2.2.1;have v6:∀v∈D,J4 v C:=hv.2.2.2.2.2;simp only at v1 v2 v3 v4;refine⟨fun h=>(by cases h),fun _=>⟨fun h=> ?_,fun h=> ?_⟩⟩
   . simp only[Bool.or_eq_true,decide_eq_true_eq]at h;exact⟨fun h2=>absurd hv h2,fun _=>⟨fun _=>⟨rfl,by trivial⟩,fun h2=>absurd h2 (by omega)⟩⟩
   . simp only[Bool.or_eq_false_iff,decide_eq_false_iff_not]at h;have hin:0<=I/\I<R/\0<=J/\J<C:=by omega
     obtain⟨i0,i1,j0,j1⟩:=hin;have hmi:=N0 (d:=([]:List Ent)) (l:=D) i0 (by omega);rw[C7m (D:=D) i0 (by omega)]at hmi⊢;have hpq:=E7e hv hlm hs (by decide) hmi J;have hpe:D5 (D.getD I.toNat []) J=el (R,C,D) I.toNat J.toNat:=E1p _ _ j0;refine⟨⟨i0,by omega⟩,C1b hv hs1 hmi, ?_⟩;rintro⟨pq,_⟩ _ hpv;simp only at hpv⊢;subst hpv;refine⟨A8v hpq (by decide), ?_⟩;rintro⟨inv,ok,_⟩ _ ⟨hi1,hi2⟩;simp only[A0t]at hi1 hi2⊢;rw[hpe]at hi1 hi2 hpq;by_cases hz:el (R,C,D) I.toNat J.toNat=0
     . rw[hi1 hz];exact⟨fun _=>⟨fun h2=>absurd hv h2,fun _=>⟨fun h2=>absurd ⟨i0,i1,j0,j1⟩ h2,fun _=>⟨fun _=>⟨rfl,by trivial⟩,fun h2=>absurd hz h2⟩⟩⟩,fun h2=>(by cases h2)⟩
     . obtain⟨hi3,hi4⟩:=hi2 hz;rw[hi4];refine⟨fun h2=>(by cases h2),fun _=> ?_⟩;subst hi3;rw[wr (a:=R-1) (by omega) (by omega),wr (a:=C-1) (by omega) (by omega)]
       let rowIx:Int->Nat:=fun k=>if k<=I then k.toNat else(k-1).toNat
       refine⟨fun p=>0<=p.1/\p.1<=R/\p.2.1=R-1/\p.2.2.1=C-1/\p.2.2.2.1.length=rowIx p.1/\∀t,t<p.2.2.2.1.length->isV (C-1).toNat (F8l (R,C,D) I.toNat J.toNat t) (p.2.2.2.1.getD t []),fun p=>(R-p.1).toNat,⟨Int.le_refl _,v1,rfl,rfl,by show 0=rowIx 0;simp[rowIx],fun t ht=>by simp at ht⟩, ?_⟩;rintro⟨k,a,b,rows,_⟩ _ ⟨k0,k1,ka,kb,kl,kf⟩;change Int at k a b;change List (List Ent)at rows;simp only at k0 k1 ka kb kl kf⊢;subst ka kb;have hrl:rows.length<=16384:=by
        rw[kl];simp only[rowIx];split<;>omega
       refine⟨fun h=> ?_,fun h=> ?_⟩
       . have h:=of_decide_eq_true h;have hmk:=N0 (d:=([]:List Ent)) k0 h;rw[C7m k0 h]at hmk⊢;have hkq:=E7e hv hlm hs (by decide) hmk;have hke:∀c:Nat,D5 (D.getD k.toNat []) (c:Int)=el (R,C,D) k.toNat c:=fun _=>rfl
         have hkJ:D5 (D.getD k.toNat []) J=el (R,C,D) k.toNat J.toNat:=E1p _ _ j0;have hie:∀c:Nat,D5 (D.getD I.toNat []) (c:Int)=el (R,C,D) I.toNat c:=fun _=>rfl
         have hok1:=C1b hv hs1 hmk;have hok2:=C1b hv hs1 hmi;have hvk:=v6 _ hmk;have hvi:=v6 _ hmi;refine⟨fun p=>p.1=R-1/\p.2.1=C-1/\p.2.2.1.length=rowIx (k+1)/\∀t,t<p.2.2.1.length->isV (C-1).toNat (F8l (R,C,D) I.toNat J.toNat t) (p.2.2.1.getD t []),⟨⟨k0,h⟩,fun hk=> ?_,fun hk=> ?_⟩, ?_⟩
         . have hk:=of_decide_eq_true hk;refine⟨rfl,rfl, ?_,kf⟩;show rows.length= _;rw[kl];simp only[rowIx];rw[if_pos (by omega),if_neg (by omega)];omega
         . have hk:=of_decide_eq_false hk;have hq3:=G4y (D3e (hkq J) (F6l hpq));generalize hrk:D.getD k.toNat []=rk at*;generalize hri:D.getD I.toNat []=ri' at*;have S1:sh3 (rc (D5 rk J)):=A8v (hkq J) (by decide);have S2:sh3 (rc (el (R,C,D) I.toNat J.toNat)⁻¹):=A8v (F6l hpq) (by decide);have S3:sh3 (rc (D5 rk J*(el (R,C,D) I.toNat J.toNat)⁻¹)):=A8v (D3e (hkq J) (F6l hpq)) (by decide);have S4:0<=I/\I<(D.length:Int):=⟨i0,by omega⟩;have S5:okV K1 rk/\sz K1 (rc (-(D5 rk J*(el (R,C,D) I.toNat J.toNat)⁻¹)))/\okV K1 ri':=⟨hok1,C6y hq3 (by decide),hok2⟩
           repeat' first
            |assumption
            |apply And.intro
            | (rintro⟨q,_⟩ _ hq;simp only[A0t]at hq⊢;subst hq;try simp only[A0t])
           all_goals
            rintro⟨w,_⟩ ⟨⟨hwl,_⟩,_⟩ ⟨hw1,hw2⟩;change List Ent at w;simp only[A0t]at hw1 hw2 hwl⊢;have hwc:∀c:Int,D5 w c=D5 rk c-D5 rk J*D5 ri' c/el (R,C,D) I.toNat J.toNat:=fun c=>by rw[hw2,G3w]
            have hwj:∀e∈w,e.1≠J:=fun e he hej=>by
             have h3:=A9i hw1.1 he;rw[hej,hwc,hpe,Rat.mul_div_cancel hz,Rat.sub_self]at h3;exact(hw1.2 e he).1 h3.symm
            have hwr:∀e∈w,0<=e.1/\e.1<C:=fun e he=>Decidable.byContradiction fun hn=>by
             have h3:=A9i hw1.1 he;rw[hwc,D1l hvk hn,D1l hvi hn,Rat.mul_zero,Rat.div_def,Rat.zero_mul,Rat.sub_self]at h3;exact(hw1.2 e he).1 h3.symm
            have hwlen:(w.length:Int)<=C:=by
             have:=E6d (v:=w) (n:=C) ⟨hw1.1,fun e he=>⟨(hwr e he).1,(hwr e he).2,(hw1.2 e he).1⟩⟩;omega
            refine⟨fun p=>0<=p.2.1/\p.2.1<=(w.length:Int)/\p.1=(w.take p.2.1.toNat).map (shL J),fun p=>((w.length:Int)-p.2.1).toNat,⟨Int.le_refl _,Int.natCast_nonneg _,rfl⟩, ?_⟩;rintro⟨kept,t,_⟩ _ ⟨t0,t1,hkp⟩;change List Ent at kept;change Int at t;simp only at t0 t1 hkp⊢;have hkl:kept.length<=16384:=by rw[hkp,List.length_map,List.length_take];omega
            refine⟨fun ht=> ?_,fun ht=> ?_⟩
            . have ht:=of_decide_eq_true ht;have hem:=N0 (d:=dEE) t0 ht;have her:=hwr _ hem;have hts:w.take (t+1).toNat=w.take t.toNat++ [gx dEE w t]:=by
               rw[show(t+1).toNat=t.toNat+1 from by omega,List.take_add_one,K9 (d:=dEE) t0 ht];rfl
              generalize gx dEE w t=e at*;refine⟨⟨t0,ht⟩,fun p=>(p.1,(p.2.1,p.2.2.1),p.2.2.2.1)=shL J e,⟨fun hc=> ?_,fun hc=> ?_⟩, ?_⟩
              . have hc:=of_decide_eq_true hc;rw[wr (by omega) (by omega)];unfold shL;rw[if_pos hc]
              . have hc:=of_decide_eq_false hc;unfold shL;rw[if_neg hc]
              . rintro⟨e1,e2,e3,e4,_⟩ _ he;simp only at he⊢;rw[he,wr (by omega) (by omega)];refine⟨⟨by simp only[List.length_singleton];omega,by simp only[List.length_singleton];omega⟩,⟨by omega,by omega, ?_⟩,by omega⟩;rw[hts,List.map_append,hkp];rfl
            . have ht:=of_decide_eq_false ht;rw[E2 (by omega)]at hkp;refine⟨⟨by simp only[List.length_singleton];omega,by simp only[List.length_singleton];omega⟩,by trivial,by trivial, ?_,fun u hu=> ?_⟩
              . show(rows++ [kept]).length= _;rw[List.length_append,kl,List.length_singleton];simp only[rowIx];by_cases hkI:k<=I
                . rw[if_pos hkI,if_pos (by omega)];omega
                . rw[if_neg hkI,if_neg (by omega)];omega
              . have hu:u<(rows++ [kept]).length:=hu;show isV _ _ ((rows++ [kept]).getD u []);rw[List.length_append,List.length_singleton]at hu;rw[List.getD_eq_getElem?_getD];by_cases hu2:u<rows.length
                . rw[List.getElem?_append_left hu2, <-List.getD_eq_getElem?_getD];exact kf u hu2
                . have hu3:u=rows.length:=by omega
                  subst hu3;rw[List.getElem?_append_right (Nat.le_refl _),Nat.sub_self];show isV _ _ kept;have hr0:(if rows.length<I.toNat then rows.length else rows.length+1)=k.toNat:=by
                   rw[kl];simp only[rowIx];by_cases hkI:k<=I
                   . rw[if_pos hkI,if_pos (by omega)]
                   . rw[if_neg hkI,if_neg (by omega)];omega
                  rw[hkp];refine⟨F8a hw1 hwj,fun e he=> ?_,fun c hc=> ?_⟩
                  . obtain⟨x,hx,rfl⟩:=List.mem_map.1 he;have:=hwr x hx;have:=hwj x hx;rw[G0m];split<;>omega
                  . rw[G0k hwj,hwc];unfold F8l;rw[hr0,hkJ];by_cases hcJ:c<J.toNat
                    . rw[if_pos (by omega),if_pos hcJ,hke,hie]
                    . rw[if_neg (by omega),if_neg hcJ,show((c:Int)+1)=((c+1:Nat):Int)from by omega,hke,hie]
         . rintro⟨a,b,rows2,_⟩ _ ⟨g1,g2,g3,g4⟩;simp only at g1 g2 g3 g4⊢;rw[wr (by omega) (by omega)];exact⟨⟨by omega,by omega,g1,g2,g3,g4⟩,by omega⟩
       . have h:=of_decide_eq_false h;have hlen:rows.length=(R-1).toNat:=by rw[kl];simp only[rowIx];rw[if_neg (by omega)];omega
         exact⟨fun h2=>absurd hv h2,fun _=>⟨fun h2=>absurd ⟨i0,i1,j0,j1⟩ h2,fun _=>⟨fun h2=>absurd h2 hz,fun _=>⟨⟨by show R-1= _;omega,by show C-1= _;omega,hlen,fun t ht=>kf t (by omega)⟩,by trivial⟩⟩⟩⟩
 . have hr:r=false:=by rw[hr];exact decide_eq_false hv
   rw[hr];exact⟨fun _=>⟨fun _=>⟨rfl,by trivial⟩,fun h=>absurd h hv⟩,fun h=>(by cases h)⟩
noncomputable def A8w:B4:= []
def A9a:An:= {}
def B3o:An:= {join:= [(17,⟨[5,48,49,50],[1,3],[(10,false,[.own tE 94])],[],[]⟩)],loop:= [(6,⟨[3,5,7,14,15,16,25,26],[0,2],[(27,false,[.val (.int .i64)])],[],[(1, .map false (.int .i64) true tQ)]⟩),(3,⟨[3,5,14,15],[0],[(16,false,[.val (.int .i64)])],[],[(1, .map false (.int .i64) true tQ)]⟩),(13,⟨[5,48,49],[1,3],[(10,false,[.own tE 94]),(50,false,[.val (.int .i64)])],[],[]⟩)],plan:= [(8,[2,5,6,8,10],[13],true,(.p 0 (.p 1 (.q 2 (.p 3 (.p 4 (.q 5 (.q 6 (.p 7 (.q 8 (.p 9 (.q 10 (.e 11 (.e 12 (.e 13 .done)))))))))))))))]}
noncomputable def A2y:B4:= [(71,J5),(122,H4),(160,D6),(174,A5r (E6i 215 3)),(175,A5r (E6r ⟨Tryz.prog,tys⟩ [(47,A8w,A9a)] Tryz.f175.results.toList (Tryz.f175.body.getD .skip) Tryz.f175.ntmps))]
noncomputable def C9a:B4:= []
def C9c:An:= {}
def E2f:An:= {loop:= [(7,⟨[3,4,6,30,31],[1,2,5],[(32,false,[.val (.int .i64)])],[],[(4, .row (.sl tE) 92)]⟩)],plan:= [(9,[1,4],[7],true,(.p 0 (.q 1 (.p 2 (.p 3 (.q 4 (.e 5 (.p 6 (.e 7 .done)))))))))]}
noncomputable def B9v:B4:= [(85,H5),(125,F5),(110,A5r (E6r ⟨Tryz.prog,tys⟩ [(28,C9a,C9c)] Tryz.f110.results.toList (Tryz.f110.body.getD .skip) Tryz.f110.ntmps))]
noncomputable def B7q:B4:= []
def B9l:An:= {}
def C8d:An:= {loop:= [(10,⟨[1,2,3,6,9,51,52],[0,1],[(53,false,[.val (.int .i64)])],[],[(2, .map false (.int .i64) false (.sl (.int .i64)))]⟩),(23,⟨[3,6,9,12,13,17,72,73,74,83,84,85,92,93],[0,1,2,4,5,7],[(15,false,[.own tE 94]),(94,false,[.val (.int .i64)])],[],[]⟩),(20,⟨[3,6,9,12,13,72,73,74,83,84],[0,1,2,4,5],[(15,false,[.own tE 94]),(85,false,[.val (.int .i64)])],[],[]⟩),(16,⟨[3,6,9,12,72,73],[0,1,2,5],[(74,false,[.val (.int .i64)])],[],[(4, .rows tE 92 94)]⟩)]}
noncomputable def B0u:B4:= [(85,H5),(106,A5r (G3p Tryz.prog [(false, .int .i64)] false .bool (.int .i64) (fun n x=>decide (x.1<0\/n<=x.1)))),(108,C0),(109,F0),(111,D8),(112,A5r (E7n 113 tE 94 (fun a b=>C8t a.1 b.1))),(110,A5r (E6r ⟨Tryz.prog,G5g⟩ [(71,B7q,B9l)] Tryz.f110.results.toList (Tryz.f110.body.getD .skip) Tryz.f110.ntmps))]
def B5f:An:= {}
def A4b:B4:= []
def A2h:An:= {}
def S6:B4:= [(165,C6)]
def A4h:An:= {loop:= [(2,⟨[0,1,7],[],[(8,false,[.val (.int .i64)])],[],[]⟩)]}
def V6:B4:= []
def V9:A6 F5.args->Prop:=fun(x:List EE×MM×Unit)=>∃(I:Int×List EE×Unit->Prop),∃(μ:Int×List EE×Unit->Nat),I ((0:Int),[],())/\∀(p:Int×List EE×Unit),E5 p.1/\(∀(x:Int×(Bool×List Int)×List Int),x∈p.2.1->WfE x)/\True->I p->(decide (p.1<(x.1.length:Int))=true->(0<=p.1/\p.1<(x.1.length:Int))/\((0:Int)<=(gx dEE x.1 p.1).1/\(gx dEE x.1 p.1).1<(x.2.1.2.2.length:Int))/\∃(I_1:Int×List EE×Unit->Prop),∃(μ_1:Int×List EE×Unit->Nat),I_1 ((0:Int),p.2.1,())/\∀(a:Int×List EE×Unit),E5 a.1/\(∀(x:Int×(Bool×List Int)×List Int),x∈a.2.1->WfE x)/\True->I_1 a->(decide (a.1<(↑(gx [] x.2.1.2.2 (gx dEE x.1 p.1).1).length:Int))=true->(0<=a.1/\a.1<(↑(gx [] x.2.1.2.2 (gx dEE x.1 p.1).1).length:Int))/\(sh3 (gx dEE x.1 p.1).2/\sh3 (gx dEE (gx [] x.2.1.2.2 (gx dEE x.1 p.1).1) a.1).2)/\∀(r:QQ×Unit),WfQ r.1/\True->r.1=rc (rv (gx dEE x.1 p.1).2*rv (gx dEE (gx [] x.2.1.2.2 (gx dEE x.1 p.1).1) a.1).2)->(sh3 ((J3 (Ty.int IntKind.i64) (gx dEE (gx [] x.2.1.2.2 (gx dEE x.1 p.1).1) a.1).1 a.2.1).getD dQ)/\sh3 r.1)/\∀(b:QQ×Unit),WfQ b.1/\True->b.1=rc (rv ((J3 (Ty.int IntKind.i64) (gx dEE (gx [] x.2.1.2.2 (gx dEE x.1 p.1).1) a.1).1 a.2.1).getD dQ)+rv r.1)->I_1 (IntKind.i64.wrap (a.1+1),C5l (Ty.int IntKind.i64) (gx dEE (gx [] x.2.1.2.2 (gx dEE x.1 p.1).1) a.1).1 b.1 a.2.1,())/\μ_1 (IntKind.i64.wrap (a.1+1),C5l (Ty.int IntKind.i64) (gx dEE (gx [] x.2.1.2.2 (gx dEE x.1 p.1).1) a.1).1 b.1 a.2.1,())<μ_1 a)/\(decide (a.1<(↑(gx [] x.2.1.2.2 (gx dEE x.1 p.1).1).length:Int))=false->I (IntKind.i64.wrap (p.1+1),a.2.1,())/\μ (IntKind.i64.wrap (p.1+1),a.2.1,())<μ p))/\(decide (p.1<(x.1.length:Int))=false->(List.length p.2.1<=100000/\(List.map (fun(x:Int×(Bool×List Int)×List Int)=>x.1) p.2.1).Nodup)/\∀(l:List Int),l.Perm (List.map (fun(x:Int×(Bool×List Int)×List Int)=>x.1) p.2.1)->List.Pairwise (fun(x1 x2:Int)=>x1<=x2) l->∃(I:List EE×Int×Unit->Prop),∃(μ:List EE×Int×Unit->Nat),I ([],(0:Int),())/\∀(a:List EE×Int×Unit),B1h a.1/\E5 a.2.1/\True->I a->(decide (a.2.1<(↑l.length:Int))=true->∃(J:List EE×Unit->Prop),((0<=a.2.1/\a.2.1<(↑l.length:Int))/\True/\∀(r:Int×Unit),E5 r.1/\True->r.1=(rv ((J3 (Ty.int IntKind.i64) (l.getD (Int.toNat a.2.1) (0:Int)) p.2.1).getD dQ)).num.sign->(decide (r.1≠0)=true->((List.length a.1+ [(l.getD (Int.toNat a.2.1) (0:Int),(J3 (Ty.int IntKind.i64) (l.getD (Int.toNat a.2.1) (0:Int)) p.2.1).getD dQ)].length)*(64:Nat)<=(140737488355328:Nat)/\List.length a.1+ [(l.getD (Int.toNat a.2.1) (0:Int),(J3 (Ty.int IntKind.i64) (l.getD (Int.toNat a.2.1) (0:Int)) p.2.1).getD dQ)].length<=9223372036854775807)/\J (a.1++ [(l.getD (Int.toNat a.2.1) (0:Int),(J3 (Ty.int IntKind.i64) (l.getD (Int.toNat a.2.1) (0:Int)) p.2.1).getD dQ)],()))/\(decide (r.1≠0)=false->J (a.1,())))/\∀(p:List EE×Unit),B1h p.1/\True->J p->I (p.1,IntKind.i64.wrap (a.2.1+1),())/\μ (p.1,IntKind.i64.wrap (a.2.1+1),())<μ a)/\(decide (a.2.1<(↑l.length:Int))=false->B5p a.1/\∀(i:Int),D5 a.1 i=A9w x.1 fun(k:Int)=>D5 (x.2.1.2.2.getD k.toNat []) i))
theorem A8h (x:A6 F5.args):I2 Tryz.prog tys A2y B3o F5 Tryz.f125 x=V9 x:=by kernel_rfl
def A9z:A6 T6.args->Prop:=fun(x:MM×MM×Unit)=>True/\∀(r:Bool×Unit),True/\True->r.1=decide (A7 x.1)->((!r.1)=false->True)/\∀(a:Bool×Unit),((!r.1)=false->(True/\True)/\a.1=decide (A7 x.2.1))->((sel (!r.1) true !a.1)=true->(¬(A7 x.1/\A7 x.2.1)->((0:Int),(0:Int),[])=zm/\(1:Int)=(1:Int))/\(A7 x.1/\A7 x.2.1->(x.1.2.1≠x.2.1.1->((0:Int),(0:Int),[])=zm/\(1:Int)=(4:Int))/\(x.1.2.1=x.2.1.1->isM x.1.1.toNat x.2.1.2.1.toNat (fun(i j:Nat)=>A5y x.1.2.1.toNat fun(k:Nat)=>el x.1 i k*el x.2.1 k j) ((0:Int),(0:Int),[])/\(1:Int)=(0:Int))))/\((sel (!r.1) true !a.1)=false->(decide (x.1.2.1≠x.2.1.1)=true->(¬(A7 x.1/\A7 x.2.1)->((0:Int),(0:Int),[])=zm/\(4:Int)=(1:Int))/\(A7 x.1/\A7 x.2.1->(x.1.2.1≠x.2.1.1->((0:Int),(0:Int),[])=zm/\(4:Int)=(4:Int))/\(x.1.2.1=x.2.1.1->isM x.1.1.toNat x.2.1.2.1.toNat (fun(i j:Nat)=>A5y x.1.2.1.toNat fun(k:Nat)=>el x.1 i k*el x.2.1 k j) ((0:Int),(0:Int),[])/\(4:Int)=(0:Int))))/\(decide (x.1.2.1≠x.2.1.1)=false->(0<=x.1.1/\x.1.1<=x.1.1/\(↑(24:Nat):Int)*x.1.1<=281474976710656/\x.1.1<=9223372036854775807)/\∃(I:Int×List (List EE)×Unit->Prop),∃(μ:Int×List (List EE)×Unit->Nat),I ((0:Int),List.replicate (Int.toNat x.1.1) [],())/\∀(p:Int×List (List EE)×Unit),E5 p.1/\G2a p.2.1/\True->I p->(decide (p.1<(x.1.2.2.length:Int))=true->(0<=p.1/\p.1<(x.1.2.2.length:Int))/\(okV K0 (gx [] x.1.2.2 p.1)/\okM K0 x.2.1/\A7 x.2.1/\J4 (gx [] x.1.2.2 p.1) x.2.1.1/\x.2.1.1<=1000)/\∀(r:List EE×Unit),B1h r.1/\True->isC (fun(j:Int)=>A9w (gx [] x.1.2.2 p.1) fun(k:Int)=>D5 (List.getD x.2.1.2.2 k.toNat []) j) r.1->(0<=p.1/\p.1<(p.2.1.length:Int))/\I (IntKind.i64.wrap (p.1+1),List.set p.2.1 (Int.toNat p.1) r.1,())/\μ (IntKind.i64.wrap (p.1+1),List.set p.2.1 (Int.toNat p.1) r.1,())<μ p)/\(decide (p.1<(x.1.2.2.length:Int))=false->(¬(A7 x.1/\A7 x.2.1)->(x.1.1,x.2.1.2.1,p.2.1)=zm/\(0:Int)=(1:Int))/\(A7 x.1/\A7 x.2.1->(x.1.2.1≠x.2.1.1->(x.1.1,x.2.1.2.1,p.2.1)=zm/\(0:Int)=(4:Int))/\(x.1.2.1=x.2.1.1->isM x.1.1.toNat x.2.1.2.1.toNat (fun(i j:Nat)=>A5y x.1.2.1.toNat fun(k:Nat)=>el x.1 i k*el x.2.1 k j) (x.1.1,x.2.1.2.1,p.2.1)/\(0:Int)=(0:Int))))))
theorem C9k (x:A6 T6.args):I2 Tryz.prog tys B9v E2f T6 Tryz.f55 x=A9z x:=by kernel_rfl
def A3q:A6 N2.args->Prop:=fun(x:MM×List Int×List Int×Unit)=>True/\∀(r:Bool×Unit),True/\True->r.1=decide (A7 x.1)->((!r.1)=true->(¬A7 x.1->((0:Int),(0:Int),[])=zm/\(1:Int)=(1:Int))/\(A7 x.1->(((∃(i:Int),i∈x.2.1/\(i<(0:Int)\/x.1.1<=i))\/∃(i:Int),i∈x.2.2.1/\(i<(0:Int)\/x.1.2.1<=i))->((0:Int),(0:Int),[])=zm/\(1:Int)=(3:Int))/\(¬((∃(i:Int),i∈x.2.1/\(i<(0:Int)\/x.1.1<=i))\/∃(i:Int),i∈x.2.2.1/\(i<(0:Int)\/x.1.2.1<=i))->(16384<x.2.1.length\/16384<x.2.2.1.length->((0:Int),(0:Int),[])=zm/\(1:Int)=(8:Int))/\(x.2.1.length<=(16384:Nat)/\x.2.2.1.length<=(16384:Nat)->isM x.2.1.length x.2.2.1.length (fun(i j:Nat)=>el x.1 (x.2.1.getD i (0:Int)).toNat (x.2.2.1.getD j (0:Int)).toNat) ((0:Int),(0:Int),[])/\(1:Int)=(0:Int)))))/\((!r.1)=false->Go.Proofs.Tryz.prog=Go.Proofs.Tryz.prog/\false=false/\(∀(i:Int),i∈x.2.1->(fun(x:Int×Unit)=>True,fun(z:Int×Unit)=>decide (z.1<(0:(Ty.int IntKind.i64).den)\/x.1.1<=z.1)).1 (i,()))/\∀(f:Bool×Unit),True/\True->f.1=decide (∃(i:Int),i∈x.2.1/\(fun(x:Int×Unit)=>True,fun(z:Int×Unit)=>decide (z.1<(0:(Ty.int IntKind.i64).den)\/x.1.1<=z.1)).2 (i,())=true)->Go.Proofs.Tryz.prog=Go.Proofs.Tryz.prog/\false=false/\(f.1=false->∀(i:Int),i∈x.2.2.1->(fun(x:Int×Unit)=>True,fun(z:Int×Unit)=>decide (z.1<(0:(Ty.int IntKind.i64).den)\/x.1.2.1<=z.1)).1 (i,()))/\∀(h:Bool×Unit),(f.1=false->(True/\True)/\h.1=decide (∃(i:Int),i∈x.2.2.1/\(fun(x:Int×Unit)=>True,fun(z:Int×Unit)=>decide (z.1<(0:(Ty.int IntKind.i64).den)\/x.1.2.1<=z.1)).2 (i,())=true))->(sel f.1 true h.1=true->(¬A7 x.1->((0:Int),(0:Int),[])=zm/\(3:Int)=(1:Int))/\(A7 x.1->(((∃(i:Int),i∈x.2.1/\(i<(0:Int)\/x.1.1<=i))\/∃(i:Int),i∈x.2.2.1/\(i<(0:Int)\/x.1.2.1<=i))->((0:Int),(0:Int),[])=zm/\(3:Int)=(3:Int))/\(¬((∃(i:Int),i∈x.2.1/\(i<(0:Int)\/x.1.1<=i))\/∃(i:Int),i∈x.2.2.1/\(i<(0:Int)\/x.1.2.1<=i))->(16384<x.2.1.length\/16384<x.2.2.1.length->((0:Int),(0:Int),[])=zm/\(3:Int)=(8:Int))/\(x.2.1.length<=(16384:Nat)/\x.2.2.1.length<=(16384:Nat)->isM x.2.1.length x.2.2.1.length (fun(i j:Nat)=>el x.1 (x.2.1.getD i (0:Int)).toNat (x.2.2.1.getD j (0:Int)).toNat) ((0:Int),(0:Int),[])/\(3:Int)=(0:Int)))))/\(sel f.1 true h.1=false->True/\∀(g:Bool×Unit),True/\True->g.1=decide ((0:Int)<=(x.2.1.length:Int)/\(x.2.1.length:Int)<=(16384:Int))->((!g.1)=false->True)/\∀(k:Bool×Unit),((!g.1)=false->(True/\True)/\k.1=decide ((0:Int)<=(x.2.2.1.length:Int)/\(x.2.2.1.length:Int)<=(16384:Int)))->((sel (!g.1) true !k.1)=true->(¬A7 x.1->((0:Int),(0:Int),[])=zm/\(8:Int)=(1:Int))/\(A7 x.1->(((∃(i:Int),i∈x.2.1/\(i<(0:Int)\/x.1.1<=i))\/∃(i:Int),i∈x.2.2.1/\(i<(0:Int)\/x.1.2.1<=i))->((0:Int),(0:Int),[])=zm/\(8:Int)=(3:Int))/\(¬((∃(i:Int),i∈x.2.1/\(i<(0:Int)\/x.1.1<=i))\/∃(i:Int),i∈x.2.2.1/\(i<(0:Int)\/x.1.2.1<=i))->(16384<x.2.1.length\/16384<x.2.2.1.length->((0:Int),(0:Int),[])=zm/\(8:Int)=(8:Int))/\(x.2.1.length<=(16384:Nat)/\x.2.2.1.length<=(16384:Nat)->isM x.2.1.length x.2.2.1.length (fun(i j:Nat)=>el x.1 (x.2.1.getD i (0:Int)).toNat (x.2.2.1.getD j (0:Int)).toNat) ((0:Int),(0:Int),[])/\(8:Int)=(0:Int)))))/\((sel (!g.1) true !k.1)=false->∃(I:Int×List (Int×List Int)×Unit->Prop),∃(μ:Int×List (Int×List Int)×Unit->Nat),I ((0:Int),[],())/\∀(p:Int×List (Int×List Int)×Unit),E5 p.1/\(∀(x:Int×List Int),x∈p.2.1->E5 x.1/\WfI x.2)/\True->I p->(decide (p.1<(x.2.2.1.length:Int))=true->(0<=p.1/\p.1<(x.2.2.1.length:Int))/\J3 (Ty.int IntKind.i64) (gx (0:Int) x.2.2.1 p.1) p.2.1=Option.none/\(((0:Nat)+ [p.1].length)*(8:Nat)<=(140737488355328:Nat)/\(0:Nat)+ [p.1].length<=9223372036854775807)/\I (IntKind.i64.wrap (p.1+1),C5l (Ty.int IntKind.i64) (gx (0:Int) x.2.2.1 p.1) [p.1] p.2.1,())/\μ (IntKind.i64.wrap (p.1+1),C5l (Ty.int IntKind.i64) (gx (0:Int) x.2.2.1 p.1) [p.1] p.2.1,())<μ p)/\(decide (p.1<(x.2.2.1.length:Int))=false->((0:Int)<=(x.2.1.length:Int)/\(x.2.1.length:Int)<=(x.2.1.length:Int)/\(↑(24:Nat):Int)*(x.2.1.length:Int)<=(281474976710656:Int)/\(x.2.1.length:Int)<=(9223372036854775807:Int))/\∃(I:Int×List (List EE)×Unit->Prop),∃(μ:Int×List (List EE)×Unit->Nat),I ((0:Int),List.replicate (x.2.1.length:Int).toNat [],())/\∀(c:Int×List (List EE)×Unit),E5 c.1/\G2a c.2.1/\True->I c->(decide (c.1<(x.2.1.length:Int))=true->(0<=c.1/\c.1<(x.2.1.length:Int))/\((0:Int)<=gx (0:Int) x.2.1 c.1/\gx (0:Int) x.2.1 c.1<(x.1.2.2.length:Int))/\∃(I_1:List EE×Int×Unit->Prop),∃(μ_1:List EE×Int×Unit->Nat),I_1 ([],(0:Int),())/\∀(d:List EE×Int×Unit),B1h d.1/\E5 d.2.1/\True->I_1 d->(decide (d.2.1<(↑(gx [] x.1.2.2 (gx (0:Int) x.2.1 c.1)).length:Int))=true->(0<=d.2.1/\d.2.1<(↑(gx [] x.1.2.2 (gx (0:Int) x.2.1 c.1)).length:Int))/\∃(I:List EE×Int×Unit->Prop),∃(μ:List EE×Int×Unit->Nat),I (d.1,(0:Int),())/\∀(e:List EE×Int×Unit),B1h e.1/\E5 e.2.1/\True->I e->(decide (e.2.1<(↑((J3 (Ty.int IntKind.i64) (gx dEE (gx [] x.1.2.2 (gx (0:Int) x.2.1 c.1)) d.2.1).1 p.2.1).getD []).length:Int))=true->(0<=e.2.1/\e.2.1<(↑((J3 (Ty.int IntKind.i64) (gx dEE (gx [] x.1.2.2 (gx (0:Int) x.2.1 c.1)) d.2.1).1 p.2.1).getD []).length:Int))/\sh3 (gx dEE (gx [] x.1.2.2 (gx (0:Int) x.2.1 c.1)) d.2.1).2/\∀(r:QQ×Unit),WfQ r.1/\True->r.1=rc (rv (gx dEE (gx [] x.1.2.2 (gx (0:Int) x.2.1 c.1)) d.2.1).2)->((List.length e.1+ [(gx (0:Int) ((J3 (Ty.int IntKind.i64) (gx dEE (gx [] x.1.2.2 (gx (0:Int) x.2.1 c.1)) d.2.1).1 p.2.1).getD []) e.2.1,r.1)].length)*(64:Nat)<=(140737488355328:Nat)/\List.length e.1+ [(gx (0:Int) ((J3 (Ty.int IntKind.i64) (gx dEE (gx [] x.1.2.2 (gx (0:Int) x.2.1 c.1)) d.2.1).1 p.2.1).getD []) e.2.1,r.1)].length<=9223372036854775807)/\I (e.1++ [(gx (0:Int) ((J3 (Ty.int IntKind.i64) (gx dEE (gx [] x.1.2.2 (gx (0:Int) x.2.1 c.1)) d.2.1).1 p.2.1).getD []) e.2.1,r.1)],IntKind.i64.wrap (e.2.1+1),())/\μ (e.1++ [(gx (0:Int) ((J3 (Ty.int IntKind.i64) (gx dEE (gx [] x.1.2.2 (gx (0:Int) x.2.1 c.1)) d.2.1).1 p.2.1).getD []) e.2.1,r.1)],IntKind.i64.wrap (e.2.1+1),())<μ e)/\(decide (e.2.1<(↑((J3 (Ty.int IntKind.i64) (gx dEE (gx [] x.1.2.2 (gx (0:Int) x.2.1 c.1)) d.2.1).1 p.2.1).getD []).length:Int))=false->I_1 (e.1,IntKind.i64.wrap (d.2.1+1),())/\μ_1 (e.1,IntKind.i64.wrap (d.2.1+1),())<μ_1 d))/\(decide (d.2.1<(↑(gx [] x.1.2.2 (gx (0:Int) x.2.1 c.1)).length:Int))=false->List.length d.1<=100000/\∀(l':List EE),tE.sl.wf l'->l'.Perm d.1->List.Pairwise (fun(a b:Int×(Bool×List Int)×List Int)=>¬C8t b.1 a.1<0) l'->(0<=c.1/\c.1<(c.2.1.length:Int))/\I (IntKind.i64.wrap (c.1+1),List.set c.2.1 (Int.toNat c.1) l',())/\μ (IntKind.i64.wrap (c.1+1),List.set c.2.1 (Int.toNat c.1) l',())<μ c))/\(decide (c.1<(x.2.1.length:Int))=false->(¬A7 x.1->((x.2.1.length:Int),(x.2.2.1.length:Int),c.2.1)=zm/\(0:Int)=(1:Int))/\(A7 x.1->(((∃(i:Int),i∈x.2.1/\(i<(0:Int)\/x.1.1<=i))\/∃(i:Int),i∈x.2.2.1/\(i<(0:Int)\/x.1.2.1<=i))->((x.2.1.length:Int),(x.2.2.1.length:Int),c.2.1)=zm/\(0:Int)=(3:Int))/\(¬((∃(i:Int),i∈x.2.1/\(i<(0:Int)\/x.1.1<=i))\/∃(i:Int),i∈x.2.2.1/\(i<(0:Int)\/x.1.2.1<=i))->(16384<x.2.1.length\/16384<x.2.2.1.length->((x.2.1.length:Int),(x.2.2.1.length:Int),c.2.1)=zm/\(0:Int)=(8:Int))/\(x.2.1.length<=(16384:Nat)/\x.2.2.1.length<=(16384:Nat)->isM x.2.1.length x.2.2.1.length (fun(i j:Nat)=>el x.1 (x.2.1.getD i (0:Int)).toNat (x.2.2.1.getD j (0:Int)).toNat) ((x.2.1.length:Int),(x.2.2.1.length:Int),c.2.1)/\(0:Int)=(0:Int)))))))))
theorem B8t (x:A6 N2.args):I2 Tryz.prog G5g B0u C8d N2 Tryz.f45 x=A3q x:=by kernel_rfl
def Y1:A6 E7.args->Prop:=fun(x:Int×Int×Unit)=>sel (decide (x.1<0)) true (decide (x.2.1<=x.1))=decide (x.1<0\/x.2.1<=x.1)
theorem A9d (x:A6 E7.args):I2 Tryz.prog tys A4b B5f E7 Tryz.f107 x=Y1 x:=by kernel_rfl
def L3:A6 C0.args->Prop:=fun(x:List Int×((Int×Unit->Prop)×(Int×Unit->Bool))×Unit)=>Go.Proofs.Tryz.prog=Go.Proofs.Tryz.prog/\false=false/\(∀(i:Int),i∈x.1->(x.2.1.1,fun(z:Int×Unit)=>x.2.1.2 z).1 (i,()))/\∀(r:Int×Unit),E5 r.1/\True->r.1=G1d (fun(i:Int)=>(x.2.1.1,fun(z:Int×Unit)=>x.2.1.2 z).2 (i,())) x.1->decide (0<=r.1)=decide (∃(i:Int),i∈x.1/\x.2.1.2 (i,())=true)
theorem A0s (x:A6 C0.args):I2 Tryz.prog tys S6 A2h C0 Tryz.f108 x=L3 x:=by kernel_rfl
def O3:A6 C6.args->Prop:=fun(x:List Int×((Int×Unit->Prop)×(Int×Unit->Bool))×Unit)=>∃(I:Int×Unit->Prop),∃(μ:Int×Unit->Nat),I ((0:Int),())/\∀(p:Int×Unit),E5 p.1/\True->I p->(decide (p.1<(x.1.length:Int))=true->(0<=p.1/\p.1<(x.1.length:Int))/\Go.Proofs.Tryz.prog=Go.Proofs.Tryz.prog/\x.2.1.1 (gx (0:Int) x.1 p.1,())/\(Ty.bool.wf (x.2.1.2 (gx (0:Int) x.1 p.1,()))->(x.2.1.2 (gx (0:Int) x.1 p.1,())=true->p.1=G1d (fun(i:Int)=>x.2.1.2 (i,())) x.1)/\(x.2.1.2 (gx (0:Int) x.1 p.1,())=false->I (IntKind.i64.wrap (p.1+1),())/\μ (IntKind.i64.wrap (p.1+1),())<μ p)))/\(decide (p.1<(x.1.length:Int))=false->(-1:Int)=G1d (fun(i:Int)=>x.2.1.2 (i,())) x.1)
theorem A2l (x:A6 C6.args):I2 Tryz.prog tys V6 A4h C6 Tryz.f165 x=O3 x:=by kernel_rfl
theorem A9l (a b:Int):eqB (.int .i64) a b=decide (a=b):=rfl
theorem C0t {α:Type} (k i:Int) (v:α):∀l:List (Int×α),J3 (.int .i64) i (C5l (.int .i64) k v l)=if i=k then some v else J3 (.int .i64) i l
 | []=>by
  simp only[C5l,J3,A9l];by_cases h:i=k
  . simp[h]
  . rw[if_neg h];simp[h]
 | (a,b)::l=>by
  have ih:=C0t k i v l;simp only[C5l,A9l];by_cases h:k=a
  . subst h;simp only[decide_true,cond_true,J3,A9l];by_cases h2:i=k
    . simp[h2]
    . simp[h2]
  . simp only[h,decide_false,cond_false,J3,A9l,ih];by_cases h2:i=a
    . subst h2;have:¬i=k:=fun e=>h e.symm
      simp[this]
    . simp[h2]
theorem E3f {α:Type} (k:Int) (v:α):∀l:List (Int×α),(C5l (.int .i64) k v l).map (fun e=>e.1)=if k∈l.map (fun e=>e.1)then l.map (fun e=>e.1)else l.map (fun e=>e.1)++ [k]
 | []=>by simp[C5l]
 | (a,b)::l=>by
  have ih:=E3f k v l;simp only[C5l,A9l];by_cases h:k=a
  . subst h;simp
  . simp only[h,decide_false,cond_false,List.map_cons,ih,List.mem_cons,false_or];split<;>simp
theorem D9j {α:Type} (k:Int) (v:α):∀ {l:List (Int×α)} {e:Int×α},e∈C5l (.int .i64) k v l->e=(k,v)\/e∈l
 | [],e,h=>by
  simp only[C5l,List.mem_singleton]at h;exact .inl h
 | (a,b)::l,e,h=>by
  simp only[C5l,A9l]at h;by_cases hk:k=a
  . subst hk;simp only[decide_true,cond_true,List.mem_cons]at h;rcases h with h|h
    . exact .inl h
    . exact .inr (List.mem_cons_of_mem _ h)
  . simp only[hk,decide_false,cond_false,List.mem_cons]at h;rcases h with h|h
    . exact .inr (h▸List.mem_cons_self ..)
    . exact(D9j k v h).imp id (List.mem_cons_of_mem _)
theorem D8v {α:Type} {k:Int} {v:α} :∀ {l:List (Int×α)},J3 (.int .i64) k l=some v->(k,v)∈l
 | (a,b)::l,h=>by
  simp only[J3,A9l]at h;by_cases hk:k=a
  . simp[hk]at h;rw[hk,h];exact List.mem_cons_self ..
  . simp[hk]at h;exact List.mem_cons_of_mem _ (D8v h)
theorem D8b {α:Type} {k:Int} :∀ {l:List (Int×α)},k∉l.map (fun e=>e.1)->J3 (.int .i64) k l=none
 | [],_=>rfl
 | (a,b)::l,h=>by
  simp only[List.map_cons,List.mem_cons,not_or]at h;simp only[J3,A9l];simp[h.1,D8b h.2]
theorem E9v {α:Type} {k:Int} :∀ {l:List (Int×α)},k∈l.map (fun e=>e.1)->∃v,J3 (.int .i64) k l=some v
 | (a,b)::l,h=>by
  simp only[J3,A9l];by_cases hk:k=a
  . exact⟨b,by simp[hk]⟩
  . simp only[List.map_cons,List.mem_cons,hk,false_or]at h;obtain⟨v,hv⟩:=E9v h;exact⟨v,by simp[hk,hv]⟩
theorem E9l:∀ {r l:List Int},r.Nodup->(∀i∈r,i∈l)->r.length<=l.length
 | [],_,_,_=>Nat.zero_le _
 |a::r,l,hd,hs=>by
  rw[List.nodup_cons]at hd;have hm:=hs a (List.mem_cons_self ..);have:=E9l (l:=l.erase a) hd.2 fun i hi=>(List.mem_erase_of_ne fun e=>hd.1 (by rw[<-e];exact hi)).2 (hs i (List.mem_cons_of_mem _ hi))
  have h2:=List.length_erase_of_mem hm;have h3:=List.length_pos_of_mem hm;rw[List.length_cons];omega
theorem F4u {r:List Int} {n:Int} (h:r.Nodup) (hr:∀i∈r,0<=i/\i<n):(r.length:Int)<=max n 0:=by
 have:=E9l (l:=(List.range n.toNat).map fun i:Nat=>(i:Int)) h fun i hi=>by
  have:=hr i hi;exact List.mem_map.2 ⟨i.toNat,List.mem_range.2 (by omega),by omega⟩
 rw[List.length_map,List.length_range]at this;omega
structure F3c (n:Int) (F:Int->Rat) (es:List Ent):Prop where
 nd:(es.map fun e=>e.1).Nodup
 rng:∀e∈es,0<=e.1/\e.1<n
 can:∀e∈es,e.2=rc (rv e.2)
 val:∀j,rv ((J3 (.int .i64) j es).getD dQ)=F j
theorem F3c.at {n:Int} {F:Int->Rat} {es:List Ent} (h:F3c n F es) (j:Int):(J3 (.int .i64) j es).getD dQ=rc (F j)\/((J3 (.int .i64) j es).getD dQ=dQ/\F j=0/\j∉es.map fun e=>e.1):=by
 have hv:=h.val j;cases hf:J3 (.int .i64) j es with
 |none=>
  rw[hf]at hv;refine .inr ⟨rfl, ?_,fun hj=> ?_⟩
  . rw[<-hv];exact E6x
  . obtain⟨v,h2⟩:=E9v hj;rw[hf]at h2;cases h2
 |some v=>
  rw[hf]at hv;have h2:=h.can _ (D8v hf);have hv:rv v=F j:=hv;left;show v= _;rw[<-hv];exact h2
theorem F3c.sh {n:Int} {F:Int->Rat} {es:List Ent} (h:F3c n F es) (j:Int) (hq:qs 2199023255552 (F j)):sh3 ((J3 (.int .i64) j es).getD dQ):=by
 rcases h.at j with h1| ⟨h1,_⟩
 . rw[h1];exact hq
 . rw[h1];exact⟨Nat.zero_le _,Nat.zero_le _⟩
theorem F3c.put {n:Int} {F G:Int->Rat} {es:List Ent} (h:F3c n F es) {k:Int} {q:Rat} (hk:0<=k/\k<n) (h1:G k=q) (h2:∀j,j≠k->G j=F j):F3c n G (C5l (.int .i64) k (rc q) es):=by
 refine⟨?_,fun e he=> ?_,fun e he=> ?_,fun j=> ?_⟩
 . have:=E3f k (rc q) es;rw[this];split
   . exact h.nd
   . rename_i hn;rw[List.nodup_append];refine⟨h.nd,by simp,fun a ha b hb hab=> ?_⟩;rw[List.mem_singleton]at hb;subst hb hab;exact hn ha
 . rcases D9j k (rc q) he with rfl|he
   . exact hk
   . exact h.rng e he
 . rcases D9j k (rc q) he with rfl|he
   . show rc q=rc (rv (rc q));rw[A0t]
   . exact h.can e he
 . rw[C0t];by_cases hj:j=k
   . rw[if_pos hj];show rv (rc q)= _;rw[A0t,hj,h1]
   . rw[if_neg hj,h.val,h2 j hj]
theorem F3c.len {n:Int} {F:Int->Rat} {es:List Ent} (h:F3c n F es):(es.length:Int)<=max n 0:=by
 have:=F4u h.nd (n:=n) fun i hi=>by
  obtain⟨e,he,rfl⟩:=List.mem_map.1 hi;exact h.rng e he
 rwa[List.length_map]at this
theorem A8n (x:A6 F5.args) (hw:awf F5.args x) (hp:F5.pre x):V9 x:=by
 obtain⟨v,⟨R,C,D⟩,_⟩:=x;have hlv:F7q v:=C5r hw.1.2;have hlm:F7r (R,C,D):=D1n hw.2.1.2.2.2;change List Ent at v;change Int at R C;change List (List Ent)at D;obtain⟨hok,hs,hv,hvv,hR⟩:okV K0 v/\okM K0 (R,C,D)/\A7 (R,C,D)/\J4 v R/\R<=1000:=hp;have v5:(D.length:Int)=R:=hv.2.2.2.2.1;have v6:∀w∈D,J4 w C:=hv.2.2.2.2.2;have v3:0<=C:=hv.2.2.1;have v4:C<=16384:=hv.2.2.2.1;have hvl:v.length<=1000:=by have:=E6d hvv;omega
 simp only[V9]
 let H:Int->Int->Rat:=fun j k=>D5 (D.getD k.toNat []) j
 have hHq:∀j:Int,∀e∈v,qs K0 (H j e.1):=fun j e he=>by
  have:=hvv.2 e he;exact E7e hv hlm hs (by decide) (K6 (by omega)) j
 have hEq:∀(j:Int) (n:Nat),qs ((v.take n).length*(K0+K0+1)+1) (A9w (v.take n) (H j)):=fun j n=>G3k (fun e he=>hlv e (List.mem_of_mem_take he)) (fun e he=>hok.2.1 e (List.mem_of_mem_take he)) (by decide) fun e he=>hHq j e (List.mem_of_mem_take he)
 have h7:K0+K0+1=2147483649:=by decide
 have h8:K0+K0=2147483648:=by decide
 refine⟨fun p=>0<=p.1/\p.1<=(v.length:Int)/\F3c C (fun j=>A9w (v.take p.1.toNat) (H j)) p.2.1,fun p=>((v.length:Int)-p.1).toNat,⟨Int.le_refl _,Int.natCast_nonneg _,List.nodup_nil,fun _ h=>(by cases h),fun _ h=>(by cases h),fun j=>E6x⟩, ?_⟩;rintro⟨i,es,_⟩ _ ⟨i0,i1,hS⟩;change Int at i;change List Ent at es;simp only at i0 i1 hS⊢;refine⟨fun h=> ?_,fun h=> ?_⟩
 . have h:=of_decide_eq_true h;have hem:=N0 (d:=dEE) i0 h;obtain⟨e0,e1,_⟩:=hvv.2 _ hem;have hse:=hok.2.1 _ hem;have hle:=hlv _ hem;have hst:=fun j=>F3f (d:=dEE) i0 h (H j)
   have htl:(v.take i.toNat).length<=999:=by rw[List.length_take];omega
   have hEi:=fun j=>hEq j i.toNat
   generalize gx dEE v i=e at*;have heD:e.1<(D.length:Int):=by omega
   rw[C7m e0 heD];have hme:D.getD e.1.toNat []∈D:=K6 (by omega);have hrow:=C1b hv hs hme;have hvr:=v6 _ hme;have hlr:=hlm _ hme;have hH:∀j,H j e.1=D5 (D.getD e.1.toNat []) j:=fun j=>rfl
   generalize D.getD e.1.toNat []=row at*;have hrl:=hrow.2.2;refine⟨⟨i0,h⟩,⟨e0,heD⟩,fun p=>0<=p.1/\p.1<=(row.length:Int)/\F3c C (fun j=>A9w (v.take i.toNat) (H j)+rv e.2*D5 (row.take p.1.toNat) j) p.2.1,fun p=>((row.length:Int)-p.1).toNat,⟨Int.le_refl _,Int.natCast_nonneg _, ?_⟩, ?_⟩
   . have:(fun j=>A9w (v.take i.toNat) (H j)+rv e.2*D5 (row.take (Int.toNat 0)) j)=fun j=>A9w (v.take i.toNat) (H j):=by
      funext j;show _ +rv e.2*0= _;rw[Rat.mul_zero,Rat.add_zero]
     show F3c C (fun j=>A9w (v.take i.toNat) (H j)+rv e.2*D5 (row.take (Int.toNat 0)) j) es;rw[this];exact hS
   rintro⟨t,fs,_⟩ _ ⟨t0,t1,hT⟩;change Int at t;change List Ent at fs;simp only at t0 t1 hT⊢;refine⟨fun ht=> ?_,fun ht=> ?_⟩
   . have ht:=of_decide_eq_true ht;have hfm:=N0 (d:=dEE) t0 ht;have hfr:=hvr.2 _ hfm;have hsf:=hrow.2.1 _ hfm;have hlf:=hlr _ hfm;have hct:=E3b (d:=dEE) t0 ht;have hcq:=B4a (v:=row.take t.toNat) (k:=K0) hrow.1.take (fun e he=>hlr e (List.mem_of_mem_take he)) (fun e he=>hrow.2.1 e (List.mem_of_mem_take he)) (by decide);generalize gx dEE row t=f at*;have hpq:=D3e (E5w hle hse (by decide)) (E5w hlf hsf (by decide));have hFq:qs 2199023255552 (A9w (v.take i.toNat) (H f.1)+rv e.2*D5 (row.take t.toNat) f.1):=by
      refine C6y (F7n (hEi f.1) (D3e (E5w hle hse (by decide)) (hcq f.1))) ?_;rw[h7,h8];omega
     refine⟨⟨t0,ht⟩,⟨A6n hse (by decide),A6n hsf (by decide)⟩, ?_⟩;rintro⟨q,_⟩ _ hq;simp only at hq⊢;refine⟨⟨hT.sh f.1 hFq,by rw[hq];exact A8v hpq (by decide)⟩, ?_⟩;rintro⟨u,_⟩ _ hu;simp only at hu⊢;rw[wr (by omega) (by omega)];have hval:rv ((J3 (.int .i64) f.1 fs).getD dQ)=A9w (v.take i.toNat) (H f.1)+rv e.2*D5 (row.take t.toNat) f.1:=hT.val f.1;rw[hval,hq,A0t]at hu;rw[hu];refine⟨⟨by omega,by omega,hT.put ⟨hfr.1,hfr.2.1⟩ ?_ fun j hj=> ?_⟩,by omega⟩
     . show _ +rv e.2*D5 (row.take (t+1).toNat) f.1= _;rw[hct,if_pos rfl,Rat.mul_add, <-Rat.add_assoc]
     . show _ +rv e.2*D5 (row.take (t+1).toNat) j= _ +rv e.2*D5 (row.take t.toNat) j;rw[hct,if_neg (fun e=>hj e.symm),Rat.add_zero]
   . have ht:=of_decide_eq_false ht;rw[E2 (l:=row) (i:=t) (by omega)]at hT;rw[wr (by omega) (by omega)];refine⟨⟨by omega,by omega, ?_⟩,by omega⟩;have:(fun j=>A9w (v.take (i+1).toNat) (H j))=fun j=>A9w (v.take i.toNat) (H j)+rv e.2*D5 row j:=by
      funext j;rw[hst,hH]
     show F3c C (fun j=>A9w (v.take (i+1).toNat) (H j)) fs;rw[this];exact hT
 . have h:=of_decide_eq_false h;rw[E2 (by omega)]at hS;have hlen:=hS.len;refine⟨⟨by omega,hS.nd⟩,fun l hl hls=> ?_⟩;have hnd:l.Nodup:=hl.nodup_iff.2 hS.nd;have hlt:l.Pairwise (· < ·):=by
    refine List.Pairwise.imp₂ ?_ hls hnd;intro a b h1 h2;omega
   have hll:l.length<=16384:=by
    have:=hl.length_eq;rw[List.length_map]at this;omega
   have hmem:∀j,j∈l↔j∈es.map fun e=>e.1:=fun j=>hl.mem_iff
   refine⟨fun p=>0<=p.2.1/\p.2.1<=(l.length:Int)/\p.1.length<=p.2.1.toNat/\B5p p.1/\(∀e∈p.1,e.1∈l.take p.2.1.toNat)/\(∀j∈l.take p.2.1.toNat,D5 p.1 j=A9w v (H j)),fun p=>((l.length:Int)-p.2.1).toNat,⟨Int.le_refl _,Int.natCast_nonneg _,Nat.le_refl _,C1a,fun _ h=>(by cases h),by simp⟩, ?_⟩;rintro⟨out,j,_⟩ _ ⟨h0,h1,h2,h3,h4,h5⟩;change Int at j;change List Ent at out;simp only at h0 h1 h2 h3 h4 h5⊢;refine⟨fun h=> ?_,fun h=> ?_⟩
   . have h:=of_decide_eq_true h;have hg:=V5 (d:=(0:Int)) h0 h;have hts:l.take (j+1).toNat=l.take j.toNat++ [gx 0 l j]:=by
      rw[show(j+1).toNat=j.toNat+1 from by omega,List.take_add_one,K9 (d:=(0:Int)) h0 h];rfl
     have hlt2:∀y∈l.take j.toNat,y<gx 0 l j:=fun y hy=>by
      have:(l.take (j+1).toNat).Pairwise (· < ·):=hlt.take;rw[hts,List.pairwise_append]at this;exact this.2.2 y hy _ (List.mem_singleton.2 rfl)
     have hin:gx 0 l j∈l:=N0 (d:=(0:Int)) h0 h;rw[<-hg];generalize gx 0 l j=i at*;have hval:(J3 (.int .i64) i es).getD dQ=rc (A9w v (H i)):=by
      rcases hS.at i with h6| ⟨_,_,h6⟩
      . exact h6
      . exact absurd ((hmem i).1 hin) h6
     rw[hval];have hout:∀e∈out,e.1<i:=fun e he=>hlt2 _ (h4 e he)
     have hnil:D5 out i=0:=H7 fun e he hei=>by have:=hout e he;omega
     refine⟨fun p=>p.1.length<=(j+1).toNat/\B5p p.1/\(∀e∈p.1,e.1∈l.take (j+1).toNat)/\∀k∈l.take (j+1).toNat,D5 p.1 k=A9w v (H k),⟨⟨h0,h⟩,trivial, ?_⟩, ?_⟩
     . rintro⟨s,_⟩ _ hsg;simp only at hsg⊢;rw[A0t]at hsg;refine⟨fun hz=>⟨⟨by simp only[List.length_singleton];omega,by simp only[List.length_singleton];omega⟩,by show(out++ [(i,_)]).length<= _;simp;omega, ?_,fun e he=> ?_,fun k hk=> ?_⟩,fun hz=>⟨by show out.length<= _;omega,h3,fun e he=>by rw[hts];exact List.mem_append.2 (.inl (h4 e he)),fun k hk=> ?_⟩⟩
       . have hz:=of_decide_eq_true hz;exact C1p h3 (fun h0=>hz (by rw[hsg,h0];rfl)) hout
       . rw[hts];rcases List.mem_append.1 he with he|he
         . exact List.mem_append.2 (.inl (h4 e he))
         . rw[List.mem_singleton.1 he];exact List.mem_append.2 (.inr (List.mem_singleton.2 rfl))
       . show D5 (out++ [(i,rc (A9w v (H i)))]) k=A9w v (H k);rw[C3c];rw[hts]at hk;rcases List.mem_append.1 hk with hk|hk
         . have:=hlt2 k hk;rw[if_neg (by omega),Rat.add_zero,h5 k hk]
         . rw[List.mem_singleton.1 hk,if_pos rfl,hnil,Rat.zero_add]
       . have hz:=of_decide_eq_false hz;have hz0:A9w v (H i)=0:=D5q (by rw[<-hsg];exact Decidable.not_not.1 hz);rw[hts]at hk;show D5 out k=A9w v (H k);rcases List.mem_append.1 hk with hk|hk
         . exact h5 k hk
         . rw[List.mem_singleton.1 hk,hnil,hz0]
     . rintro⟨o,_⟩ _ ho;simp only at ho⊢;rw[wr (by omega) (by omega)];exact⟨⟨by omega,by omega,ho⟩,by omega⟩
   . have h:=of_decide_eq_false h;rw[E2 (by omega)]at h4 h5;refine⟨h3,fun i=> ?_⟩;show D5 out i=A9w v (H i);by_cases hi:i∈l
     . exact h5 i hi
     . rw[H7 fun e he hei=>hi (by rw[<-hei];exact h4 e he)];have:=hS.val i;rw[D8b fun h6=>hi ((hmem i).2 h6)]at this;exact E6x.symm.trans this
theorem C9h (x:A6 T6.args) (hw:awf T6.args x) (hp:T6.pre x):A9z x:=by
 obtain⟨⟨R,C,D⟩,⟨R',C',D'⟩,_⟩:=x;change Int at R C R' C';change List (List Ent)at D D';obtain⟨hs,hs',hC⟩:okM K0 (R,C,D)/\okM K0 (R',C',D')/\C<=1000:=hp;simp only[A9z];refine⟨trivial, ?_⟩;rintro⟨r,_⟩ _ hr;simp only at hr⊢;refine⟨fun _=>trivial, ?_⟩;rintro⟨s,_⟩ hs2;simp only at hs2⊢;rw[N4];by_cases hv:A7 (R,C,D)
 . have hr:r=true:=by rw[hr];exact decide_eq_true hv
   have hs2:=(hs2 (by rw[hr];rfl)).2;rw[hr,hs2];by_cases hv':A7 (R',C',D')
   . rw[decide_eq_true hv'];refine⟨fun h=>(by cases h),fun _=>⟨fun h=> ?_,fun h=> ?_⟩⟩
     . have h:=of_decide_eq_true h;exact⟨fun h=>absurd ⟨hv,hv'⟩ h,fun _=>⟨fun _=>⟨rfl,by trivial⟩,fun h2=>absurd h2 h⟩⟩
     . have h:=Decidable.not_not.1 (of_decide_eq_false h);obtain⟨v1,v2,v3,v4,_,_⟩:=id hv;have v5:(D.length:Int)=R:=hv.2.2.2.2.1;have v6:∀w∈D,J4 w C:=hv.2.2.2.2.2;have w3:0<=C':=hv'.2.2.1;have w5:(D'.length:Int)=R':=hv'.2.2.2.2.1;have w6:∀w∈D',J4 w C':=hv'.2.2.2.2.2;simp only at v1 v2 v3 v4;refine⟨⟨v1,Int.le_refl _,by omega,by omega⟩, ?_⟩;refine⟨fun p=>0<=p.1/\p.1<=R/\E3e R.toNat p.1.toNat (fun i=>isV C'.toNat fun j=>A5y C.toNat fun k=>el (R,C,D) i k*el (R',C',D') k j) p.2.1,fun p=>(R-p.1).toNat,⟨Int.le_refl _,v1,F0a List.length_replicate⟩, ?_⟩;rintro⟨k,rows,_⟩ _ ⟨k0,k1,hf⟩;change Int at k;change List (List Ent)at rows;simp only at k0 k1 hf⊢;have:=hf.1;refine⟨fun hk=> ?_,fun hk=> ?_⟩
       . have hk:=of_decide_eq_true hk;have hme:=N0 (d:=([]:List Ent)) k0 hk;rw[C7m k0 hk]at hme⊢;have hvr:=v6 _ hme;refine⟨⟨k0,hk⟩,⟨C1b hv hs hme,hs',hv',by rw[<-h];exact hvr,by omega⟩, ?_⟩;rintro⟨v,_⟩ _ hvv;simp only at hvv⊢;rw[wr (by omega) (by omega)];have hes:∀j:Int,A9w (D.getD k.toNat []) (fun k=>D5 (D'.getD k.toNat []) j)=A5y C.toNat fun l=>el (R,C,D) k.toNat l*D5 (D'.getD l []) j:=fun j=>by
          rw[G4i (n:=C.toNat) fun e he=>⟨(hvr.2 e he).1,by have:=(hvr.2 e he).2.1;omega⟩];exact C6m fun l _=>by rw[Int.toNat_natCast];rfl
         refine⟨⟨k0,by omega⟩,⟨by omega,by omega,C3g hf k0 (by omega) ?_⟩,by omega⟩;refine F5b hvv (fun j hj=> ?_) fun j _=> ?_
         . rw[hes];refine D3o fun l hl=> ?_
           rw[D1l (w6 _ (K6 (l:=D') (i:=l) (by omega))) (show¬(0<=j/\j<C')by omega),Rat.mul_zero]
         . rw[hes];rfl
       . have hk:=of_decide_eq_false hk;exact⟨fun h=>absurd ⟨hv,hv'⟩ h,fun _=>⟨fun h2=>absurd h h2,fun _=>⟨⟨by show R= _;omega,by show C'= _;omega,hf.1,fun i hi=>hf.2 i (by omega)⟩,by trivial⟩⟩⟩
   . rw[decide_eq_false hv'];exact⟨fun _=>⟨fun _=>⟨rfl,by trivial⟩,fun h=>absurd h.2 hv'⟩,fun h=>(by cases h)⟩
 . have hr:r=false:=by rw[hr];exact decide_eq_false hv
   rw[hr];exact⟨fun _=>⟨fun _=>⟨rfl,by trivial⟩,fun h=>absurd h.1 hv⟩,fun h=>(by simp at h)⟩
theorem A2g (x:A6 C6.args) (hw:awf C6.args x) (hp:C6.pre x):O3 x:=by
 obtain⟨l,⟨ok,φ⟩,_⟩:=x;have hl:l.length<=9223372036854775807:=hw.1.1;change List Int at l;have hp:∀i∈l,ok (i,()):=hp;simp only[O3];refine⟨fun p=>0<=p.1/\p.1<=(l.length:Int)/\∀y∈l.take p.1.toNat,φ (y,())=false,fun p=>((l.length:Int)-p.1).toNat,⟨Int.le_refl _,Int.natCast_nonneg _,by simp⟩, ?_⟩;rintro⟨i,_⟩ _ ⟨h0,h1,h2⟩;change Int at i;simp only at h0 h1 h2⊢;refine⟨fun h=> ?_,fun h=> ?_⟩
 . have h:=of_decide_eq_true h;refine⟨⟨h0,h⟩,by trivial,hp _ (N0 h0 h),fun _=>⟨fun ht=> ?_,fun hf=> ?_⟩⟩
   . have hfi:l.findIdx? (fun i=>φ (i,()))=some i.toNat:=by
      rw[List.findIdx?_eq_some_iff_getElem];have hg:=K9 (d:=(0:Int)) h0 h;have hlt:i.toNat<l.length:=by omega
      rw[List.getElem?_eq_getElem hlt]at hg;refine⟨hlt,by rw[Option.some.inj hg];exact ht,fun j hj=> ?_⟩;have:=h2 l[j] (List.mem_iff_getElem.2 ⟨j,by rw[List.length_take];omega,by simp⟩);simp[this]
     unfold G1d;rw[hfi];show i=((i.toNat:Nat):Int);omega
   . rw[wr (by omega) (by omega)];exact⟨⟨by omega,by omega,A0f h0 h h2 hf⟩,by omega⟩
 . have h:=of_decide_eq_false h;rw[E2 (by omega)]at h2;unfold G1d;have:l.findIdx? (fun i=>φ (i,()))=none:=by
    rw[List.findIdx?_eq_none_iff];exact h2
   rw[this]
theorem G2y (p:Int->Bool) (l:List Int):0<=G1d p l↔∃i,i∈l/\p i=true:=by
 unfold G1d;cases h:l.findIdx? p with
 |none=>
  rw[List.findIdx?_eq_none_iff]at h;constructor
  . intro h2;simp at h2
  . rintro⟨i,hi,hp⟩;have:=h i hi;rw[this]at hp;cases hp
 |some k=>
  rw[List.findIdx?_eq_some_iff_getElem]at h;obtain⟨hk,hp,_⟩:=h;exact⟨fun _=>⟨_,List.getElem_mem hk,hp⟩,fun _=>Int.natCast_nonneg _⟩
theorem A0r (x:A6 C0.args) (hw:awf C0.args x) (hp:C0.pre x):L3 x:=by
 obtain⟨l,⟨ok,φ⟩,_⟩:=x;change List Int at l;have hp:∀i∈l,ok (i,()):=hp;simp only[L3];refine⟨by trivial,by trivial,hp, ?_⟩;rintro⟨r,_⟩ _ hr;simp only at hr⊢;rw[hr];exact decide_eq_decide.2 (G2y _ _)
theorem A9g (x:A6 E7.args) (hw:awf E7.args x) (_:E7.pre x):Y1 x:=by
 simp only[Y1];rw[N4,Bool.decide_or]
theorem F5y {a b:List Ent} (h:a.Perm b) (j:Int):D5 a j=D5 b j:=by
 induction h with
 |nil=>rfl
 |cons e _ ih=>rw[D5,D5,ih]
 |swap e f l=>simp only[D5];rw[<-Rat.add_assoc, <-Rat.add_assoc,Rat.add_comm (if f.1=j then rv f.2 else 0)]
 |trans _ _ h1 h2=>rw[h1,h2]
theorem G2s {a b:Int} (h:¬C8t b a<0):a<=b:=by
 unfold C8t at h;split at h
 . omega
 . split at h<;>omega
theorem B8j (x:A6 N2.args) (hw:awf N2.args x) (hp:N2.pre x):A3q x:=by
 obtain⟨⟨R,C,D⟩,rows,cols,_⟩:=x;have hlm:F7r (R,C,D):=D1n hw.1.2.2.2;change Int at R C;change List (List Ent)at D;change List Int at rows cols;obtain⟨⟨hs,hlr,hlc⟩,hnd⟩:(okM K1 (R,C,D)/\rows.length<=1000/\cols.length<=1000)/\cols.Nodup:=by
  obtain⟨a,b,c,d⟩:=hp;exact⟨⟨a,b,c⟩,d⟩
 simp only[A3q];refine⟨trivial, ?_⟩;rintro⟨r,_⟩ _ hr;simp only at hr⊢;by_cases hv:A7 (R,C,D)
 . have hr:r=true:=by rw[hr];exact decide_eq_true hv
   rw[hr];obtain⟨v1,v2,v3,v4,_,_⟩:=id hv;have v5:(D.length:Int)=R:=hv.2.2.2.2.1;have v6:∀w∈D,J4 w C:=hv.2.2.2.2.2;simp only at v1 v2 v3 v4;refine⟨fun h=>(by cases h),fun _=>⟨by trivial,by trivial,fun _ _=>trivial, ?_⟩⟩;rintro⟨b1,_⟩ _ hb1;simp only at hb1⊢;refine⟨by trivial,by trivial,fun _ _ _=>trivial, ?_⟩;rintro⟨b2,_⟩ hb2;simp only at hb2⊢;rw[N4];have key:(b1||b2)=true↔((∃i,i∈rows/\(i<0\/R<=i))\/∃i,i∈cols/\(i<0\/C<=i)):=by
    by_cases h1:∃i,i∈rows/\(i<0\/R<=i)
    . have:b1=true:=by
       rw[hb1];obtain⟨i,hi,hc⟩:=h1;exact decide_eq_true ⟨i,hi,decide_eq_true hc⟩
      rw[this];exact⟨fun _=> .inl h1,fun _=>rfl⟩
    . have h1':b1=false:=by
       rw[hb1];exact decide_eq_false fun⟨i,hi,hc⟩=>h1 ⟨i,hi,of_decide_eq_true hc⟩
      have hb2:=(hb2 h1').2;rw[h1',Bool.false_or,hb2];constructor
      . intro h;obtain⟨i,hi,hc⟩:=of_decide_eq_true h;exact .inr ⟨i,hi,of_decide_eq_true hc⟩
      . rintro(h| ⟨i,hi,hc⟩)
        . exact absurd h h1
        . exact decide_eq_true ⟨i,hi,decide_eq_true hc⟩
   refine⟨fun h=> ?_,fun h=>⟨trivial, ?_⟩⟩
   . have h:=key.1 h;exact⟨fun h2=>absurd hv h2,fun _=>⟨fun _=>⟨rfl,by trivial⟩,fun h2=>absurd h h2⟩⟩
   have hnot:¬((∃i,i∈rows/\(i<0\/R<=i))\/∃i,i∈cols/\(i<0\/C<=i)):=fun h2=>by rw[key.2 h2]at h;cases h
   have hrows:∀i∈rows,0<=i/\i<R:=fun i hi=>Decidable.byContradiction fun hn=>hnot (.inl ⟨i,hi,by omega⟩)
   have hcols:∀i∈cols,0<=i/\i<C:=fun i hi=>Decidable.byContradiction fun hn=>hnot (.inr ⟨i,hi,by omega⟩)
   rintro⟨b3,_⟩ _ hb3;simp only at hb3⊢;refine⟨fun _=>trivial, ?_⟩;rintro⟨b4,_⟩ hb4;simp only at hb4⊢;have h3:b3=true:=by rw[hb3];exact decide_eq_true ⟨by omega,by omega⟩
   have h4:b4=true:=by rw[(hb4 (by rw[h3];rfl)).2];exact decide_eq_true ⟨by omega,by omega⟩
   rw[h3,h4];refine⟨fun h=>(by cases h),fun _=> ?_⟩;clear hb1 hb2 hb3 hb4 key h;refine⟨fun p=>0<=p.1/\p.1<=(cols.length:Int)/\(∀k:Nat,k<p.1.toNat->J3 (.int .i64) (cols.getD k 0) p.2.1=some [(k:Int)])/\∀c,c∉cols.take p.1.toNat->J3 (.int .i64) c p.2.1=Option.none,fun p=>((cols.length:Int)-p.1).toNat,⟨Int.le_refl _,Int.natCast_nonneg _,fun k hk=>by simp at hk,fun _ _=>rfl⟩, ?_⟩;rintro⟨i,es,_⟩ _ ⟨i0,i1,hm1,hm2⟩;change Int at i;change List (Int×List Int)at es;simp only at i0 i1 hm1 hm2⊢;refine⟨fun hi=> ?_,fun hi=> ?_⟩
   . have hi:=of_decide_eq_true hi;have hg:=V5 (d:=(0:Int)) i0 hi;have hlt:i.toNat<cols.length:=by omega
     have hts:cols.take (i+1).toNat=cols.take i.toNat++ [cols.getD i.toNat 0]:=by
      rw[show(i+1).toNat=i.toNat+1 from by omega,List.take_add_one,List.getElem?_eq_getElem hlt,B2k _ _ hlt];rfl
     have hnin:cols.getD i.toNat 0∉cols.take i.toNat:=fun hin=>by
      have h1:(cols.take (i+1).toNat).Nodup:=hnd.take;rw[hts,List.nodup_append]at h1;exact h1.2.2 _ hin _ (List.mem_singleton.2 rfl) rfl
     rw[hg,wr (by omega) (by omega)];refine⟨⟨i0,hi⟩,hm2 _ hnin,⟨by simp only[List.length_singleton];omega,by simp only[List.length_singleton];omega⟩,⟨by omega,by omega,fun k hk=> ?_,fun c hc=> ?_⟩,by omega⟩
     . show J3 (.int .i64) (cols.getD k 0) (C5l (.int .i64) (cols.getD i.toNat 0) [i] es)= _;rw[C0t];by_cases hk2:k=i.toNat
       . rw[if_pos (by rw[hk2]),hk2,show((i.toNat:Nat):Int)=i from by omega]
       . have hk3:k<i.toNat:=by have hk:k<(i+1).toNat:=hk;omega
         rw[if_neg,hm1 k hk3];intro he;apply hnin;rw[<-he,B2k _ _ (show k<cols.length by omega)];exact List.mem_iff_getElem.2 ⟨k,by rw[List.length_take];omega,by simp⟩
     . show J3 (.int .i64) c (C5l (.int .i64) (cols.getD i.toNat 0) [i] es)= _;have hc:c∉cols.take (i+1).toNat:=hc;rw[hts,List.mem_append,List.mem_singleton,not_or]at hc;rw[C0t,if_neg hc.2,hm2 c hc.1]
   . have hi:=of_decide_eq_false hi;rw[E2 (by omega)]at hm2;have hin:i.toNat=cols.length:=by omega
     rw[hin]at hm1;rw[Int.toNat_natCast];refine⟨⟨by omega,Int.le_refl _,by omega,by omega⟩,fun p=>0<=p.1/\p.1<=(rows.length:Int)/\E3e rows.length p.1.toNat (fun i=>isV cols.length fun j=>el (R,C,D) (rows.getD i 0).toNat (cols.getD j 0).toNat) p.2.1,fun p=>((rows.length:Int)-p.1).toNat,⟨Int.le_refl _,Int.natCast_nonneg _,F0a List.length_replicate⟩, ?_⟩;rintro⟨k,out,_⟩ _ ⟨k0,k1,hf⟩;change Int at k;change List (List Ent)at out;simp only at k0 k1 hf⊢;have hol:=hf.1;refine⟨fun hk=> ?_,fun hk=> ?_⟩
     . have hk:=of_decide_eq_true hk;have hg:=V5 (d:=(0:Int)) k0 hk;have hri:=hrows _ (N0 (d:=(0:Int)) k0 hk);rw[hg]at hri⊢;have hfs:∀ {w:List Ent},isV cols.length (fun j=>el (R,C,D) (rows.getD k.toNat 0).toNat (cols.getD j 0).toNat) w->E3e rows.length (k+1).toNat (fun i=>isV cols.length fun j=>el (R,C,D) (rows.getD i 0).toNat (cols.getD j 0).toNat) (out.set k.toNat w):=fun {w} hw2=>C3g hf k0 hk hw2
       generalize rows.getD k.toNat 0=ri' at*;have hrD:ri'<(D.length:Int):=by omega
       rw[C7m hri.1 hrD];have hme:D.getD ri'.toNat []∈D:=K6 (by omega);have hrow:=C1b hv hs hme;have hvr:=v6 _ hme;have hcmp:∀c:Int,0<=c->D5 (D.getD ri'.toNat []) c=el (R,C,D) ri'.toNat c.toNat:=fun c hc=>E1p _ _ hc
       generalize D.getD ri'.toNat []=row at*;have hrl:=hrow.2.2;refine⟨⟨k0,hk⟩,⟨hri.1,hrD⟩,fun p=>0<=p.2.1/\p.2.1<=(row.length:Int)/\p.1.length<=p.2.1.toNat/\(p.1.map fun e=>e.1).Nodup/\(∀x∈p.1,∃q:Nat,q<cols.length/\x.1=(q:Int)/\(∃y∈row.take p.2.1.toNat,y.1=cols.getD q 0)/\rv x.2≠0/\x.2=rc (rv x.2))/\∀j:Nat,j<cols.length->D5 p.1 (j:Int)=D5 (row.take p.2.1.toNat) (cols.getD j 0),fun p=>((row.length:Int)-p.2.1).toNat,⟨Int.le_refl _,Int.natCast_nonneg _,Nat.le_refl _,List.nodup_nil,fun _ h=>(by cases h),fun j _=>rfl⟩, ?_⟩;rintro⟨o,t,_⟩ _ ⟨t0,t1,o1,o2,o3,o4⟩;change List Ent at o;change Int at t;simp only at t0 t1 o1 o2 o3 o4⊢;refine⟨fun ht=> ?_,fun ht=> ?_⟩
       . have ht:=of_decide_eq_true ht;have hem:=N0 (d:=dEE) t0 ht;obtain⟨e0,e1,ez⟩:=hvr.2 _ hem;have hse:=hrow.2.1 _ hem;have hct:=E3b (d:=dEE) t0 ht;have hbef:∀y∈row.take t.toNat,y.1≠(gx dEE row t).1:=fun x hx hxe=>by
          have h1:(row.take (t+1).toNat).Pairwise (fun a b=>a.1<b.1):=hrow.1.take;rw[show(t+1).toNat=t.toNat+1 from by omega,List.take_add_one,K9 (d:=dEE) t0 ht,List.pairwise_append]at h1;have:=h1.2.2 x hx (gx dEE row t) (by simp);omega
         have hsub:∀y∈row.take t.toNat,y∈row.take (t+1).toNat:=fun y hy=>by
          rw[show(t+1).toNat=t.toNat+1 from by omega,List.take_add_one];exact List.mem_append.2 (.inl hy)
         have hnew:gx dEE row t∈row.take (t+1).toNat:=by
          rw[show(t+1).toNat=t.toNat+1 from by omega,List.take_add_one,K9 (d:=dEE) t0 ht];simp
         generalize gx dEE row t=e at*;have hL:(J3 (.int .i64) e.1 es).getD []= []/\e.1∉cols\/∃q:Nat,q<cols.length/\cols.getD q 0=e.1/\(J3 (.int .i64) e.1 es).getD []= [(q:Int)]:=by
          by_cases hc:e.1∈cols
          . obtain⟨q,hq,hqe⟩:=B4t 0 hc;have:=hm1 q hq;rw[hqe]at this;exact .inr ⟨q,hq,hqe,by rw[this];rfl⟩
          . exact .inl ⟨by rw[hm2 _ hc];rfl,hc⟩
         generalize (J3 (.int .i64) e.1 es).getD []=L at*;have hLl:L.length<=1:=by
          rcases hL with⟨h,_⟩ | ⟨q,_,_,h⟩<;>rw[h]<;>simp
         refine⟨⟨t0,ht⟩,fun p=>0<=p.2.1/\p.2.1<=(L.length:Int)/\p.1=o++(L.take p.2.1.toNat).map fun q=>(q,rc (rv e.2)),fun p=>((L.length:Int)-p.2.1).toNat,⟨Int.le_refl _,Int.natCast_nonneg _,by simp⟩, ?_⟩;rintro⟨o',u,_⟩ _ ⟨u0,u1,ho'⟩;change List Ent at o';change Int at u;simp only at u0 u1 ho'⊢;have hol':o'.length<=o.length+1:=by
          rw[ho',List.length_append,List.length_map,List.length_take];omega
         refine⟨fun hu=> ?_,fun hu=> ?_⟩
         . have hu:=of_decide_eq_true hu;refine⟨⟨u0,hu⟩,A6n hse (by decide), ?_⟩;rintro⟨q,_⟩ _ hq;simp only at hq⊢;rw[wr (by omega) (by omega)];refine⟨⟨by simp only[List.length_singleton];omega,by simp only[List.length_singleton];omega⟩,⟨by omega,by omega, ?_⟩,by omega⟩;rw[ho',hq,show(u+1).toNat=u.toNat+1 from by omega,List.take_add_one,K9 (d:=(0:Int)) u0 hu,List.map_append,List.append_assoc];rfl
         . have hu:=of_decide_eq_false hu;rw[E2 (l:=L) (i:=u) (by omega)]at ho';rw[wr (by omega) (by omega)];have hcj:∀j:Nat,j<cols.length->D5 (row.take (t+1).toNat) (cols.getD j 0)=D5 (row.take t.toNat) (cols.getD j 0)+if e.1=cols.getD j 0 then rv e.2 else 0:=fun j _=>hct _
           have hmono:∀x∈o,∃q:Nat,q<cols.length/\x.1=(q:Int)/\(∃y∈row.take (t+1).toNat,y.1=cols.getD q 0)/\rv x.2≠0/\x.2=rc (rv x.2):=fun x hx=>by
            obtain⟨q,h1,h2,⟨y,hy,h3⟩,h4,h5⟩:=o3 x hx;exact⟨q,h1,h2,⟨y,hsub y hy,h3⟩,h4,h5⟩
           rcases hL with⟨hL,hnc⟩ | ⟨q,hq,hqe,hL⟩
           . rw[hL,List.map_nil,List.append_nil]at ho';subst ho';refine⟨⟨by omega,by omega,by omega,o2,hmono,fun j hj=> ?_⟩,by omega⟩;rw[o4 j hj,hcj j hj,if_neg (fun h=>hnc (by rw[h];exact K6 hj)),Rat.add_zero]
           . rw[hL,List.map_cons,List.map_nil]at ho';subst ho';refine⟨⟨by omega,by omega,by omega, ?_,fun x hx=> ?_,fun j hj=> ?_⟩,by omega⟩
             . show((o++ [((q:Int),rc (rv e.2))]).map fun e:Ent=>e.1).Nodup;rw[List.map_append,List.nodup_append];refine⟨o2,by simp,fun a ha b hb hab=> ?_⟩;obtain⟨x,hx,rfl⟩:=List.mem_map.1 ha;simp only[List.map_cons,List.map_nil,List.mem_singleton]at hb;obtain⟨q',h1,h2,⟨y,hy,h3⟩,_⟩:=o3 x hx;have:q'=q:=by omega
               subst this;exact hbef y hy (by rw[h3,hqe])
             . rcases List.mem_append.1 hx with hx|hx
               . exact hmono x hx
               . rw[List.mem_singleton.1 hx];exact⟨q,hq,rfl,⟨e,hnew,hqe.symm⟩,by rw[A0t];exact ez,by rw[A0t]⟩
             . show D5 (o++ [((q:Int),rc (rv e.2))]) (j:Int)= _;rw[C3c,o4 j hj,hcj j hj];congr 1;by_cases hqj:q=j
               . subst hqj;rw[if_pos rfl,if_pos hqe.symm]
               . rw[if_neg (by omega),if_neg];intro h6;apply hqj;have h7:cols.getD q 0=cols.getD j 0:=hqe.trans h6;rw[B2k _ _ hq,B2k _ _ hj]at h7;exact(List.getElem_inj hnd).1 h7
       . have ht:=of_decide_eq_false ht;rw[E2 (by omega)]at o4;refine⟨by omega,fun l' _ hpm hst=> ?_⟩;have hst:l'.Pairwise fun a b:Ent=>¬C8t b.1 a.1<0:=hst
         rw[wr (by omega) (by omega)];refine⟨⟨k0,by omega⟩,⟨by omega,by omega,hfs ?_⟩,by omega⟩;have hnd2:(l'.map fun e:Ent=>e.1).Nodup:=(hpm.map _).nodup_iff.2 o2;have hasc:asc l':=by
          unfold List.Nodup at hnd2;rw[List.pairwise_map]at hnd2;refine List.Pairwise.imp₂ ?_ hst hnd2;intro a b h1 h2;have:=G2s h1;omega
         have hx:∀x∈l',∃q:Nat,q<cols.length/\x.1=(q:Int)/\rv x.2≠0/\x.2=rc (rv x.2):=fun x hx=>by
          obtain⟨q,h1,h2,_,h4,h5⟩:=o3 x (hpm.mem_iff.1 hx);exact⟨q,h1,h2,h4,h5⟩
         refine⟨⟨hasc,fun x hx'=> ?_⟩,fun x hx'=> ?_,fun j hj=> ?_⟩
         . obtain⟨q,_,_,h4,h5⟩:=hx x hx';exact⟨h4,h5⟩
         . obtain⟨q,h1,h2,_⟩:=hx x hx';omega
         . rw[F5y hpm,o4 j hj];exact hcmp _ (hcols _ (K6 hj)).1
     . have hk:=of_decide_eq_false hk;exact⟨fun h=>absurd hv h,fun _=>⟨fun h2=>absurd h2 hnot,fun _=>⟨fun h2=>absurd h2 (by omega),fun _=>⟨⟨rfl,rfl,hf.1,fun i hi=>hf.2 i (by omega)⟩,by trivial⟩⟩⟩⟩
 . have hr:r=false:=by rw[hr];exact decide_eq_false hv
   rw[hr];exact⟨fun _=>⟨fun _=>⟨rfl,by trivial⟩,fun h=>absurd h hv⟩,fun h=>(by cases h)⟩
def E2t:An:= {loop:= [(4,⟨[1],[0],[(3,false,[.val (.int .i64)])],[],[]⟩)],plan:= [(6,[1,4,6],[],true,(.p 0 (.q 1 (.p 2 (.p 3 (.q 4 (.p 5 (.q 6 (.e 7 (.p 8 .done))))))))))]}
def C7p:B4:= [(104,U9)]
def E6f:An:= {loop:= [(3,⟨[0,4,5],[0],[(6,false,[.val (.int .i64)])],[(1,24,[.val (.int .i64), .val (.int .i64), .own (.sl tE) 92])],[]⟩)],plan:= [(5,[1,5],[8,10],false,(.p 0 (.q 1 (.p 2 (.p 3 (.p 4 (.q 5 (.e 6 (.e 7 (.e 8 (.p 9 (.e 10 .done))))))))))))]}
def D0t:B4:= [(105,M8)]
def D1g:An:= {loop:= [(3,⟨[1,3],[0],[(4,false,[.val (.int .i64)])],[],[(1, .row (.sl tQ) 56)]⟩)],plan:= [(5,[3,6,8],[14],true,(.p 0 (.p 1 (.p 2 (.q 3 (.p 4 (.p 5 (.q 6 (.p 7 (.q 8 (.e 9 (.p 10 (.p 11 (.p 12 (.p 13 (.e 14 .done))))))))))))))))]}
def B2z:B4:= [(131,V8)]
def C8w:An:= {loop:= [(4,⟨[2,3],[0,1],[(5,false,[.val (.int .i64)])],[],[]⟩)],plan:= [(6,[1,4,6,9],[],true,(.p 0 (.q 1 (.p 2 (.p 3 (.q 4 (.p 5 (.q 6 (.p 7 (.p 8 (.q 9 (.e 10 (.p 11 .done)))))))))))))]}
def B0p:B4:= [(126,M6)]
def C9g:An:= {loop:= [(4,⟨[0,1,4],[0],[(6,false,[.val (.int .i64)])],[],[]⟩)]}
def B0w:B4:= [(78,T0)]
def F7g:An:= {}
def E3u:B4:= [(41,V2),(75,P9),(120,Z7)]
def B2j:A6 V2.args->Prop:=fun(x:MM×Unit)=>(sel (sel (sel (sel (decide (x.1.1<0)) true (decide (16384<x.1.1))) true (decide (x.1.2.1<0))) true (decide (16384<x.1.2.1))) true (decide ((x.1.2.2.length:Int)≠x.1.1))=true->false=decide (A7 x.1))/\(sel (sel (sel (sel (decide (x.1.1<0)) true (decide (16384<x.1.1))) true (decide (x.1.2.1<0))) true (decide (16384<x.1.2.1))) true (decide ((x.1.2.2.length:Int)≠x.1.1))=false->∃(I:Int×Unit->Prop),∃(μ:Int×Unit->Nat),I ((0:Int),())/\∀(p:Int×Unit),E5 p.1/\True->I p->(decide (p.1<x.1.1)=true->(0<=p.1/\p.1<(x.1.2.2.length:Int))/\szV K1 (gx [] x.1.2.2 p.1)/\∀(r:Bool×Unit),True/\True->r.1=decide (J4 (gx [] x.1.2.2 p.1) x.1.2.1)->((!r.1)=true->false=decide (A7 x.1))/\((!r.1)=false->I (IntKind.i64.wrap (p.1+1),())/\μ (IntKind.i64.wrap (p.1+1),())<μ p))/\(decide (p.1<x.1.1)=false->true=decide (A7 x.1)))
theorem D2q (x:A6 V2.args):I2 Tryz.prog tys C7p E2t V2 Tryz.f41 x=B2j x:=by kernel_rfl
def B8v:A6 T0.args->Prop:=fun(x:List (List QQ)×Int×Unit)=>∃(I:Int×Int×Int×List (List EE)×Unit->Prop),∃(μ:Int×Int×Int×List (List EE)×Unit->Nat),I ((0:Int),(x.1.length:Int),x.2.1,[],())/\∀(p:Int×Int×Int×List (List EE)×Unit),E5 p.1/\E5 p.2.1/\E5 p.2.2.1/\G2a p.2.2.2.1/\True->I p->(decide (p.1<(x.1.length:Int))=true->(0<=p.1/\p.1<(x.1.length:Int))/\((gx [] x.1 p.1).length<=(100000:Nat)/\szL K1 (gx [] x.1 p.1))/\∀(r:List EE×Unit),B1h r.1/\True->isV (gx [] x.1 p.1).length (fun(j:Nat)=>rv ((gx [] x.1 p.1).getD j zr)) r.1->((List.length p.2.2.2.1+ [r.1].length)*(24:Nat)<=(140737488355328:Nat)/\List.length p.2.2.2.1+ [r.1].length<=9223372036854775807)/\I (IntKind.i64.wrap (p.1+1),p.2.1,p.2.2.1,p.2.2.2.1++ [r.1],())/\μ (IntKind.i64.wrap (p.1+1),p.2.1,p.2.2.1,p.2.2.2.1++ [r.1],())<μ p)/\(decide (p.1<(x.1.length:Int))=false->p.2.1=(↑x.1.length:Int)/\p.2.2.1=(↑x.2.1.toNat:Int)/\List.length p.2.2.2.1=x.1.length/\∀(i:Nat),i<x.1.length->B5p (List.getD p.2.2.2.1 i [])/\(∀(e:Ent),e∈List.getD p.2.2.2.1 i []->0<=e.1/\e.1<(↑x.2.1.toNat:Int))/\∀(j:Nat),j<x.2.1.toNat->D5 (List.getD p.2.2.2.1 i []) (↑j:Int)=rv ((x.1.getD i []).getD j zr))
theorem D5v (x:A6 T0.args):I2 Tryz.prog tys D0t E6f T0 Tryz.f78 x=B8v x:=by kernel_rfl
def A4w:A6 L5.args->Prop:=fun(x:MM×Unit)=>(0<=x.1.1/\x.1.1<=x.1.1/\(↑(24:Nat):Int)*x.1.1<=281474976710656/\x.1.1<=9223372036854775807)/\∃(I:Int×List (List QQ)×Unit->Prop),∃(μ:Int×List (List QQ)×Unit->Nat),I ((0:Int),List.replicate (Int.toNat x.1.1) [],())/\∀(p:Int×List (List QQ)×Unit),E5 p.1/\E4c p.2.1/\True->I p->(decide (p.1<x.1.1)=true->(0<=p.1/\p.1<(x.1.2.2.length:Int))/\(okV K1 (gx [] x.1.2.2 p.1)/\J4 (gx [] x.1.2.2 p.1) x.1.2.1/\0<=x.1.2.1/\x.1.2.1<=16384)/\∀(r:List QQ×Bool×Unit),WfL r.1/\True/\True->r.1=dl x.1.2.1 (D5 (gx [] x.1.2.2 p.1))/\r.2.1=true->(0<=p.1/\p.1<(p.2.1.length:Int))/\I (IntKind.i64.wrap (p.1+1),List.set p.2.1 (Int.toNat p.1) r.1,())/\μ (IntKind.i64.wrap (p.1+1),List.set p.2.1 (Int.toNat p.1) r.1,())<μ p)/\(decide (p.1<x.1.1)=false->p.2.1=els x.1)
theorem C0z (x:A6 L5.args):I2 Tryz.prog tys B2z D1g L5 Tryz.f65 x=A4w x:=by kernel_rfl
def A3z:A6 H6.args->Prop:=fun(x:MM×MM×Unit)=>(sel (sel (decide (x.1.1≠x.2.1.1)) true (decide (x.1.2.1≠x.2.1.2.1))) true (decide ((x.1.2.2.length:Int)≠(x.2.1.2.2.length:Int)))=true->(false=true↔x.1=x.2.1/\∀(v:List EE),v∈x.1.2.2->∀(e:EE),e∈v->e.2=rc (rv e.2)))/\(sel (sel (decide (x.1.1≠x.2.1.1)) true (decide (x.1.2.1≠x.2.1.2.1))) true (decide ((x.1.2.2.length:Int)≠(x.2.1.2.2.length:Int)))=false->∃(I:Int×Unit->Prop),∃(μ:Int×Unit->Nat),I ((0:Int),())/\∀(p:Int×Unit),E5 p.1/\True->I p->(decide (p.1<(x.1.2.2.length:Int))=true->(0<=p.1/\p.1<(x.1.2.2.length:Int))/\(0<=p.1/\p.1<(x.2.1.2.2.length:Int))/\szV K1 (gx [] x.1.2.2 p.1)/\∀(r:Bool×Unit),True/\True->r.1=decide (gx [] x.1.2.2 p.1=gx [] x.2.1.2.2 p.1/\∀(e:EE),e∈gx [] x.1.2.2 p.1->e.2=rc (rv e.2))->((!r.1)=true->(false=true↔x.1=x.2.1/\∀(v:List EE),v∈x.1.2.2->∀(e:EE),e∈v->e.2=rc (rv e.2)))/\((!r.1)=false->I (IntKind.i64.wrap (p.1+1),())/\μ (IntKind.i64.wrap (p.1+1),())<μ p))/\(decide (p.1<(x.1.2.2.length:Int))=false->(true=true↔x.1=x.2.1/\∀(v:List EE),v∈x.1.2.2->∀(e:EE),e∈v->e.2=rc (rv e.2))))
theorem B7v (x:A6 H6.args):I2 Tryz.prog tys B0p C8w H6 Tryz.f58 x=A3z x:=by kernel_rfl
def A3t:A6 L9.args->Prop:=fun(x:List (List QQ)×Int×Unit)=>(sel (sel (decide (x.2.1<0)) true (decide (16384<x.2.1))) true (decide ((16384:Int)<(x.1.length:Int)))=true->(¬(0<=x.2.1/\x.2.1<=16384)\/16384<x.1.length->((0:Int),(0:Int),[])=zm/\(3:Int)=(3:Int))/\((0<=x.2.1/\x.2.1<=16384)/\x.1.length<=(16384:Nat)->((∃(l:List QQ),l∈x.1/\(↑l.length:Int)≠x.2.1)->((0:Int),(0:Int),[])=zm/\(3:Int)=(4:Int))/\((∀(l:List QQ),l∈x.1->(↑l.length:Int)=x.2.1)->isM x.1.length x.2.1.toNat (fun(i j:Nat)=>rv ((x.1.getD i []).getD j zr)) ((0:Int),(0:Int),[])/\(3:Int)=(0:Int))))/\(sel (sel (decide (x.2.1<0)) true (decide (16384<x.2.1))) true (decide ((16384:Int)<(x.1.length:Int)))=false->∃(I:Int×Unit->Prop),∃(μ:Int×Unit->Nat),I ((0:Int),())/\∀(p:Int×Unit),E5 p.1/\True->I p->(decide (p.1<(x.1.length:Int))=true->(0<=p.1/\p.1<(x.1.length:Int))/\(decide ((↑(gx [] x.1 p.1).length:Int)≠x.2.1)=true->(¬(0<=x.2.1/\x.2.1<=16384)\/16384<x.1.length->((0:Int),(0:Int),[])=zm/\(4:Int)=(3:Int))/\((0<=x.2.1/\x.2.1<=16384)/\x.1.length<=(16384:Nat)->((∃(l:List QQ),l∈x.1/\(↑l.length:Int)≠x.2.1)->((0:Int),(0:Int),[])=zm/\(4:Int)=(4:Int))/\((∀(l:List QQ),l∈x.1->(↑l.length:Int)=x.2.1)->isM x.1.length x.2.1.toNat (fun(i j:Nat)=>rv ((x.1.getD i []).getD j zr)) ((0:Int),(0:Int),[])/\(4:Int)=(0:Int))))/\(decide ((↑(gx [] x.1 p.1).length:Int)≠x.2.1)=false->I (IntKind.i64.wrap (p.1+1),())/\μ (IntKind.i64.wrap (p.1+1),())<μ p))/\(decide (p.1<(x.1.length:Int))=false->((∀(l:List QQ),l∈x.1->szL K1 l/\(↑l.length:Int)=x.2.1)/\0<=x.2.1/\x.2.1<=16384/\List.length x.1<=16384)/\∀(r:MM×Unit),WfM r.1/\True->isM (List.length x.1) (Int.toNat x.2.1) (fun(i j:Nat)=>rv ((List.getD x.1 i []).getD j zr)) r.1->(¬(0<=x.2.1/\x.2.1<=16384)\/16384<x.1.length->r.1=zm/\(0:Int)=(3:Int))/\((0<=x.2.1/\x.2.1<=16384)/\x.1.length<=(16384:Nat)->((∃(l:List QQ),l∈x.1/\(↑l.length:Int)≠x.2.1)->r.1=zm/\(0:Int)=(4:Int))/\((∀(l:List QQ),l∈x.1->(↑l.length:Int)=x.2.1)->isM x.1.length x.2.1.toNat (fun(i j:Nat)=>rv ((x.1.getD i []).getD j zr)) r.1/\(0:Int)=(0:Int)))))
theorem B8z (x:A6 L9.args):I2 Tryz.prog tys B0w C9g L9 Tryz.f64 x=A3t x:=by kernel_rfl
def D3f:A6 A6k.args->Prop:=fun(x:MM×Int×Int×Unit)=>okM K1 x.1/\∀(r:Bool×Unit),True/\True->r.1=decide (A7 x.1)->(sel (sel (sel (sel (!r.1) true (decide (x.2.1<0))) true (decide (x.1.1<=x.2.1))) true (decide (x.2.2.1<0))) true (decide (x.1.2.1<=x.2.2.1))=true->True/\∀(r:QQ×Unit),WfQ r.1/\True->r.1=rc (0:Rat)->r.1=rc (if A7 x.1/\0<=x.2.1/\x.2.1<x.1.1/\0<=x.2.2.1/\x.2.2.1<x.1.2.1 then el x.1 x.2.1.toNat x.2.2.1.toNat else(0:Rat)))/\(sel (sel (sel (sel (!r.1) true (decide (x.2.1<0))) true (decide (x.1.1<=x.2.1))) true (decide (x.2.2.1<0))) true (decide (x.1.2.1<=x.2.2.1))=false->(0<=x.2.1/\x.2.1<(x.1.2.2.length:Int))/\okV K1 (gx [] x.1.2.2 x.2.1)/\∀(r:QQ×Unit),WfQ r.1/\True->r.1=rc (D5 (gx [] x.1.2.2 x.2.1) x.2.2.1)->r.1=rc (if A7 x.1/\0<=x.2.1/\x.2.1<x.1.1/\0<=x.2.2.1/\x.2.2.1<x.1.2.1 then el x.1 x.2.1.toNat x.2.2.1.toNat else(0:Rat)))
theorem E5k (x:A6 A6k.args):I2 Tryz.prog tys E3u F7g A6k Tryz.f51 x=D3f x:=by kernel_rfl
theorem D3c (x:A6 V2.args) (hw:awf V2.args x) (hp:V2.pre x):B2j x:=by
 obtain⟨⟨R,C,D⟩,_⟩:=x;have hD:D.length<=9223372036854775807:=hw.1.2.2.1;change Int at R C;change List (List Ent)at D;have hs:okM K1 (R,C,D):=hp;simp only[B2j];simp only[N4];refine⟨fun h=> ?_,fun h=> ?_⟩
 . refine(decide_eq_false fun hv=> ?_).symm;obtain⟨v1,v2,v3,v4,v5,_⟩:=hv;simp only at v1 v2 v3 v4 v5;simp only[Bool.or_eq_true,decide_eq_true_eq]at h;omega
 . simp only[Bool.or_eq_false_iff,decide_eq_false_iff_not,Decidable.not_not]at h;obtain⟨⟨⟨⟨a,b⟩,c⟩,d⟩,e⟩:=h;refine⟨fun p=>0<=p.1/\∀v∈D.take p.1.toNat,J4 v C,fun p=>(R-p.1).toNat,⟨Int.le_refl _,by simp⟩, ?_⟩;rintro⟨i,_⟩ _ ⟨h0,h1⟩;change Int at i;simp only at h0 h1⊢;refine⟨fun hi=> ?_,fun hi=> ?_⟩
   . have hi:=of_decide_eq_true hi;have hiD:i<(D.length:Int):=by omega
     have hme:=N0 (d:=([]:List Ent)) h0 hiD;refine⟨⟨h0,hiD⟩,hs _ hme, ?_⟩;rintro⟨q,_⟩ _ hq;simp only at hq⊢;refine⟨fun h2=> ?_,fun h2=> ?_⟩
     . refine(decide_eq_false fun hv=> ?_).symm;rw[hq,decide_eq_true (hv.2.2.2.2.2 _ hme)]at h2;cases h2
     . rw[hq]at h2;have h2:decide (J4 (gx [] D i) C)=true:=by simpa using h2
       rw[wr (by omega) (by omega)];exact⟨⟨by omega,A0f (d:=([]:List Ent)) (q:=fun v=>J4 v C) h0 hiD h1 (of_decide_eq_true h2)⟩,by omega⟩
   . have hi:=of_decide_eq_false hi;rw[E2 (by omega)]at h1;exact(decide_eq_true (show A7 (R,C,D)from⟨by show 0<=R;omega,by show R<= _;omega,by show 0<=C;omega,by show C<= _;omega,e,h1⟩)).symm
theorem D4o (x:A6 T0.args) (hw:awf T0.args x) (hp:T0.pre x):B8v x:=by
 obtain⟨D,C,_⟩:=x;change List (List N8)at D;change Int at C;obtain⟨hs,c0,c1,hl⟩:(∀l∈D,szL K1 l/\(l.length:Int)=C)/\0<=C/\C<=16384/\D.length<=16384:=hp;simp only[B8v];refine⟨fun p=>0<=p.1/\p.1<=(D.length:Int)/\p.2.1=(D.length:Int)/\p.2.2.1=C/\p.2.2.2.1.length=p.1.toNat/\∀i,i<p.1.toNat->isV C.toNat (fun j=>rv ((D.getD i []).getD j zr)) (p.2.2.2.1.getD i []),fun p=>((D.length:Int)-p.1).toNat,⟨Int.le_refl _,Int.natCast_nonneg _,rfl,rfl,rfl,fun i hi=>by simp at hi⟩, ?_⟩;rintro⟨i,a,b,rows,_⟩ _ ⟨i0,i1,ha,hb,hrl,hf⟩;change Int at i a b;change List (List Ent)at rows;simp only at i0 i1 ha hb hrl hf⊢;refine⟨fun h=> ?_,fun h=> ?_⟩
 . have h:=of_decide_eq_true h;have hme:=N0 (d:=([]:List N8)) i0 h;obtain⟨h1,h2⟩:=hs _ hme;refine⟨⟨i0,h⟩,⟨by omega,h1⟩, ?_⟩;rintro⟨v,_⟩ _ hv;simp only at hv⊢;rw[wr (by omega) (by omega)];rw[show(gx [] D i).length=C.toNat from by omega,V5 i0 h]at hv;refine⟨⟨by simp only[List.length_singleton];omega,by simp only[List.length_singleton];omega⟩,⟨by omega,by omega,ha,hb,by rw[List.length_append,List.length_singleton];omega,fun k hk=> ?_⟩,by omega⟩;show isV _ _ ((rows++ [v]).getD k []);by_cases hk2:k<rows.length
   . have h9:(rows++ [v]).getD k []=rows.getD k []:=by
      rw[List.getD_eq_getElem?_getD,List.getElem?_append_left hk2, <-List.getD_eq_getElem?_getD]
     rw[h9];exact hf k (by omega)
   . have hk3:k=i.toNat:=by omega
     have h9:(rows++ [v]).getD k []=v:=by
      rw[List.getD_eq_getElem?_getD,List.getElem?_append_right (by omega),show k-rows.length=0 from by omega];rfl
     rw[h9,hk3];exact hv
 . have h:=of_decide_eq_false h;exact⟨ha,by omega,by omega,fun k hk=>hf k (by omega)⟩
theorem C1i (x:A6 L5.args) (hw:awf L5.args x) (hp:L5.pre x):A4w x:=by
 obtain⟨⟨R,C,D⟩,_⟩:=x;change Int at R C;change List (List Ent)at D;obtain⟨hs,hv⟩:okM K1 (R,C,D)/\A7 (R,C,D):=hp;obtain⟨v1,v2,v3,v4,_,_⟩:=id hv;have v5:(D.length:Int)=R:=hv.2.2.2.2.1;have v6:∀w∈D,J4 w C:=hv.2.2.2.2.2;simp only at v1 v2 v3 v4;simp only[A4w];refine⟨⟨v1,Int.le_refl _,by omega,by omega⟩,fun p=>0<=p.1/\p.1<=R/\fill R.toNat p.1.toNat (fun i=>dl C (D5 (D.getD i []))) p.2.1,fun p=>(R-p.1).toNat,⟨Int.le_refl _,v1,F8g List.length_replicate⟩, ?_⟩;rintro⟨k,rows,_⟩ _ ⟨k0,k1,hf⟩;change Int at k;change List (List N8)at rows;simp only at k0 k1 hf⊢;have:=hf.1;refine⟨fun h=> ?_,fun h=> ?_⟩
 . have h:=of_decide_eq_true h;have hkD:k<(D.length:Int):=by omega
   have hme:=N0 (d:=([]:List Ent)) k0 hkD;refine⟨⟨k0,hkD⟩,⟨C1b hv hs hme,v6 _ hme,v3,v4⟩, ?_⟩;rintro⟨l,b,_⟩ _ ⟨hl,_⟩;simp only at hl⊢;rw[wr (by omega) (by omega)];refine⟨⟨k0,by omega⟩,⟨by omega,by omega,C1m hf k0 (by omega) ?_⟩,by omega⟩;rw[hl,C7m k0 hkD]
 . have h:=of_decide_eq_false h;exact C9v hf (by omega)
theorem B7u (x:A6 H6.args) (hw:awf H6.args x) (hp:H6.pre x):A3z x:=by
 obtain⟨⟨R,C,D⟩,⟨R',C',D'⟩,_⟩:=x;have hDl:D.length<=9223372036854775807:=hw.1.2.2.1;change Int at R C R' C';change List (List Ent)at D D';have hs:okM K1 (R,C,D):=hp;simp only[A3z];simp only[N4];refine⟨fun h=> ?_,fun h=> ?_⟩
 . simp only[Bool.or_eq_true,decide_eq_true_eq]at h;refine⟨fun h2=>(by cases h2),fun h2=> ?_⟩;have h3:=h2.1;simp only[Prod.mk.injEq]at h3;obtain⟨rfl,rfl,rfl⟩:=h3;simp at h
 . simp only[Bool.or_eq_false_iff,decide_eq_false_iff_not,Decidable.not_not]at h;obtain⟨⟨rfl,rfl⟩,hlen⟩:=h;refine⟨fun p=>0<=p.1/\p.1<=(D.length:Int)/\D.take p.1.toNat=D'.take p.1.toNat/\∀v∈D.take p.1.toNat,∀e∈v,e.2=rc (rv e.2),fun p=>((D.length:Int)-p.1).toNat,⟨Int.le_refl _,Int.natCast_nonneg _,by simp,by simp⟩, ?_⟩;rintro⟨i,_⟩ _ ⟨h0,h1,h2,h3⟩;change Int at i;simp only at h0 h1 h2 h3⊢;refine⟨fun h=> ?_,fun h=> ?_⟩
   . have h:=of_decide_eq_true h;have hme:=N0 (d:=([]:List Ent)) h0 h;have ga:=K9 (d:=([]:List Ent)) h0 h;have gb:=K9 (d:=([]:List Ent)) (l:=D') h0 (by omega);have hta:D.take (i+1).toNat=D.take i.toNat++ [gx [] D i]:=by
      rw[show(i+1).toNat=i.toNat+1 from by omega,List.take_add_one,ga];rfl
     have htb:D'.take (i+1).toNat=D'.take i.toNat++ [gx [] D' i]:=by
      rw[show(i+1).toNat=i.toNat+1 from by omega,List.take_add_one,gb];rfl
     refine⟨⟨h0,h⟩,⟨h0,by omega⟩,hs _ hme, ?_⟩;rintro⟨q,_⟩ _ hq;simp only at hq⊢;refine⟨fun h4=>⟨fun h5=>(by cases h5),fun h5=> ?_⟩,fun h4=> ?_⟩
     . obtain⟨h6,h7⟩:=h5;simp only[Prod.mk.injEq,true_and]at h6;subst h6;rw[hq,decide_eq_true (⟨rfl,h7 _ hme⟩: _ /\ _)]at h4;cases h4
     . rw[hq]at h4;have h4:gx [] D i=gx [] D' i/\∀e∈gx [] D i,e.2=rc (rv e.2):=of_decide_eq_true (by simpa using h4);rw[wr (by omega) (by omega)];refine⟨⟨by omega,by omega,by rw[hta,htb,h2,h4.1],fun v hv=> ?_⟩,by omega⟩;rw[hta]at hv;rcases List.mem_append.1 hv with hv|hv
       . exact h3 v hv
       . rw[List.mem_singleton.1 hv];exact h4.2
   . have h:=of_decide_eq_false h;rw[E2 (by omega),E2 (by omega)]at h2;rw[E2 (by omega)]at h3;subst h2;exact⟨fun _=>⟨rfl,h3⟩,fun _=>by trivial⟩
theorem E5g (x:A6 A6k.args) (hw:awf A6k.args x) (hp:A6k.pre x):D3f x:=by
 obtain⟨⟨R,C,D⟩,i,j,_⟩:=x;change Int at R C i j;change List (List Ent)at D;have hs:okM K1 (R,C,D):=hp;simp only[D3f];refine⟨hs, ?_⟩;rintro⟨r,_⟩ _ hr;simp only at hr⊢;simp only[N4];have hc:(!r||decide (i<0) ||decide (R<=i) ||decide (j<0) ||decide (C<=j))=false↔(A7 (R,C,D)/\0<=i/\i<R/\0<=j/\j<C):=by
  rw[hr];simp only[Bool.or_eq_false_iff,Bool.not_eq_false',decide_eq_true_eq,decide_eq_false_iff_not];constructor
  . rintro⟨⟨⟨⟨a,b⟩,c⟩,d⟩,e⟩;exact⟨a,by omega,by omega,by omega,by omega⟩
  . rintro⟨a,b,c,d,e⟩;exact⟨⟨⟨⟨a,by omega⟩,by omega⟩,by omega⟩,by omega⟩
 refine⟨fun h=>⟨trivial, ?_⟩,fun h=> ?_⟩
 . rintro⟨q,_⟩ _ hq;simp only at hq⊢;rw[if_neg fun h2=>(by rw[hc.2 h2]at h;cases h),hq]
 . have h2:=hc.1 h;obtain⟨hv,i0,i1,j0,j1⟩:=id h2;have hl:(D.length:Int)=R:=hv.2.2.2.2.1;refine⟨⟨i0,by omega⟩,C1b hv hs (N0 (d:=([]:List Ent)) (l:=D) i0 (by omega)), ?_⟩;rintro⟨q,_⟩ _ hq;simp only at hq⊢;rw[if_pos h2,hq,C7m (D:=D) i0 (by omega)];unfold el;rw[show((j.toNat:Nat):Int)=j from by omega]
theorem B9m (x:A6 L9.args) (hw:awf L9.args x) (hp:L9.pre x):A3t x:=by
 obtain⟨D,C,_⟩:=x;change List (List N8)at D;change Int at C;have hs:∀l∈D,szL K1 l:=hp;simp only[A3t];simp only[N4];refine⟨fun h=> ?_,fun h=> ?_⟩
 . simp only[Bool.or_eq_true,decide_eq_true_eq]at h;exact⟨fun _=>⟨rfl,by trivial⟩,fun h2=>absurd h2 (by omega)⟩
 . simp only[Bool.or_eq_false_iff,decide_eq_false_iff_not]at h;have hC:0<=C/\C<=16384:=by omega
   refine⟨fun p=>0<=p.1/\∀l∈D.take p.1.toNat,(l.length:Int)=C,fun p=>((D.length:Int)-p.1).toNat,⟨Int.le_refl _,by simp⟩, ?_⟩;rintro⟨i,_⟩ _ ⟨h0,h1⟩;change Int at i;simp only at h0 h1⊢;refine⟨fun hi=> ?_,fun hi=> ?_⟩
   . have hi:=of_decide_eq_true hi;have hme:=N0 (d:=([]:List N8)) h0 hi;refine⟨⟨h0,hi⟩,fun hb=> ?_,fun hb=> ?_⟩
     . have hb:=of_decide_eq_true hb;exact⟨fun h2=>absurd h2 (by omega),fun _=>⟨fun _=>⟨rfl,by trivial⟩,fun h2=>absurd (h2 _ hme) hb⟩⟩
     . have hb:=of_decide_eq_false hb;rw[wr (by omega) (by omega)];exact⟨⟨by omega,A0f (d:=([]:List N8)) (q:=fun l=>(l.length:Int)=C) h0 hi h1 (Decidable.not_not.1 hb)⟩,by omega⟩
   . have hi:=of_decide_eq_false hi;rw[E2 (by omega)]at h1;refine⟨⟨fun l hl=>⟨hs l hl,h1 l hl⟩,hC.1,hC.2,by omega⟩, ?_⟩;rintro⟨m,_⟩ _ hm;simp only at hm⊢;exact⟨fun h2=>absurd h2 (by omega),fun _=>⟨fun⟨l,hl,hne⟩=>absurd (h1 l hl) hne,fun _=>⟨hm,by trivial⟩⟩⟩
def F0x:An:= {loop:= [(15,⟨[2,3,4,6,7,8,9,10,11],[0,1,2,3],[(12,false,[.val (.int .i64)])],[(4,31,[.val .bool, .val (.sl (.int .u32)), .val (.sl (.int .u32))])],[]⟩),(11,⟨[2,3,4,6,7,8,9],[0,1,2],[(10,false,[.val (.int .i64)])],[],[(3, .rows tQ 56 31)]⟩),(8,⟨[2,3,4,6,7,8],[0,1,2],[(9,false,[.val (.int .i64)])],[],[(3, .rows tQ 56 31)]⟩)],plan:= [(5,[0,2],[],true,(.q 0 (.q 2 (.e 1 (.e 3 (.p 4 (.p 5 .done))))))),(17,[0,4,7,11,14],[17],true,(.q 0 (.p 1 (.p 2 (.p 3 (.q 4 (.p 5 (.p 6 (.q 7 (.p 8 (.p 9 (.p 10 (.q 11 (.p 12 (.p 13 (.q 14 (.e 15 (.e 16 (.e 17 .done))))))))))))))))))),(18,[5,6],[8,10],false,(.p 0 (.p 1 (.p 2 (.p 3 (.p 4 (.q 5 (.q 6 (.e 7 (.e 8 (.p 9 (.e 10 .done))))))))))))]}
def D8g:B4:= [(24,A3i),(32,A1m),(41,V2),(65,L5),(75,P9),(78,T0)]
def C4m:A6 A3d.args->Prop:=fun(x:MM×MM×Unit)=>okM K1 x.1/\∀(r:Bool×Unit),True/\True->r.1=decide (A7 x.1)->((!r.1)=false->okM K1 x.2.1)/\∀(f:Bool×Unit),((!r.1)=false->(True/\True)/\f.1=decide (A7 x.2.1))->((sel (!r.1) true !f.1)=true->(¬(A7 x.1/\A7 x.2.1)->((0:Int),(0:Int),[])=zm/\(1:Int)=(1:Int))/\(A7 x.1/\A7 x.2.1->(x.1.2.1≠x.2.1.1->((0:Int),(0:Int),[])=zm/\(1:Int)=(4:Int))/\(x.1.2.1=x.2.1.1->isM x.1.1.toNat x.2.1.2.1.toNat (fun(i j:Nat)=>A5y x.1.2.1.toNat fun(k:Nat)=>el x.1 i k*el x.2.1 k j) ((0:Int),(0:Int),[])/\(1:Int)=(0:Int))))/\((sel (!r.1) true !f.1)=false->(decide (x.1.2.1≠x.2.1.1)=true->(¬(A7 x.1/\A7 x.2.1)->((0:Int),(0:Int),[])=zm/\(4:Int)=(1:Int))/\(A7 x.1/\A7 x.2.1->(x.1.2.1≠x.2.1.1->((0:Int),(0:Int),[])=zm/\(4:Int)=(4:Int))/\(x.1.2.1=x.2.1.1->isM x.1.1.toNat x.2.1.2.1.toNat (fun(i j:Nat)=>A5y x.1.2.1.toNat fun(k:Nat)=>el x.1 i k*el x.2.1 k j) ((0:Int),(0:Int),[])/\(4:Int)=(0:Int))))/\(decide (x.1.2.1≠x.2.1.1)=false->(okM K1 x.1/\A7 x.1)/\∀(r:List (List QQ)×Unit),E4c r.1/\True->r.1=els x.1->(okM K1 x.2.1/\A7 x.2.1)/\∀(c:List (List QQ)×Unit),E4c c.1/\True->c.1=els x.2.1->(0<=x.1.1/\x.1.1<=x.1.1/\(↑(24:Nat):Int)*x.1.1<=281474976710656/\x.1.1<=9223372036854775807)/\∃(I:Int×List (List QQ)×Unit->Prop),∃(μ:Int×List (List QQ)×Unit->Nat),I ((0:Int),List.replicate (Int.toNat x.1.1) [],())/\∀(p:Int×List (List QQ)×Unit),E5 p.1/\E4c p.2.1/\True->I p->(decide (p.1<x.1.1)=true->∃(I_1:Int×List (List QQ)×Unit->Prop),∃(μ_1:Int×List (List QQ)×Unit->Nat),I_1 ((0:Int),p.2.1,())/\∀(b:Int×List (List QQ)×Unit),E5 b.1/\E4c b.2.1/\True->I_1 b->(decide (b.1<x.2.1.2.1)=true->True/\∀(d:QQ×Unit),WfQ d.1/\True->d.1=rc (0:Rat)->∃(I:Int×Bool×List Int×List Int×Unit->Prop),∃(μ:Int×Bool×List Int×List Int×Unit->Nat),I ((0:Int),d.1.1.1,d.1.1.2,d.1.2,())/\∀(a:Int×Bool×List Int×List Int×Unit),E5 a.1/\True/\WfU a.2.2.1/\WfU a.2.2.2.1/\True->I a->(decide (a.1<x.1.2.1)=true->(0<=p.1/\p.1<(r.1.length:Int))/\(0<=a.1/\a.1<(↑(gx [] r.1 p.1).length:Int))/\(0<=a.1/\a.1<(c.1.length:Int))/\(0<=b.1/\b.1<(↑(gx [] c.1 a.1).length:Int))/\(sh3 (gx dQ (gx [] r.1 p.1) a.1)/\sh3 (gx dQ (gx [] c.1 a.1) b.1))/\∀(e:QQ×Unit),WfQ e.1/\True->e.1=rc (rv (gx dQ (gx [] r.1 p.1) a.1)*rv (gx dQ (gx [] c.1 a.1) b.1))->(sh3 ((a.2.1,a.2.2.1),a.2.2.2.1)/\sh3 e.1)/\∀(r:QQ×Unit),WfQ r.1/\True->r.1=rc (rv ((a.2.1,a.2.2.1),a.2.2.2.1)+rv e.1)->I (IntKind.i64.wrap (a.1+1),r.1.1.1,r.1.1.2,r.1.2,())/\μ (IntKind.i64.wrap (a.1+1),r.1.1.1,r.1.1.2,r.1.2,())<μ a)/\(decide (a.1<x.1.2.1)=false->(0<=p.1/\p.1<(b.2.1.length:Int))/\(((List.getD b.2.1 (Int.toNat p.1) []).length+ [((a.2.1,a.2.2.1),a.2.2.2.1)].length)*(56:Nat)<=(140737488355328:Nat)/\(List.getD b.2.1 (Int.toNat p.1) []).length+ [((a.2.1,a.2.2.1),a.2.2.2.1)].length<=9223372036854775807)/\(0<=p.1/\p.1<(b.2.1.length:Int))/\Int.toNat p.1=Int.toNat p.1/\I_1 (IntKind.i64.wrap (b.1+1),List.set b.2.1 (Int.toNat p.1) (List.getD b.2.1 (Int.toNat p.1) []++ [((a.2.1,a.2.2.1),a.2.2.2.1)]),())/\μ_1 (IntKind.i64.wrap (b.1+1),List.set b.2.1 (Int.toNat p.1) (List.getD b.2.1 (Int.toNat p.1) []++ [((a.2.1,a.2.2.1),a.2.2.2.1)]),())<μ_1 b))/\(decide (b.1<x.2.1.2.1)=false->I (IntKind.i64.wrap (p.1+1),b.2.1,())/\μ (IntKind.i64.wrap (p.1+1),b.2.1,())<μ p))/\(decide (p.1<x.1.1)=false->((∀(l:List QQ),l∈p.2.1->szL K1 l/\(↑l.length:Int)=x.2.1.2.1)/\0<=x.2.1.2.1/\x.2.1.2.1<=16384/\List.length p.2.1<=16384)/\∀(r:MM×Unit),WfM r.1/\True->isM (List.length p.2.1) (Int.toNat x.2.1.2.1) (fun(i j:Nat)=>rv ((List.getD p.2.1 i []).getD j zr)) r.1->(¬(A7 x.1/\A7 x.2.1)->r.1=zm/\(0:Int)=(1:Int))/\(A7 x.1/\A7 x.2.1->(x.1.2.1≠x.2.1.1->r.1=zm/\(0:Int)=(4:Int))/\(x.1.2.1=x.2.1.1->isM x.1.1.toNat x.2.1.2.1.toNat (fun(i j:Nat)=>A5y x.1.2.1.toNat fun(k:Nat)=>el x.1 i k*el x.2.1 k j) r.1/\(0:Int)=(0:Int))))))
theorem E1y (x:A6 A3d.args):I2 Tryz.prog G5g D8g F0x A3d Tryz.f21 x=C4m x:=by kernel_rfl
def grown (n m i j:Nat) (f:Nat->Nat->Rat) (rows:List (List N8)):Prop:=rows.length=n/\∀k,k<n->rows.getD k []=(List.range (if k<i then m else if k=i then j else 0)).map fun l=>rc (f k l)
theorem G5y {n m:Nat} {f:Nat->Nat->Rat} :grown n m 0 0 f (List.replicate n []):=⟨List.length_replicate,fun k hk=>by
 rw[List.getD_eq_getElem?_getD,List.getElem?_replicate,if_pos hk,if_neg (by omega)];by_cases h:k=0
 . rw[if_pos h];rfl
 . rw[if_neg h];rfl⟩
theorem F2l {n m i j:Nat} {f:Nat->Nat->Rat} {rows:List (List N8)} {v:N8} (h:grown n m i j f rows) (hi:i<n) (hv:v=rc (f i j)):grown n m i (j+1) f (rows.set i (rows.getD i []++ [v])):=⟨by rw[List.length_set];exact h.1,fun k hk=>by
 rw[List.getD_eq_getElem?_getD,List.getElem?_set];by_cases he:i=k
 . subst he;rw[if_pos rfl,if_pos (by rw[h.1];exact hk)];show rows.getD i []++ [v]= _;rw[h.2 i hk,if_neg (by omega),if_pos rfl,if_neg (by omega),if_pos rfl,List.range_succ,List.map_append,hv];rfl
 . rw[if_neg he, <-List.getD_eq_getElem?_getD,h.2 k hk,if_neg (fun e:k=i=>he e.symm),if_neg (fun e:k=i=>he e.symm)]⟩
theorem F2o {n m i:Nat} {f:Nat->Nat->Rat} {rows:List (List N8)} (h:grown n m i m f rows):grown n m (i+1) 0 f rows:=⟨h.1,fun k hk=>by
 rw[h.2 k hk];have e:(if k<i then m else if k=i then m else 0)=(if k<i+1 then m else if k=i+1 then 0 else 0):=by
  by_cases h1:k<i
  . rw[if_pos h1,if_pos (by omega)]
  . rw[if_neg h1];by_cases h2:k=i
    . rw[if_pos h2,if_pos (by omega)]
    . rw[if_neg h2,if_neg (by omega)];split<;>rfl
 rw[e]⟩
theorem F6z {n m i j:Nat} {f:Nat->Nat->Rat} {rows:List (List N8)} (h:grown n m i j f rows) (hi:i<n):(rows.getD i []).length=j:=by
 rw[h.2 i hi,if_neg (by omega),if_pos rfl];simp
theorem E8r {n m:Nat} {f:Nat->Nat->Rat} {rows:List (List N8)} (h:grown n m n 0 f rows) {k:Nat} (hk:k<n):rows.getD k []=(List.range m).map fun l=>rc (f k l):=by
 rw[h.2 k hk,if_pos hk]
theorem F1j {n m:Nat} {f:Nat->Nat->Rat} {rows:List (List N8)} (h:grown n m n 0 f rows) (hq:∀i j,i<n->j<m->qs K1 (f i j)):∀l∈rows,szL K1 l/\(l.length:Int)=(m:Int):=fun l hl=>by
 obtain⟨k,hk,rfl⟩:=B4t [] hl;rw[h.1]at hk;rw[E8r h hk];refine⟨fun x hx=> ?_,by simp⟩;obtain⟨c,hc,rfl⟩:=List.mem_map.1 hx;exact hq k c hk (List.mem_range.1 hc)
theorem F6s {n m:Nat} {f:Nat->Nat->Rat} {rows:List (List N8)} (h:grown n m n 0 f rows) {i j:Nat} (hi:i<n) (hj:j<m):rv ((rows.getD i []).getD j zr)=f i j:=by
 rw[E8r h hi,List.getD_eq_getElem?_getD,List.getElem?_map,List.getElem?_range hj];exact A0t _
theorem G1b {m:B1t} (i:Int) (h0:0<=i) (h1:i<m.1):gx [] (els m) i=dl m.2.1 (D5 (m.2.2.getD i.toNat [])):=by
 rw[V5 h0 (by rw[E1g];omega),E9r (by omega)]
theorem F3i {m:B1t} {i:Int} (h0:0<=i) (h1:i<m.1):(gx [] (els m) i).length=m.2.1.toNat:=by rw[G1b i h0 h1,F7j]
theorem F5o {m:B1t} {i j:Int} (h0:0<=i) (h1:i<m.1) (j0:0<=j) (j1:j<m.2.1):gx dQ (gx [] (els m) i) j=rc (el m i.toNat j.toNat):=by
 rw[G1b i h0 h1,V5 j0 (by rw[F7j];omega),F6d _ (by omega)];rfl
theorem D9h (x:A6 A3d.args) (hw:awf A3d.args x) (hp:A3d.pre x):C4m x:=by
 obtain⟨⟨R,C,D⟩,⟨R',C',D'⟩,_⟩:=x;have hlm:F7r (R,C,D):=D1n hw.1.2.2.2;have hlm':F7r (R',C',D'):=D1n hw.2.1.2.2.2;change Int at R C R' C';change List (List Ent)at D D';obtain⟨hs,hs',hC⟩:okM K0 (R,C,D)/\okM K0 (R',C',D')/\C<=250:=hp;have hs1:=A9e hs (show K0<=K1 from by decide);have hs1':=A9e hs' (show K0<=K1 from by decide);simp only[C4m];refine⟨hs1, ?_⟩;rintro⟨r,_⟩ _ hr;simp only at hr⊢;refine⟨fun _=>hs1', ?_⟩;rintro⟨s,_⟩ hs2;simp only at hs2⊢;rw[N4];by_cases hv:A7 (R,C,D)
 case neg=>
  have hr:r=false:=by rw[hr];exact decide_eq_false hv
  rw[hr];exact⟨fun _=>⟨fun _=>⟨rfl,by trivial⟩,fun h=>absurd h.1 hv⟩,fun h=>(by cases h)⟩
 have hr:r=true:=by rw[hr];exact decide_eq_true hv
 have hs2:=(hs2 (by rw[hr];rfl)).2;rw[hr,hs2];by_cases hv':A7 (R',C',D')
 case neg=>
  rw[decide_eq_false hv'];exact⟨fun _=>⟨fun _=>⟨rfl,by trivial⟩,fun h=>absurd h.2 hv'⟩,fun h=>(by cases h)⟩
 rw[decide_eq_true hv'];refine⟨fun h=>(by cases h),fun _=>⟨fun h=> ?_,fun h=> ?_⟩⟩
 . have h:=of_decide_eq_true h;exact⟨fun h=>absurd ⟨hv,hv'⟩ h,fun _=>⟨fun _=>⟨rfl,by trivial⟩,fun h2=>absurd h2 h⟩⟩
 have h:=Decidable.not_not.1 (of_decide_eq_false h);obtain⟨v1,v2,v3,v4,_,_⟩:=id hv;obtain⟨w1,w2,w3,w4,_,_⟩:=id hv';simp only at v1 v2 v3 v4 w1 w2 w3 w4;refine⟨⟨hs1,hv⟩, ?_⟩;rintro⟨e,_⟩ _ he;simp only at he⊢;refine⟨⟨hs1',hv'⟩, ?_⟩;rintro⟨e',_⟩ _ he';simp only at he'⊢;have hel:e.length=R.toNat:=by rw[he];exact E1g _
 have hel':e'.length=R'.toNat:=by rw[he'];exact E1g _
 refine⟨⟨v1,Int.le_refl _,by omega,by omega⟩, ?_⟩
 let f:Nat->Nat->Rat:=fun i j=>A5y C.toNat fun k=>el (R,C,D) i k*el (R',C',D') k j
 have hqq:∀i k j,qs (K0+K0) (el (R,C,D) i k*el (R',C',D') k j):=fun i k j=>D3e (G0j hv hlm hs (by decide) i k) (G0j hv' hlm' hs' (by decide) k j)
 have hqf:∀n,n<=250->∀i j,qs K1 (A5y n fun k=>el (R,C,D) i k*el (R',C',D') k j):=fun n hn i j=>C6y (G4d fun k _=>hqq i k j) (by
  have h7:K0+K0+1=2147483649:=by decide
  have h8:K1=549755813888:=by decide
  rw[h7,h8];omega)
 refine⟨fun p=>0<=p.1/\p.1<=R/\grown R.toNat C'.toNat p.1.toNat 0 f p.2.1,fun p=>(R-p.1).toNat,⟨Int.le_refl _,v1,G5y⟩, ?_⟩;rintro⟨i,rows,_⟩ _ ⟨i0,i1,hg⟩;change Int at i;change List (List N8)at rows;simp only at i0 i1 hg⊢;refine⟨fun h1=> ?_,fun h1=> ?_⟩
 . have h1:=of_decide_eq_true h1;refine⟨fun p=>0<=p.1/\p.1<=C'/\grown R.toNat C'.toNat i.toNat p.1.toNat f p.2.1,fun p=>(C'-p.1).toNat,⟨Int.le_refl _,w3,hg⟩, ?_⟩;rintro⟨j,rows,_⟩ _ ⟨j0,j1,hg⟩;change Int at j;change List (List N8)at rows;simp only at j0 j1 hg⊢;have hl:=hg.1;have hlen:=F6z hg (by omega);refine⟨fun h2=> ?_,fun h2=> ?_⟩
   . have h2:=of_decide_eq_true h2;refine⟨trivial, ?_⟩;rintro⟨z,_⟩ _ hz;simp only at hz⊢;refine⟨fun p=>0<=p.1/\p.1<=C/\((p.2.1,p.2.2.1),p.2.2.2.1)=rc (A5y p.1.toNat fun k=>el (R,C,D) i.toNat k*el (R',C',D') k j.toNat),fun p=>(C-p.1).toNat,⟨Int.le_refl _,v3,by rw[hz];rfl⟩, ?_⟩;rintro⟨k,b,u,d,_⟩ _ ⟨k0,k1,hk⟩;change Int at k;simp only at k0 k1 hk⊢;refine⟨fun h3=> ?_,fun h3=> ?_⟩
     . have h3:=of_decide_eq_true h3;have hrow:(gx [] e i).length=C.toNat:=by rw[he];exact F3i i0 h1
       have hval:gx dQ (gx [] e i) k=rc (el (R,C,D) i.toNat k.toNat):=by rw[he];exact F5o i0 h1 k0 h3
       have hrow':(gx [] e' k).length=C'.toNat:=by rw[he'];exact F3i k0 (by show k<R';omega)
       have hval':gx dQ (gx [] e' k) j=rc (el (R',C',D') k.toNat j.toNat):=by rw[he'];exact F5o k0 (by show k<R';omega) j0 h2
       rw[hval,hval'];refine⟨⟨i0,by omega⟩,⟨k0,by omega⟩,⟨k0,by omega⟩,⟨j0,by omega⟩,⟨A8v (G0j hv hlm hs (by decide) _ _) (by decide),A8v (G0j hv' hlm' hs' (by decide) _ _) (by decide)⟩, ?_⟩;rintro⟨q,_⟩ _ hq;simp only at hq⊢;rw[A0t,A0t]at hq;refine⟨⟨by rw[hk];exact A8v (hqf _ (by omega) _ _) (by decide),by rw[hq];exact A8v (hqq _ _ _) (by decide)⟩, ?_⟩;rintro⟨t,_⟩ _ ht;simp only at ht⊢;rw[wr (by omega) (by omega)];refine⟨⟨by omega,by omega, ?_⟩,by omega⟩;show t= _;rw[ht,hk,hq,A0t,A0t,show(k+1).toNat=k.toNat+1 from by omega,A5y]
     . have h3:=of_decide_eq_false h3;rw[show k.toNat=C.toNat from by omega]at hk;rw[wr (by omega) (by omega)];refine⟨⟨i0,by omega⟩,⟨by rw[hlen,List.length_singleton];omega,by rw[hlen,List.length_singleton];omega⟩,⟨i0,by omega⟩,by trivial,⟨by omega,by omega, ?_⟩,by omega⟩;rw[show(j+1).toNat=j.toNat+1 from by omega];exact F2l hg (by omega) hk
   . have h2:=of_decide_eq_false h2;rw[wr (by omega) (by omega),show(i+1).toNat=i.toNat+1 from by omega];rw[show j.toNat=C'.toNat from by omega]at hg;exact⟨⟨by omega,by omega,F2o hg⟩,by omega⟩
 . have h1:=of_decide_eq_false h1;rw[show i.toNat=R.toNat from by omega]at hg;have hl:=hg.1;refine⟨⟨fun l hl=> ?_,w3,w4,by omega⟩, ?_⟩
   . have:=F1j hg (fun i j _ _=>hqf _ (by omega) i j) l hl;exact⟨this.1,by omega⟩
   . rintro⟨m,_⟩ _ hm;simp only at hm⊢;rw[hl]at hm;exact⟨fun h=>absurd ⟨hv,hv'⟩ h,fun _=>⟨fun h2=>absurd h h2,fun _=>⟨B2w hm fun i j hi hj=>F6s hg hi hj,by trivial⟩⟩⟩
def E8g:An:= {}
def D3i:B4:= []
def E7h:An:= {}
def D0j:B4:= []
def C6x:An:= {plan:= [(1,[3,7],[],true,(.p 0 (.p 1 (.p 2 (.q 3 (.p 4 (.p 5 (.p 6 (.q 7 (.p 8 (.p 9 .done))))))))))),(4,[3,7,10],[],true,(.p 0 (.p 1 (.p 2 (.q 3 (.p 4 (.p 5 (.p 6 (.q 7 (.p 8 (.p 9 (.q 10 (.p 11 (.e 12 (.p 13 .done)))))))))))))))]}
def A7w:B4:= [(49,X5)]
def C9d:An:= {}
def B0y:B4:= [(28,F9),(144,A6p)]
def B7t:An:= {join:= [(12,⟨[0,1,2,6,7,8,9,10,11],[1,2,3],[],[(0,103,[.val (.sl (.int .i64)), .val (.int .i64)]),(4,31,[.val .bool, .val (.sl (.int .u32)), .val (.sl (.int .u32))])],[]⟩)],loop:= [(7,⟨[0,1,2,6,7,8],[1,2],[(9,false,[.own tQ 31]),(10,false,[.val (.int .i64)])],[(0,103,[.val (.sl (.int .i64)), .val (.int .i64)])],[]⟩),(3,⟨[0,1,2,6],[1],[(7,false,[.own (.sl tQ) 56]),(8,false,[.val (.int .i64)])],[(0,103,[.val (.sl (.int .i64)), .val (.int .i64)])],[]⟩)]}
def A4t:B4:= [(28,F9),(75,P9),(78,T0),(79,M9)]
def B9z:An:= {}
def A6o:B4:= []
def B7r:A6 X5.args->Prop:=fun(x:Int×Int×Unit)=>IntKind.u64.wrap x.2.1≠0/\(0<x.2.1->(0:Int)<=IntKind.i64.wrap ((IntKind.u64.wrap x.1).tmod (IntKind.u64.wrap x.2.1))/\IntKind.i64.wrap ((IntKind.u64.wrap x.1).tmod (IntKind.u64.wrap x.2.1))<x.2.1/\IntKind.i64.wrap ((IntKind.u64.wrap x.1).tmod (IntKind.u64.wrap x.2.1))=(IntKind.u64.wrap x.1).tmod x.2.1)
theorem D6q (x:A6 X5.args):I2 Tryz.prog tys D3i E8g X5 Tryz.f49 x=B7r x:=by kernel_rfl
def D3u:A6 A0q.args->Prop:=fun(x:List Int×Unit)=>(x.1,(0:Int))=(x.1,(0:Int))
theorem D5o (x:A6 A0q.args):I2 Tryz.prog tys D0j E7h A0q Tryz.f18 x=D3u x:=by kernel_rfl
def A2q:A6 F9.args->Prop:=fun(x:(List Int×Int)×Int×Unit)=>(decide ((x.1.1.length:Int)<=x.1.2)=true->((0:Int)<=(0:Int)/\0<x.2.1)/\x.1.1=x.1.1/\0<=x.1.2/\x.1.2<=(↑x.1.1.length:Int))/\(decide ((x.1.1.length:Int)<=x.1.2)=false->((0:Int)<=IntKind.i64.wrap (IntKind.i64.wrap (x.1.2+1)-(1:Int))/\IntKind.i64.wrap (IntKind.i64.wrap (x.1.2+1)-(1:Int))<(x.1.1.length:Int))/\0<x.2.1/\∀(r:Int×Unit),E5 r.1/\True->(0<x.2.1->0<=r.1/\r.1<x.2.1/\r.1=(IntKind.u64.wrap (gx (0:Int) x.1.1 (IntKind.i64.wrap (IntKind.i64.wrap (x.1.2+1)-(1:Int))))).tmod x.2.1)->(0<=r.1/\r.1<x.2.1)/\x.1.1=x.1.1/\(0:Int)<=IntKind.i64.wrap (x.1.2+1)/\IntKind.i64.wrap (x.1.2+1)<=(↑x.1.1.length:Int))
theorem B5m (x:A6 F9.args):I2 Tryz.prog tys A7w C6x F9 Tryz.f28 x=A2q x:=by kernel_rfl
def A4a:A6 M9.args->Prop:=fun(x:(List Int×Int)×Unit)=>((0:Int)<(13:Int)/\0<=x.1.2/\x.1.2<=(x.1.1.length:Int))/\∀(r:Int×Unit) (o:(List Int×Int)×Unit),E5 r.1/\True->((Ty.int IntKind.i64).sl.pair (Ty.int IntKind.i64)).wf o.1/\True->0<=r.1/\r.1<13->o.1.1=x.1.1/\0<=o.1.2/\o.1.2<=(x.1.1.length:Int)->((0:Int)<(4:Int)/\0<=o.1.2/\o.1.2<=(o.1.1.length:Int))/\∀(b:Int×Unit) (a:(List Int×Int)×Unit),E5 b.1/\True->((Ty.int IntKind.i64).sl.pair (Ty.int IntKind.i64)).wf a.1/\True->0<=b.1/\b.1<4->a.1.1=o.1.1/\0<=a.1.2/\a.1.2<=(o.1.1.length:Int)->True/\∀(c:QQ×Unit),WfQ c.1/\True->c.1=rc (Rat.divInt (IntKind.i64.wrap (r.1-6)) (IntKind.i64.wrap (1+b.1)))->F9v c.1/\a.1.1=x.1.1/\0<=a.1.2/\a.1.2<=(↑x.1.1.length:Int)
theorem B8r (x:A6 M9.args):I2 Tryz.prog tys B0y C9d M9 Tryz.f79 x=A4a x:=by kernel_rfl
def A0g:A6 G6.args->Prop:=fun(x:(List Int×Int)×Int×Int×Unit)=>∃(I:List (List QQ)×Int×List Int×Int×Unit->Prop),∃(μ:List (List QQ)×Int×List Int×Int×Unit->Nat),I ([],(0:Int),x.1.1,x.1.2,())/\∀(p:List (List QQ)×Int×List Int×Int×Unit),E4c p.1/\E5 p.2.1/\WfI p.2.2.1/\E5 p.2.2.2.1/\True->I p->(decide (p.2.1<x.2.1)=true->∃(I_1:List QQ×Int×List Int×Int×Unit->Prop),∃(μ_1:List QQ×Int×List Int×Int×Unit->Nat),I_1 ([],(0:Int),p.2.2.1,p.2.2.2.1,())/\∀(a:List QQ×Int×List Int×Int×Unit),WfL a.1/\E5 a.2.1/\WfI a.2.2.1/\E5 a.2.2.2.1/\True->I_1 a->(decide (a.2.1<x.2.2.1)=true->True/\∀(r:QQ×Unit),WfQ r.1/\True->r.1=rc (0:Rat)->∃(J:List Int×Int×Bool×List Int×List Int×Unit->Prop),(((0:Int)<(3:Int)/\0<=a.2.2.2.1/\a.2.2.2.1<=(a.2.2.1.length:Int))/\∀(c:Int×Unit) (o:(List Int×Int)×Unit),E5 c.1/\True->((Ty.int IntKind.i64).sl.pair (Ty.int IntKind.i64)).wf o.1/\True->0<=c.1/\c.1<3->o.1.1=a.2.2.1/\0<=o.1.2/\o.1.2<=(a.2.2.1.length:Int)->(decide (0<c.1)=true->(0<=o.1.2/\o.1.2<=(o.1.1.length:Int))/\∀(r:QQ×Unit) (b:(List Int×Int)×Unit),WfQ r.1/\True->((Ty.int IntKind.i64).sl.pair (Ty.int IntKind.i64)).wf b.1/\True->F9v r.1->b.1.1=o.1.1/\0<=b.1.2/\b.1.2<=(o.1.1.length:Int)->J (b.1.1,b.1.2,r.1.1.1,r.1.1.2,r.1.2,()))/\(decide (0<c.1)=false->J (o.1.1,o.1.2,r.1.1.1,r.1.1.2,r.1.2,())))/\∀(p:List Int×Int×Bool×List Int×List Int×Unit),WfI p.1/\E5 p.2.1/\True/\WfU p.2.2.2.1/\WfU p.2.2.2.2.1/\True->J p->((List.length a.1+ [((p.2.2.1,p.2.2.2.1),p.2.2.2.2.1)].length)*(56:Nat)<=(140737488355328:Nat)/\List.length a.1+ [((p.2.2.1,p.2.2.2.1),p.2.2.2.2.1)].length<=9223372036854775807)/\I_1 (a.1++ [((p.2.2.1,p.2.2.2.1),p.2.2.2.2.1)],IntKind.i64.wrap (a.2.1+1),p.1,p.2.1,())/\μ_1 (a.1++ [((p.2.2.1,p.2.2.2.1),p.2.2.2.2.1)],IntKind.i64.wrap (a.2.1+1),p.1,p.2.1,())<μ_1 a)/\(decide (a.2.1<x.2.2.1)=false->((List.length p.1+ [a.1].length)*(24:Nat)<=(140737488355328:Nat)/\List.length p.1+ [a.1].length<=9223372036854775807)/\I (p.1++ [a.1],IntKind.i64.wrap (p.2.1+1),a.2.2.1,a.2.2.2.1,())/\μ (p.1++ [a.1],IntKind.i64.wrap (p.2.1+1),a.2.2.1,a.2.2.2.1,())<μ p))/\(decide (p.2.1<x.2.1)=false->((∀(l:List QQ),l∈p.1->szL K1 l/\(↑l.length:Int)=x.2.2.1)/\0<=x.2.2.1/\x.2.2.1<=16384/\List.length p.1<=16384)/\∀(r:MM×Unit),WfM r.1/\True->isM (List.length p.1) (Int.toNat x.2.2.1) (fun(i j:Nat)=>rv ((List.getD p.1 i []).getD j zr)) r.1->G7v x.2.1.toNat x.2.2.1.toNat r.1/\p.2.2.1=x.1.1/\0<=p.2.2.2.1/\p.2.2.2.1<=(↑x.1.1.length:Int))
theorem B1q (x:A6 G6.args):I2 Tryz.prog tys A4t B7t G6 Tryz.f20 x=A0g x:=by kernel_rfl
def A6e:A6 I7.args->Prop:=fun(x:List (List QQ)×Int×Unit)=>(decide (x.2.1<(x.1.length:Int))=true->((0:Int)<=(0:Int)/\0<=x.2.1/\x.2.1<=(x.1.length:Int))/\List.drop (Int.toNat (0:Int)) (List.take (Int.toNat x.2.1) x.1)=List.take x.2.1.toNat x.1)/\(decide (x.2.1<(x.1.length:Int))=false->x.1=List.take x.2.1.toNat x.1)
theorem B3j (x:A6 I7.args):I2 Tryz.prog tys A6o B9z I7 Tryz.f62 x=A6e x:=by kernel_rfl
end Go.Proofs.YtkdmjgcjpmcjjaaGreat
