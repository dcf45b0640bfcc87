/- Part. -/
import Derived.Test.YtkdmjgcjpmcjjaaGreatK40E
namespace Go.Proofs.YtkdmjgcjpmcjjaaGreat
open Go.Vc Go.Gw
def C4f:An:= {}
def A7t:B4:= []
def C1u:An:= {}
def A6l:B4:= [(179,E4),(180,C4)]
def D3k:An:= {}
def B3f:B4:= [(172,C8)]
def D3q:An:= {plan:= [(1,[1,3],[6],true,(.p 0 (.q 1 (.p 2 (.q 3 (.e 4 (.e 5 (.e 6 .done))))))))]}
def B2t:B4:= [(179,E4),(183,G2)]
def D4s:An:= {plan:= [(1,[1,4],[7],true,(.p 0 (.q 1 (.p 2 (.p 3 (.q 4 (.e 5 (.e 6 (.e 7 .done)))))))))]}
def B7b:B4:= [(179,E4),(183,G2)]
def D5k:An:= {plan:= [(2,[1,3,5],[8],true,(.p 0 (.q 1 (.p 2 (.q 3 (.p 4 (.q 5 (.e 6 (.e 7 (.e 8 .done))))))))))]}
def B6f:B4:= [(179,E4),(211,Q5),(212,O4)]
def D5n:An:= {plan:= [(1,[1,3,6,8],[11],true,(.p 0 (.q 1 (.p 2 (.q 3 (.p 4 (.p 5 (.q 6 (.p 7 (.q 8 (.e 9 (.e 10 (.e 11 .done)))))))))))))]}
def B6m:B4:= [(142,J8),(179,E4)]
def A2s:A6 E4.args->Prop:=fun(x:Bool×List Int×Unit)=>(sel x.1 (decide ((0:Int)<(x.2.1.length:Int))) false,x.2.1)=(x.1&&decide (x.2.1≠ []),x.2.1)
theorem B5s (x:A6 E4.args):I2 Tryz.prog tys A7t C4f E4 Tryz.f179 x=A2s x:=by kernel_rfl
def A1u:A6 I4.args->Prop:=fun(x:Int×Unit)=>(decide (x.1<0)=true->True/\∀(r:List Int×Unit),WfU r.1/\True->r.1=nc (IntKind.u64.wrap (-IntKind.u64.wrap x.1)).toNat->True/\∀(a:(Bool×List Int)×Unit),WfZ a.1/\True->a.1=(true&&decide (r.1≠ []),r.1)->a.1=ic x.1)/\(decide (x.1<0)=false->True/\∀(r:List Int×Unit),WfU r.1/\True->r.1=nc (IntKind.u64.wrap x.1).toNat->True/\∀(a:(Bool×List Int)×Unit),WfZ a.1/\True->a.1=(false&&decide (r.1≠ []),r.1)->a.1=ic x.1)
theorem B2d (x:A6 I4.args):I2 Tryz.prog tys A6l C1u I4 Tryz.f136 x=A1u x:=by kernel_rfl
def A5l:A6 O7.args->Prop:=fun(x:(Bool×List Int)×Unit)=>True/\∀(r:Int×Unit),E5 r.1/\True->r.1=B9h (nv x.1.2) (nv [])->(decide (r.1=0)=true->(0:Int)=(iv x.1).sign)/\(decide (r.1=0)=false->(x.1.1=true->(-1:Int)=(iv x.1).sign)/\(x.1.1=false->(1:Int)=(iv x.1).sign))
theorem C2w (x:A6 O7.args):I2 Tryz.prog tys B3f D3k O7 Tryz.f198 x=A5l x:=by kernel_rfl
def A5c:A6 O5.args->Prop:=fun(x:(Bool×List Int)×Unit)=>sh0 x.1.2/\∀(r:List Int×Unit),WfU r.1/\True->r.1=nc (nv x.1.2)->True/\∀(a:(Bool×List Int)×Unit),WfZ a.1/\True->a.1=(x.1.1&&decide (r.1≠ []),r.1)->a.1=ic (iv x.1)
theorem C3b (x:A6 O5.args):I2 Tryz.prog tys B2t D3q O5 Tryz.f182 x=A5c x:=by kernel_rfl
def A6z:A6 R2.args->Prop:=fun(x:(Bool×List Int)×Unit)=>sh0 x.1.2/\∀(r:List Int×Unit),WfU r.1/\True->r.1=nc (nv x.1.2)->True/\∀(a:(Bool×List Int)×Unit),WfZ a.1/\True->a.1=(!x.1.1&&decide (r.1≠ []),r.1)->a.1=ic (-iv x.1)
theorem C6i (x:A6 R2.args):I2 Tryz.prog tys B7b D4s R2 Tryz.f143 x=A6z x:=by kernel_rfl
def A6y:A6 Q9.args->Prop:=fun(x:(Bool×List Int)×(Bool×List Int)×Unit)=>((x.1.1==x.2.1.1)=true->(sh1 x.1.2/\sh1 x.2.1.2)/\∀(r:List Int×Unit),WfU r.1/\True->r.1=nc (nv x.1.2+nv x.2.1.2)->True/\∀(a:(Bool×List Int)×Unit),WfZ a.1/\True->a.1=(x.1.1&&decide (r.1≠ []),r.1)->a.1=ic (iv x.1+iv x.2.1))/\((x.1.1==x.2.1.1)=false->(sh1 x.1.2/\sh1 x.2.1.2)/\∀(r:List Int×Bool×Unit),WfU r.1/\True/\True->(nv x.1.2<nv x.2.1.2->r.1= []/\r.2.1=false)/\(nv x.2.1.2<=nv x.1.2->r.1=nc (nv x.1.2-nv x.2.1.2)/\r.2.1=true)->(r.2.1=true->True/\∀(a:(Bool×List Int)×Unit),WfZ a.1/\True->a.1=(x.1.1&&decide (r.1≠ []),r.1)->a.1=ic (iv x.1+iv x.2.1))/\(r.2.1=false->(sh1 x.2.1.2/\sh1 x.1.2)/\∀(r:List Int×Bool×Unit),WfU r.1/\True/\True->(nv x.2.1.2<nv x.1.2->r.1= []/\r.2.1=false)/\(nv x.1.2<=nv x.2.1.2->r.1=nc (nv x.2.1.2-nv x.1.2)/\r.2.1=true)->True/\∀(a:(Bool×List Int)×Unit),WfZ a.1/\True->a.1=(x.2.1.1&&decide (r.1≠ []),r.1)->a.1=ic (iv x.1+iv x.2.1)))
theorem C5b (x:A6 Q9.args):I2 Tryz.prog tys B6f D5k Q9 Tryz.f173 x=A6y x:=by kernel_rfl
def A7k:A6 O0.args->Prop:=fun(x:(Bool×List Int)×(Bool×List Int)×Unit)=>(sh1 x.1.2/\sh1 x.2.1.2)/\∀(r:List Int×Unit),WfU r.1/\True->r.1=nc (nv x.1.2*nv x.2.1.2)->True/\∀(a:(Bool×List Int)×Unit),WfZ a.1/\True->a.1=(x.1.1 !=x.2.1.1&&decide (r.1≠ []),r.1)->a.1=ic (iv x.1*iv x.2.1)
theorem C6b (x:A6 O0.args):I2 Tryz.prog tys B6m D5n O0 Tryz.f141 x=A7k x:=by kernel_rfl
theorem B5g (x:A6 E4.args) (hw:awf E4.args x) (_:E4.pre x):A2s x:=by
 obtain⟨b,l,_⟩:=x;change Bool at b;change List Int at l;simp only[A2s,O1];cases l<;>simp
theorem B2l (x:A6 I4.args) (hw:awf I4.args x) (_:I4.pre x):A1u x:=by
 obtain⟨v,_⟩:=x;change Int at v;have hv:IntKind.i64.min<=v/\v<=IntKind.i64.max:=hw.1;rw[B8m,C5o]at hv;simp only[A1u];refine⟨fun h=>⟨trivial, ?_⟩,fun h=>⟨trivial, ?_⟩⟩
 . rintro⟨r,_⟩ _ hr;refine⟨trivial, ?_⟩;rintro⟨s,_⟩ _ hs;simp only at hr hs⊢;have h:=of_decide_eq_true h;have e:(IntKind.u64.wrap (-IntKind.u64.wrap v)).toNat=v.natAbs:=by rw[A1p,A1p];omega
   rw[e]at hr;subst hs hr;unfold ic;rw[decide_eq_true h,Bool.true_and,decide_eq_true (by rw[ne_eq,C7n];omega)]
 . rintro⟨r,_⟩ _ hr;refine⟨trivial, ?_⟩;rintro⟨s,_⟩ _ hs;simp only at hr hs⊢;have h:=of_decide_eq_false h;have e:(IntKind.u64.wrap v).toNat=v.natAbs:=by rw[A1p];omega
   rw[e]at hr;subst hs hr;unfold ic;rw[decide_eq_false h,Bool.false_and]
theorem C0a (x:A6 O7.args) (hw:awf O7.args x) (_:O7.pre x):A5l x:=by
 obtain⟨⟨b,l⟩,_⟩:=x;change Bool at b;change List Int at l;simp only[A5l];refine⟨trivial, ?_⟩;rintro⟨r,_⟩ _ hr;simp only at hr⊢;rw[E9w]at hr;refine⟨fun h=> ?_,fun h=>⟨fun hb=> ?_,fun hb=> ?_⟩⟩
 . have h:=of_decide_eq_true h;have h0:nv l=0:=E1h.1 (hr▸h);unfold iv;simp only[h0];split<;>rfl
 . have h:=of_decide_eq_false h;have h0:nv l≠0:=fun e=>h (by rw[hr,e];rfl)
   unfold iv;simp only[hb,if_true];rw[Int.sign_neg,Int.sign_eq_one_of_pos (by omega)]
 . have h:=of_decide_eq_false h;have h0:nv l≠0:=fun e=>h (by rw[hr,e];rfl)
   unfold iv;simp only[hb];exact(Int.sign_eq_one_of_pos (by simp;omega)).symm
theorem E4v {neg:Bool} {m:Nat} {v:Int} (h:v=if neg=true then -(m:Int)else(m:Int)):(neg&&decide (nc m≠ []),nc m)=ic v:=by
 have e:ic (iv (neg,nc m))=(neg&&decide (m≠0),nc m):=G3s;have e2:iv (neg,nc m)=v:=by rw[h];unfold iv;simp only[H3]
 rw[e2]at e;rw[e];have:decide (nc m≠ [])=decide (m≠0):=decide_eq_decide.2 (not_congr C7n);rw[this]
theorem C1f (x:A6 O5.args) (hw:awf O5.args x) (hp:O5.pre x):A5c x:=by
 obtain⟨⟨b,l⟩,_⟩:=x;change Bool at b;change List Int at l;simp only[A5c];refine⟨hp, ?_⟩;rintro⟨r,_⟩ _ hr;refine⟨trivial, ?_⟩;rintro⟨z,_⟩ _ hz;simp only at hr hz⊢;subst hr;rw[hz];exact E4v rfl
theorem C4w (x:A6 Q9.args) (hw:awf Q9.args x) (hp:Q9.pre x):A6y x:=by
 obtain⟨⟨b,l⟩,⟨c,k⟩,_⟩:=x;change Bool at b c;change List Int at l k;obtain⟨hl,hk⟩:sh1 l/\sh1 k:=hp;simp only[A6y];refine⟨fun h=> ?_,fun h=> ?_⟩
 . refine⟨⟨hl,hk⟩, ?_⟩;rintro⟨r,_⟩ _ hr;refine⟨trivial, ?_⟩;rintro⟨z,_⟩ _ hz;simp only at hr hz⊢;have h:b=c:=by simpa using h
   subst hr h;rw[hz];refine E4v ?_;unfold iv;cases b<;>simp<;>omega
 . have h:c= !b:=by cases b<;>cases c<;>simp_all
   subst h;refine⟨⟨hl,hk⟩, ?_⟩;rintro⟨r,ok,_⟩ _ hr;simp only at hr⊢;refine⟨fun h1=>⟨trivial, ?_⟩,fun h1=>⟨⟨hk,hl⟩, ?_⟩⟩
   . rintro⟨z,_⟩ _ hz;simp only at hz⊢;rcases Nat.lt_or_ge (nv l) (nv k)with h2|h2
     . rw[(hr.1 h2).2]at h1;exact absurd h1 (by decide)
     . rw[(hr.2 h2).1]at hz;rw[hz];refine E4v ?_;unfold iv;cases b<;>simp<;>omega
   . rintro⟨s,ok2,_⟩ _ hs;refine⟨trivial, ?_⟩;rintro⟨z,_⟩ _ hz;simp only at hs hz⊢;rcases Nat.lt_or_ge (nv l) (nv k)with h2|h2
     . rw[(hs.2 (by omega)).1]at hz;rw[hz];refine E4v ?_;unfold iv;cases b<;>simp<;>omega
     . rw[(hr.2 h2).2]at h1;exact absurd h1 (by decide)
theorem C7b (x:A6 O0.args) (hw:awf O0.args x) (hp:O0.pre x):A7k x:=by
 obtain⟨⟨b,l⟩,⟨c,k⟩,_⟩:=x;change Bool at b c;change List Int at l k;obtain⟨hl,hk⟩:sh1 l/\sh1 k:=hp;simp only[A7k];refine⟨⟨hl,hk⟩, ?_⟩;rintro⟨r,_⟩ _ hr;refine⟨trivial, ?_⟩;rintro⟨z,_⟩ _ hz;simp only at hr hz⊢;subst hr;rw[hz];refine E4v ?_;unfold iv;cases b<;>cases c<;>simp<;>grind
def B9j:An:= {}
def A5e:B4:= [(136,I4)]
def C4j:An:= {plan:= [(3,[1],[4],false,(.p 0 (.q 1 (.p 2 (.or 3 (.e 4 (.p 5 .done)) (.e 4 (.e 3 (.p 5 .done))))))))]}
def A8a:B4:= [(172,C8)]
def C9l:An:= {}
def B0x:B4:= [(139,E9),(198,O7)]
def C4x:An:= {}
def A7z:B4:= [(181,K3)]
def B5o:An:= {join:= [(4,⟨[0,1,4],[0],[(5,false,[.val (.int .u64)])],[],[]⟩)],loop:= [(5,⟨[0,1,4,5],[0],[(6,false,[.val (.int .u64)]),(7,false,[.val (.int .u64)])],[],[]⟩)],plan:= [(6,[],[],true,(.p 0 (.p 1 (.p 2 (.p 3 (.p 4 (.p 5 .done))))))),(7,[],[13],true,(.p 0 (.p 1 (.p 2 (.p 3 (.p 4 (.p 7 (.p 8 (.p 9 (.p 10 (.e 5 (.p 6 (.e 11 (.p 12 (.e 13 .done)))))))))))))))]}
def A4f:B4:= [(180,C4)]
def C0j:An:= {join:= [(8,⟨[2,4],[1],[(1,false,[.val (.sl (.int .u32))])],[(0,29,[.val .bool, .val (.sl (.int .u32))])],[]⟩)]}
def A6q:B4:= [(182,O5),(183,G2),(184,Q7),(185,I1)]
def C9j:An:= {}
def B0s:B4:= [(137,G1),(138,D9),(139,E9),(140,F2)]
def A0k:A6 E6.args->Prop:=fun(x:Int×Unit)=>True/\∀(r:(Bool×List Int)×Unit),WfZ r.1/\True->r.1=ic x.1->(r.1,[(1:Int)])=ri x.1
theorem B1e (x:A6 E6.args):I2 Tryz.prog tys A5e B9j E6 Tryz.f70 x=A0k x:=by kernel_rfl
def A2k:A6 E9.args->Prop:=fun(x:QQ×Unit)=>True/\∀(r:Int×Unit),E5 r.1/\True->r.1=B9h (nv x.1.2) (nv [])->(decide (r.1=0)=true->(nv x.1.2=0->(false,[])=zi/\ [(1:Int)]= [(1:Int)])/\(nv x.1.2≠0->(false,[])=x.1.1/\ [(1:Int)]=x.1.2))/\(decide (r.1=0)=false->((nv x.1.2=0->x.1.1=zi/\x.1.2= [(1:Int)])/\(nv x.1.2≠0->x.1.1=x.1.1/\x.1.2=x.1.2))/\(nv x.1.2=0->x.1.1=zi/\x.1.2= [(1:Int)])/\(nv x.1.2≠0->x.1.1=x.1.1/\x.1.2=x.1.2))
theorem B6a (x:A6 E9.args):I2 Tryz.prog tys A8a C4j E9 Tryz.f139 x=A2k x:=by kernel_rfl
def A3v:A6 D6.args->Prop:=fun(x:QQ×Unit)=>True/\∀(r:(Bool×List Int)×List Int×Unit),WfZ r.1/\WfU r.2.1/\True->(nv x.1.2=0->r.1=zi/\r.2.1= [(1:Int)])/\(nv x.1.2≠0->r.1=x.1.1/\r.2.1=x.1.2)->True/\∀(a:Int×Unit),E5 a.1/\True->a.1=(iv r.1).sign->a.1=(rv x.1).num.sign
theorem B8a (x:A6 D6.args):I2 Tryz.prog tys B0x C9l D6 Tryz.f160 x=A3v x:=by kernel_rfl
def A2m:A6 G1.args->Prop:=fun(x:QQ×Unit)=>True/\∀(r:Int×Bool×Unit),L6 r.1/\True/\True->(nv x.1.1.2<18446744073709551616->r.1=(↑(nv x.1.1.2):Int)/\r.2.1=true)/\((18446744073709551616:Nat)<=nv x.1.1.2->r.2.1=false)->True/\∀(a:Int×Bool×Unit),L6 a.1/\True/\True->(nv x.1.2<18446744073709551616->a.1=(↑(nv x.1.2):Int)/\a.2.1=true)/\((18446744073709551616:Nat)<=nv x.1.2->a.2.1=false)->(sel (sel (sel (!r.2.1) true !a.2.1) true (decide (2147483648<=r.1))) true (decide (2147483648<=a.1))=true->(P8 x.1->(0:Int)=E2q x.1/\(0:Int)=D8o x.1/\false=true)/\(¬P8 x.1->false=false))/\(sel (sel (sel (!r.2.1) true !a.2.1) true (decide (2147483648<=r.1))) true (decide (2147483648<=a.1))=false->(decide (a.1=0)=true->(P8 x.1->(0:Int)=E2q x.1/\(1:Int)=D8o x.1/\true=true)/\(¬P8 x.1->true=false))/\(decide (a.1=0)=false->(x.1.1.1=true->(P8 x.1->IntKind.i64.wrap (-IntKind.i64.wrap r.1)=E2q x.1/\IntKind.i64.wrap a.1=D8o x.1/\true=true)/\(¬P8 x.1->true=false))/\(x.1.1.1=false->(P8 x.1->IntKind.i64.wrap r.1=E2q x.1/\IntKind.i64.wrap a.1=D8o x.1/\true=true)/\(¬P8 x.1->true=false))))
theorem B5q (x:A6 G1.args):I2 Tryz.prog tys A7z C4x G1 Tryz.f137 x=A2m x:=by kernel_rfl
def Y6:A6 D9.args->Prop:=fun(x:Int×Int×Unit)=>∃(J:Int×Unit->Prop),((decide (x.1<0)=true->J (IntKind.u64.wrap (-IntKind.u64.wrap x.1),()))/\(decide (x.1<0)=false->J (IntKind.u64.wrap x.1,())))/\∀(p:Int×Unit),L6 p.1/\True->J p->∃(I:Int×Int×Unit->Prop),∃(μ:Int×Int×Unit->Nat),I (IntKind.u64.wrap x.2.1,p)/\∀(a:Int×Int×Unit),L6 a.1/\L6 a.2.1/\True->I a->(decide (a.2.1≠0)=true->a.2.1≠0/\I (a.2.1,Int.tmod a.1 a.2.1,())/\μ (a.2.1,Int.tmod a.1 a.2.1,())<μ a)/\(decide (a.2.1≠0)=false->a.1≠0/\a.1≠0/\True/\∀(r:List Int×Unit),WfU r.1/\True->r.1=nc (IntKind.u64.wrap (Int.tdiv p.1 a.1)).toNat->True/\∀(b:List Int×Unit),WfU b.1/\True->b.1=nc (IntKind.u64.wrap ((IntKind.u64.wrap x.2.1).tdiv a.1)).toNat->((decide (x.1<0),r.1),b.1)=rc (mkRat x.1 x.2.1.toNat))
theorem A9v (x:A6 D9.args):I2 Tryz.prog tys A4f B5o D9 Tryz.f138 x=Y6 x:=by kernel_rfl
def A1r:A6 F2.args->Prop:=fun(x:(Bool×List Int)×List Int×Unit)=>sh0 x.1.2/\∀(r:(Bool×List Int)×Unit),WfZ r.1/\True->r.1=ic (iv x.1)->sh0 x.2.1/\∀(d:List Int×Unit),WfU d.1/\True->d.1=nc (nv x.2.1)->(decide ((r.1.2.length:Int)=(0:Int))=true->((false,[]),[(1:Int)])=rc (mkRat (iv x.1) (nv x.2.1)))/\(decide ((r.1.2.length:Int)=(0:Int))=false->(sh2 r.1.2/\sh2 d.1)/\∀(a:List Int×Unit),WfU a.1/\True->a.1=nc ((nv r.1.2).gcd (nv d.1))->∃(J:List Int×Bool×List Int×Unit->Prop),((decide ((a.1.length:Int)≠(1:Int))=false->(0:Int)<=(0:Int)/\(0:Int)<(a.1.length:Int))/\(sel (decide ((a.1.length:Int)≠(1:Int))) true (decide (gx (0:Int) a.1 (0:Int)≠(1:Int)))=true->sh1 r.1.2/\∀(b:List Int×List Int×Bool×Unit),WfU b.1/\WfU b.2.1/\True/\True->(nv a.1=0->b.1= []/\b.2.1= []/\b.2.2.1=false)/\(nv a.1≠0->b.1=nc (nv r.1.2/nv a.1)/\b.2.1=nc (nv r.1.2%nv a.1)/\b.2.2.1=true)->sh1 d.1/\∀(c:List Int×List Int×Bool×Unit),WfU c.1/\WfU c.2.1/\True/\True->(nv a.1=0->c.1= []/\c.2.1= []/\c.2.2.1=false)/\(nv a.1≠0->c.1=nc (nv d.1/nv a.1)/\c.2.1=nc (nv d.1%nv a.1)/\c.2.2.1=true)->J (c.1,r.1.1,b.1,()))/\(sel (decide ((a.1.length:Int)≠(1:Int))) true (decide (gx (0:Int) a.1 (0:Int)≠(1:Int)))=false->J (d.1,r.1.1,r.1.2,())))/\∀(p:List Int×Bool×List Int×Unit),WfU p.1/\True/\WfU p.2.2.1/\True->J p->((p.2.1,p.2.2.1),p.1)=rc (mkRat (iv x.1) (nv x.2.1)))
theorem B3c (x:A6 F2.args):I2 Tryz.prog tys A6q C0j F2 Tryz.f140 x=A1r x:=by kernel_rfl
def A3o:A6 D8.args->Prop:=fun(x:QQ×Unit)=>True/\∀(r:Int×Int×Bool×Unit),E5 r.1/\E5 r.2.1/\True/\True->(P8 x.1->r.1=E2q x.1/\r.2.1=D8o x.1/\r.2.2.1=true)/\(¬P8 x.1->r.2.2.1=false)->(r.2.2.1=true->0<r.2.1/\∀(a:QQ×Unit),WfQ a.1/\True->a.1=rc (mkRat r.1 (Int.toNat r.2.1))->a.1=rc (rv x.1))/\(r.2.2.1=false->True/\∀(r:(Bool×List Int)×List Int×Unit),WfZ r.1/\WfU r.2.1/\True->(nv x.1.2=0->r.1=zi/\r.2.1= [(1:Int)])/\(nv x.1.2≠0->r.1=x.1.1/\r.2.1=x.1.2)->(nv r.2.1≠0/\sh2 r.1.2/\sh2 r.2.1)/\∀(a:QQ×Unit),WfQ a.1/\True->a.1=rc (mkRat (iv r.1) (nv r.2.1))->a.1=rc (rv x.1))
theorem B8f (x:A6 D8.args):I2 Tryz.prog tys B0s C9j D8 Tryz.f111 x=A3o x:=by kernel_rfl
theorem B1m (x:A6 E6.args) (hw:awf E6.args x) (_:E6.pre x):A0k x:=by
 obtain⟨v,_⟩:=x;simp only[A0k];refine⟨trivial, ?_⟩;rintro⟨r,_⟩ _ hr;simp only at hr⊢;rw[hr];rfl
theorem B6b (x:A6 E9.args) (hw:awf E9.args x) (_:E9.pre x):A2k x:=by
 obtain⟨⟨a,l⟩,_⟩:=x;change List Int at l;simp only[A2k];refine⟨trivial, ?_⟩;rintro⟨r,_⟩ _ hr;simp only at hr⊢;rw[E9w]at hr;refine⟨fun h=> ?_,fun h=> ?_⟩
 . have h0:nv l=0:=E1h.1 (hr▸of_decide_eq_true h);exact⟨fun _=>⟨rfl,by trivial⟩,fun h=>absurd h0 h⟩
 . have h0:nv l≠0:=fun e=>(of_decide_eq_false h) (by rw[hr,e];rfl)
   exact⟨⟨fun h=>absurd h h0,fun _=>⟨by trivial,by trivial⟩⟩,fun h=>absurd h h0,fun _=>⟨by trivial,by trivial⟩⟩
theorem B9p (x:A6 D6.args) (hw:awf D6.args x) (_:D6.pre x):A3v x:=by
 obtain⟨⟨a,l⟩,_⟩:=x;change List Int at l;simp only[A3v];refine⟨trivial, ?_⟩;rintro⟨r,d,_⟩ _ ⟨hr,hr2⟩;refine⟨trivial, ?_⟩;rintro⟨s,_⟩ _ hs;simp only at hr hr2 hs⊢;rw[hs, <-G2r];unfold G8w;split
 . rename_i h;rw[(hr h).1];rfl
 . rename_i h;rw[(hr2 h).1]
theorem B5v (x:A6 G1.args) (hw:awf G1.args x) (_:G1.pre x):A2m x:=by
 obtain⟨⟨⟨b,a⟩,l⟩,_⟩:=x;change Bool at b;change List Int at a l;simp only[A2m];refine⟨trivial, ?_⟩;rintro⟨u,ok,_⟩ _ ⟨h1,h2⟩;refine⟨trivial, ?_⟩;rintro⟨v,fits,_⟩ _ ⟨h3,h4⟩;change Int at u v;change Bool at ok fits;simp only at h1 h2 h3 h4⊢;have hs:sel (sel (sel (!ok) true !fits) true (decide (2147483648<=u))) true (decide (2147483648<=v))=(!ok|| !fits||decide (2147483648<=u) ||decide (2147483648<=v)):=by simp only[N4]
 rw[hs];have key:(!ok|| !fits||decide (2147483648<=u) ||decide (2147483648<=v))=false->P8 ((b,a),l)/\u=(nv a:Int)/\v=(nv l:Int):=fun h=>by
  simp only[Bool.or_eq_false_iff,Bool.not_eq_false',decide_eq_false_iff_not]at h;obtain⟨⟨⟨e1,e2⟩,e3⟩,e4⟩:=h;have ha:nv a<18446744073709551616:=by
   rcases Nat.lt_or_ge (nv a) 18446744073709551616 with h|h
   . exact h
   . rw[h2 h]at e1;cases e1
  have hl:nv l<18446744073709551616:=by
   rcases Nat.lt_or_ge (nv l) 18446744073709551616 with h|h
   . exact h
   . rw[h4 h]at e2;cases e2
  have q1:=(h1 ha).1;have q3:=(h3 hl).1;exact⟨⟨by show nv a< _;omega,by show nv l< _;omega⟩,q1,q3⟩
 have key2:P8 ((b,a),l)->(!ok|| !fits||decide (2147483648<=u) ||decide (2147483648<=v))=false:=fun h=>by
  obtain⟨g1,g2⟩:=h;change nv a< _ at g1;change nv l< _ at g2;obtain⟨q1,q2⟩:=h1 (by omega);obtain⟨q3,q4⟩:=h3 (by omega);simp only[Bool.or_eq_false_iff,Bool.not_eq_false',decide_eq_false_iff_not];exact⟨⟨⟨q2,q4⟩,by omega⟩,by omega⟩
 refine⟨fun h=>⟨fun hs=> ?_,fun _=>trivial⟩,fun h=> ?_⟩
 . rw[key2 hs]at h;cases h
 . obtain⟨hsm,hu,hv⟩:=key h;have hsm':=hsm;obtain⟨g1,g2⟩:=hsm;change nv a< _ at g1;change nv l< _ at g2;refine⟨fun hz=> ?_,fun hz=>⟨fun hb=> ?_,fun hb=> ?_⟩⟩
   . have hz:=of_decide_eq_true hz;have h0:nv l=0:=by omega
     exact⟨fun _=>⟨by unfold E2q;rw[if_pos h0],by unfold D8o;rw[if_pos h0],trivial⟩,fun h=>absurd hsm' h⟩
   . have hz:=of_decide_eq_false hz;have h0:nv l≠0:=by omega
     refine⟨fun _=>⟨?_, ?_,trivial⟩,fun h=>absurd hsm' h⟩
     . unfold E2q;rw[if_neg h0,wr (a:=u) (by omega) (by omega),wr (by omega) (by omega)];unfold iv;simp only[hb,if_true];omega
     . unfold D8o;rw[if_neg h0,wr (by omega) (by omega)];exact hv
   . have hz:=of_decide_eq_false hz;have h0:nv l≠0:=by omega
     refine⟨fun _=>⟨?_, ?_,trivial⟩,fun h=>absurd hsm' h⟩
     . unfold E2q;rw[if_neg h0,wr (a:=u) (by omega) (by omega)];unfold iv;simp only[hb];simpa using hu
     . unfold D8o;rw[if_neg h0,wr (by omega) (by omega)];exact hv
theorem A9q (x:A6 D9.args) (hw:awf D9.args x) (hp:D9.pre x):Y6 x:=by
 obtain⟨n,d,_⟩:=x;change Int at n d;have d0:0<d:=hp;have hn:=(show IntKind.i64.min<=n/\n<=IntKind.i64.max from hw.1);have hd1:=(show IntKind.i64.min<=d/\d<=IntKind.i64.max from hw.2.1);rw[B8m,C5o]at hn hd1;obtain⟨n0,n1⟩:=hn;have d1:=hd1.2;have i1:IntKind.i64.min= -9223372036854775808:=B8m;simp only[Y6];refine⟨fun p=>p.1=(n.natAbs:Int),⟨fun h=> ?_,fun h=> ?_⟩, ?_⟩
 . have h:=of_decide_eq_true h;show IntKind.u64.wrap (-IntKind.u64.wrap n)= _;rw[A1p,A1p];omega
 . have h:=of_decide_eq_false h;show IntKind.u64.wrap n= _;rw[A1p];omega
 rintro⟨s,_⟩ _ hs;simp only at hs⊢;subst hs;have hd:IntKind.u64.wrap d=d:=w64 (by omega) (by omega);refine⟨fun p=>0<=p.1/\0<=p.2.1/\(p.1≠0\/p.2.1≠0)/\p.1.toNat.gcd p.2.1.toNat=d.toNat.gcd n.natAbs,fun p=>p.2.1.toNat, ?_, ?_⟩
 . refine⟨by omega,by show(0:Int)<=(n.natAbs:Int);omega, .inl (by omega), ?_⟩;rw[hd];rfl
 rintro⟨g,t,_⟩ _ ⟨h0,h1,h2,h3⟩;change Int at g t;simp only at h0 h1 h2 h3⊢;refine⟨fun h=> ?_,fun h=> ?_⟩
 . have h:=of_decide_eq_true h;have e:Int.tmod g t=g%t:=Int.tmod_eq_emod_of_nonneg h0;have e2:=Int.emod_nonneg g h;have e3:=Int.emod_lt_of_pos g (b:=t) (by omega);rw[e];refine⟨h,⟨h1,e2, .inl h, ?_⟩,by omega⟩;rw[<-h3,Int.toNat_emod h0 h1,Nat.gcd_comm t.toNat, <-Nat.gcd_rec,Nat.gcd_comm]
 . have h:t=0:=by simpa using h
   subst h;have hg:g≠0:=by omega
   refine⟨hg,hg,trivial, ?_⟩;rintro⟨r,_⟩ _ hr;refine⟨trivial, ?_⟩;rintro⟨q,_⟩ _ hq;simp only at hr hq⊢;have hG:g.toNat=d.toNat.gcd n.natAbs:=by rw[<-h3];simp
   have hgp:0<g:=by omega
   have hge:g=((d.toNat.gcd n.natAbs:Nat):Int):=by omega
   obtain⟨hn,hdn⟩:=A9n (x:=n) (d:=d.toNat) (by omega);have e1:(IntKind.u64.wrap (Int.tdiv (n.natAbs:Int) g)).toNat=n.natAbs/d.toNat.gcd n.natAbs:=by
    rw[IntWalk.u64_quo _ _ ⟨by omega,by omega,by omega⟩,hge, <-Int.natCast_ediv,Int.toNat_natCast]
   have e2:(IntKind.u64.wrap (Int.tdiv d g)).toNat=d.toNat/d.toNat.gcd n.natAbs:=by
    rw[IntWalk.u64_quo _ _ ⟨by omega,by omega,by omega⟩,hge]
    conv=>lhs;rw[show d=((d.toNat:Nat):Int)from by omega]
    rw[<-Int.natCast_ediv,Int.toNat_natCast];simp only[Int.toNat_natCast]
   rw[hr,hq,hd,e1,e2];unfold rc;rw[hn,hdn];unfold ic;have hdvd:((d.toNat.gcd n.natAbs:Nat):Int)∣n:=Int.ofNat_dvd_left.2 (Nat.gcd_dvd_right ..);have hgN:0<d.toNat.gcd n.natAbs:=by omega
   generalize d.toNat.gcd n.natAbs=G at hdvd hgN;obtain⟨c,rfl⟩:=hdvd;rw[Int.mul_ediv_cancel_left _ (by omega)];have hsgn:(G:Int)*c<0↔c<0:=by
    constructor
    . intro h;rcases Int.lt_or_le c 0 with h1|h1
      . exact h1
      . have:=Int.mul_nonneg (Int.le_of_lt (Int.ofNat_lt.2 hgN)) h1;omega
    . intro h;exact Int.mul_neg_of_pos_of_neg (by omega) h
   rw[Int.natAbs_mul,Int.natAbs_natCast,Nat.mul_div_cancel_left _ hgN];simp only[hsgn]
theorem D0e (x:N8):mkRat (E2q x) (D8o x).toNat=rv x:=by
 unfold E2q D8o rv;split
 . rename_i h;rw[h,Rat.mkRat_zero];rfl
 . rename_i h;rw[Int.toNat_natCast]
theorem G0e (x:N8):0<D8o x:=by
 unfold D8o;split
 . decide
 . omega
theorem B3l (x:A6 F2.args) (hw:awf F2.args x) (hp:F2.pre x):A1r x:=by
 obtain⟨⟨b,l⟩,k,_⟩:=x;have hl:A9 l:=A5 hw.1.2.2;have hk:A9 k:=A5 hw.2.1.2;change Bool at b;change List Int at l k;obtain⟨hD,ll,lk⟩:nv k≠0/\l.length<=8796093022208/\k.length<=8796093022208:=hp;simp only[A1r];have nl:=C5 hl;have nk:=C5 hk;refine⟨by show l.length<=35184372088832;omega, ?_⟩;rintro⟨⟨s,r⟩,_⟩ _ hr;refine⟨by show k.length<=35184372088832;omega, ?_⟩;rintro⟨d,_⟩ _ hd;simp only at hr hd⊢;have hrs:s=decide (iv (b,l)<0):=congrArg (·.1) hr;have hr2:r=nc (iv (b,l)).natAbs:=congrArg (·.2) hr;have ea:(iv (b,l)).natAbs=nv l:=N3 _;have hrv:nv r=(iv (b,l)).natAbs:=by rw[hr2,H3]
 have hdv:nv d=nv k:=by rw[hd,H3]
 have hrl:r.length<=l.length:=by rw[hr2,ea];exact nl
 have hdl:d.length<=k.length:=by rw[hd];exact nk
 refine⟨fun h=> ?_,fun h=> ?_⟩
 . have h:=of_decide_eq_true h;have h0:r= []:=List.eq_nil_of_length_eq_zero (by omega);rw[h0,E9w]at hrv;have:iv (b,l)=0:=Int.natAbs_eq_zero.1 hrv.symm;rw[this,Rat.zero_mkRat,F5h]
 have h:=of_decide_eq_false h;refine⟨⟨by omega,by omega⟩, ?_⟩;rintro⟨g,_⟩ _ hg;simp only at hg⊢;rw[hrv,hdv]at hg;have hg0:Nat.gcd (iv (b,l)).natAbs (nv k)≠0:=Nat.ne_of_gt (Nat.gcd_pos_of_pos_right _ (Nat.pos_of_ne_zero hD));have hgv:nv g=Nat.gcd (iv (b,l)).natAbs (nv k):=by rw[hg,H3]
 refine⟨fun p=>((p.2.1,p.2.2.1),p.1)=rc (mkRat (iv (b,l)) (nv k)),⟨fun h1=> ?_,fun h1=> ?_,fun h1=> ?_⟩, ?_⟩
 . have h1:=of_decide_eq_false h1;exact⟨Int.le_refl _,by omega⟩
 . refine⟨by show r.length<= _;omega, ?_⟩;rintro⟨q,m,ok,_⟩ _ hq;refine⟨by show d.length<= _;omega, ?_⟩;rintro⟨q',m',ok',_⟩ _ hq';simp only at hq hq'⊢;rw[E8x hD,(hq.2 (by omega)).1,(hq'.2 (by omega)).1,hrv,hdv,hgv,hrs]
 . have h1:g.length=1/\gx 0 g 0=1:=by
    rw[N4]at h1;simp only[Bool.or_eq_false_iff,decide_eq_false_iff_not]at h1;omega
   obtain⟨z,rfl⟩:∃z,g= [z]:=List.length_eq_one_iff.1 h1.1;have hz:z=1:=h1.2;subst hz;have h2:Nat.gcd (iv (b,l)).natAbs (nv k)=1:=by rw[<-hgv];rfl
   rw[G4t hD h2];show((s,r),d)= _;rw[hd, <-hr]
 . rintro⟨a,s',c,_⟩ _ hJ;exact hJ
theorem B8l (x:A6 D8.args) (hw:awf D8.args x) (hp:D8.pre x):A3o x:=by
 obtain⟨q,_⟩:=x;change N8 at q;obtain⟨h1,h2⟩:q.1.2.length<=2199023255552/\q.2.length<=2199023255552:=hp;simp only[A3o];refine⟨trivial, ?_⟩;rintro⟨n,d,ok,_⟩ _ ⟨s1,s2⟩;change Int at n d;simp only at s1 s2⊢;refine⟨fun h=> ?_,fun h=>⟨trivial, ?_⟩⟩
 . have hs:P8 q:=Decidable.byContradiction fun hn=>by rw[s2 hn]at h;cases h
   obtain⟨rfl,rfl,_⟩:=s1 hs;refine⟨G0e q, ?_⟩;rintro⟨r,_⟩ _ hr;simp only at hr⊢;rw[hr,D0e]
 . rintro⟨n',d',_⟩ _ hpq;simp only at hpq⊢;obtain⟨hd0,hv⟩:=C1j hpq;obtain⟨l1,l2⟩:=B3q (k:=2199023255552) hpq h1 h2 (by decide);refine⟨⟨hd0,by show n'.2.length<= _;omega,by show d'.length<= _;omega⟩, ?_⟩;rintro⟨r,_⟩ _ hr;simp only at hr⊢;rw[hr,hv]
def D2z:An:= {plan:= [(13,[0,4],[10],true,(.q 0 (.p 1 (.p 2 (.q 4 (.p 5 (.p 6 (.or 3 (.or 7 (.or 8 (.e 9 (.e 10 .done)) (.e 9 (.e 8 (.e 10 .done)))) (.e 9 (.e 7 (.e 8 (.e 10 .done))))) (.e 9 (.e 3 (.e 7 (.e 8 (.e 10 .done))))))))))))),(14,[0],[5],true,(.q 0 (.p 1 (.p 2 (.e 3 (.e 4 (.e 5 .done)))))))]}
def B3n:B4:= [(111,D8),(137,G1),(138,D9),(139,E9),(140,F2),(141,O0),(142,J8),(160,D6),(172,C8),(173,Q9)]
def D4d:An:= {}
def B1x:B4:= [(137,G1),(138,D9),(139,E9),(140,F2),(141,O0),(142,J8)]
def D3g:An:= {}
def B3v:B4:= [(111,D8),(143,R2)]
def D3j:An:= {}
def B3x:B4:= [(111,D8),(160,D6)]
def q7 (x:QQ×QQ×Unit) (r:(Bool×List Int)×List Int×Unit) (a:(Bool×List Int)×List Int×Unit) (e:(Bool×List Int)×Unit) (c:(Bool×List Int)×Unit):Prop:=∀(d:(Bool×List Int)×Unit),WfZ d.1/\True->d.1=ic (iv e.1+iv c.1)->(sh1 r.2.1/\sh1 a.2.1)/\∀(b:List Int×Unit),WfU b.1/\True->b.1=nc (nv r.2.1*nv a.2.1)->(nv b.1≠0/\sh2 d.1.2/\sh2 b.1)/\∀(r:QQ×Unit),WfQ r.1/\True->r.1=rc (mkRat (iv d.1) (nv b.1))->r.1=rc (rv x.1+rv x.2.1)
def A4q:A6 H4.args->Prop:=fun(x:QQ×QQ×Unit)=>True/\∀(r:Int×Unit),E5 r.1/\True->r.1=(rv x.1).num.sign->(decide (r.1=0)=true->sh3 x.2.1/\∀(r:QQ×Unit),WfQ r.1/\True->r.1=rc (rv x.2.1)->r.1=rc (rv x.1+rv x.2.1))/\(decide (r.1=0)=false->True/\∀(r:Int×Unit),E5 r.1/\True->r.1=(rv x.2.1).num.sign->(decide (r.1=0)=true->sh3 x.1/\∀(r:QQ×Unit),WfQ r.1/\True->r.1=rc (rv x.1)->r.1=rc (rv x.1+rv x.2.1))/\(decide (r.1=0)=false->True/\∀(r:Int×Int×Bool×Unit),E5 r.1/\E5 r.2.1/\True/\True->(P8 x.1->r.1=E2q x.1/\r.2.1=D8o x.1/\r.2.2.1=true)/\(¬P8 x.1->r.2.2.1=false)->True/\∀(f:Int×Int×Bool×Unit),E5 f.1/\E5 f.2.1/\True/\True->(P8 x.2.1->f.1=E2q x.2.1/\f.2.1=D8o x.2.1/\f.2.2.1=true)/\(¬P8 x.2.1->f.2.2.1=false)->(sel r.2.2.1 f.2.2.1 false=true->(0:Int)<IntKind.i64.wrap (r.2.1*f.2.1)/\∀(a:QQ×Unit),WfQ a.1/\True->a.1=rc (mkRat (IntKind.i64.wrap (IntKind.i64.wrap (r.1*f.2.1)+IntKind.i64.wrap (f.1*r.2.1))) (IntKind.i64.wrap (r.2.1*f.2.1)).toNat)->a.1=rc (rv x.1+rv x.2.1))/\(sel r.2.2.1 f.2.2.1 false=false->True/\∀(r:(Bool×List Int)×List Int×Unit),WfZ r.1/\WfU r.2.1/\True->(nv x.1.2=0->r.1=zi/\r.2.1= [(1:Int)])/\(nv x.1.2≠0->r.1=x.1.1/\r.2.1=x.1.2)->True/\∀(a:(Bool×List Int)×List Int×Unit),WfZ a.1/\WfU a.2.1/\True->(nv x.2.1.2=0->a.1=zi/\a.2.1= [(1:Int)])/\(nv x.2.1.2≠0->a.1=x.2.1.1/\a.2.1=x.2.1.2)->True/\∀(g:Int×Unit),E5 g.1/\True->g.1=B9h (nv r.2.1) (nv a.2.1)->(decide (g.1=0)=true->(sh1 r.1.2/\sh1 a.1.2)/\∀(e:(Bool×List Int)×Unit),WfZ e.1/\True->e.1=ic (iv r.1+iv a.1)->(nv r.2.1≠0/\sh2 e.1.2/\sh2 r.2.1)/\∀(c:QQ×Unit),WfQ c.1/\True->c.1=rc (mkRat (iv e.1) (nv r.2.1))->c.1=rc (rv x.1+rv x.2.1))/\(decide (g.1=0)=false->((sh1 r.1.2/\sh1 a.2.1)/\∀(e:(Bool×List Int)×Unit),WfZ e.1/\True->e.1=ic (iv r.1*iv (false,a.2.1))->((sh1 a.1.2/\sh1 r.2.1)/\∀(c:(Bool×List Int)×Unit),WfZ c.1/\True->c.1=ic (iv a.1*iv (false,r.2.1))->((sh1 e.1.2/\sh1 c.1.2)/\q7 x r a e c)/\(sh1 e.1.2/\sh1 c.1.2)/\q7 x r a e c)/\(sh1 a.1.2/\sh1 r.2.1)/\∀(c:(Bool×List Int)×Unit),WfZ c.1/\True->c.1=ic (iv a.1*iv (false,r.2.1))->(sh1 e.1.2/\sh1 c.1.2)/\q7 x r a e c)/\(sh1 r.1.2/\sh1 a.2.1)/\∀(e:(Bool×List Int)×Unit),WfZ e.1/\True->e.1=ic (iv r.1*iv (false,a.2.1))->(sh1 a.1.2/\sh1 r.2.1)/\∀(c:(Bool×List Int)×Unit),WfZ c.1/\True->c.1=ic (iv a.1*iv (false,r.2.1))->(sh1 e.1.2/\sh1 c.1.2)/\q7 x r a e c))))
theorem C2b (x:A6 H4.args):I2 Tryz.prog tys B3n D2z H4 Tryz.f122 x=A4q x:=by kernel_rfl
def A5u:A6 J5.args->Prop:=fun(x:QQ×QQ×Unit)=>True/\∀(r:Int×Int×Bool×Unit),E5 r.1/\E5 r.2.1/\True/\True->(P8 x.1->r.1=E2q x.1/\r.2.1=D8o x.1/\r.2.2.1=true)/\(¬P8 x.1->r.2.2.1=false)->True/\∀(b:Int×Int×Bool×Unit),E5 b.1/\E5 b.2.1/\True/\True->(P8 x.2.1->b.1=E2q x.2.1/\b.2.1=D8o x.2.1/\b.2.2.1=true)/\(¬P8 x.2.1->b.2.2.1=false)->(sel r.2.2.1 b.2.2.1 false=true->(0:Int)<IntKind.i64.wrap (r.2.1*b.2.1)/\∀(a:QQ×Unit),WfQ a.1/\True->a.1=rc (mkRat (IntKind.i64.wrap (r.1*b.1)) (IntKind.i64.wrap (r.2.1*b.2.1)).toNat)->a.1=rc (rv x.1*rv x.2.1))/\(sel r.2.2.1 b.2.2.1 false=false->True/\∀(r:(Bool×List Int)×List Int×Unit),WfZ r.1/\WfU r.2.1/\True->(nv x.1.2=0->r.1=zi/\r.2.1= [(1:Int)])/\(nv x.1.2≠0->r.1=x.1.1/\r.2.1=x.1.2)->True/\∀(a:(Bool×List Int)×List Int×Unit),WfZ a.1/\WfU a.2.1/\True->(nv x.2.1.2=0->a.1=zi/\a.2.1= [(1:Int)])/\(nv x.2.1.2≠0->a.1=x.2.1.1/\a.2.1=x.2.1.2)->(sh1 r.1.2/\sh1 a.1.2)/\∀(d:(Bool×List Int)×Unit),WfZ d.1/\True->d.1=ic (iv r.1*iv a.1)->(sh1 r.2.1/\sh1 a.2.1)/\∀(c:List Int×Unit),WfU c.1/\True->c.1=nc (nv r.2.1*nv a.2.1)->(nv c.1≠0/\sh2 d.1.2/\sh2 c.1)/\∀(r:QQ×Unit),WfQ r.1/\True->r.1=rc (mkRat (iv d.1) (nv c.1))->r.1=rc (rv x.1*rv x.2.1))
theorem C2f (x:A6 J5.args):I2 Tryz.prog tys B1x D4d J5 Tryz.f71 x=A5u x:=by kernel_rfl
def A5w:A6 P5.args->Prop:=fun(x:QQ×Unit)=>sh3 x.1/\∀(r:QQ×Unit),WfQ r.1/\True->r.1=rc (rv x.1)->sh0 r.1.1.2/\∀(a:(Bool×List Int)×Unit),WfZ a.1/\True->a.1=ic (-iv r.1.1)->(a.1,r.1.2)=rc (-rv x.1)
theorem C2h (x:A6 P5.args):I2 Tryz.prog tys B3v D3g P5 Tryz.f73 x=A5w x:=by kernel_rfl
def A5f:A6 P4.args->Prop:=fun(x:QQ×Unit)=>True/\∀(r:Int×Unit),E5 r.1/\True->r.1=(rv x.1).num.sign->(decide (r.1=0)=true->(rv x.1=(0:Rat)->false=false)/\(rv x.1≠(0:Rat)->dQ=rc (rv x.1)⁻¹/\false=true))/\(decide (r.1=0)=false->sh3 x.1/\∀(r:QQ×Unit),WfQ r.1/\True->r.1=rc (rv x.1)->(rv x.1=(0:Rat)->true=false)/\(rv x.1≠(0:Rat)->((r.1.1.1,r.1.2),r.1.1.2)=rc (rv x.1)⁻¹/\true=true))
theorem B9t (x:A6 P4.args):I2 Tryz.prog tys B3x D3j P4 Tryz.f117 x=A5f x:=by kernel_rfl
theorem D5q {q:Rat} (h:q.num.sign=0):q=0:=Rat.num_eq_zero.1 (Int.sign_eq_zero_iff_zero.1 h)
theorem C0d {x:N8} (h:P8 x): -2147483647<=E2q x/\E2q x<=2147483647/\0<D8o x/\D8o x<=2147483647:=by
 obtain⟨h1,h2⟩:=h;have:=N3 x.1;unfold E2q D8o;split
 . omega
 . omega
theorem D0c {a b M N:Int} (h1: -M<=a) (h2:a<=M) (h3:0<=b) (h4:b<=N): -(M*N)<=a*b/\a*b<=M*N:=by
 have hM:0<=M:=by omega
 have a1:M*b<=M*N:=Int.mul_le_mul_of_nonneg_left h4 hM;have a2:a*b<=M*b:=Int.mul_le_mul_of_nonneg_right h2 h3;have a3: -M*b<=a*b:=Int.mul_le_mul_of_nonneg_right h1 h3;rw[Int.neg_mul]at a3;omega
theorem F5r {a b c d:Int} (ha: -2147483647<=a/\a<=2147483647) (hb: -2147483647<=b/\b<=2147483647) (hc:0<c/\c<=2147483647) (hd:0<d/\d<=2147483647):
 IntKind.i64.wrap (c*d)=c*d/\0<c*d/\IntKind.i64.wrap (IntKind.i64.wrap (a*d)+IntKind.i64.wrap (b*c))=a*d+b*c:=by
 have h1:=D0c ha.1 ha.2 (Int.le_of_lt hd.1) hd.2;have h2:=D0c hb.1 hb.2 (Int.le_of_lt hc.1) hc.2;have h3:=D0c (a:=c) (b:=d) (M:=2147483647) (by omega) hc.2 (Int.le_of_lt hd.1) hd.2;have h4:0<c*d:=Int.mul_pos hc.1 hd.1;rw[wr (a:=c*d) (by omega) (by omega),wr (a:=a*d) (by omega) (by omega),wr (a:=b*c) (by omega) (by omega),wr (by omega) (by omega)];exact⟨rfl,h4,rfl⟩
theorem C1g (x:A6 H4.args) (hw:awf H4.args x) (hp:H4.pre x):A4q x:=by
 obtain⟨p,q,_⟩:=x;have lp1:A9 p.1.2:=A5 hw.1.1.2.2;have lp2:A9 p.2:=A5 hw.1.2.2;have lq1:A9 q.1.2:=A5 hw.2.1.1.2.2;have lq2:A9 q.2:=A5 hw.2.1.2.2;change N8 at p q;obtain⟨hp3,hq3⟩:sh3 p/\sh3 q:=hp;obtain⟨hp1,hp2⟩:=hp3;obtain⟨hq1,hq2⟩:=hq3;simp only[A4q,q7];refine⟨trivial, ?_⟩;rintro⟨s,_⟩ _ hs;simp only at hs⊢;refine⟨fun h=>⟨⟨hq1,hq2⟩, ?_⟩,fun h=>⟨trivial, ?_⟩⟩
 . rintro⟨r,_⟩ _ hr;simp only at hr⊢;rw[hs]at h;rw[hr,D5q (of_decide_eq_true h),Rat.zero_add]
 rintro⟨t,_⟩ _ ht;simp only at ht⊢;refine⟨fun h=>⟨⟨hp1,hp2⟩, ?_⟩,fun h=>⟨trivial, ?_⟩⟩
 . rintro⟨r,_⟩ _ hr;simp only at hr⊢;rw[ht]at h;rw[hr,D5q (of_decide_eq_true h),Rat.add_zero]
 rintro⟨an,ad,aok,_⟩ _ ⟨a1,a2⟩;refine⟨trivial, ?_⟩;rintro⟨bn,bd,bok,_⟩ _ ⟨b1,b2⟩;change Int at an ad bn bd;simp only at a1 a2 b1 b2⊢;refine⟨fun h=> ?_,fun _=>⟨trivial, ?_⟩⟩
 . rw[O1,Bool.and_eq_true]at h;have sp:P8 p:=Decidable.byContradiction fun hn=>by have:=a2 hn;rw[this]at h;exact absurd h.1 (by decide)
   have sq:P8 q:=Decidable.byContradiction fun hn=>by have:=b2 hn;rw[this]at h;exact absurd h.2 (by decide)
   obtain⟨ea,ed,_⟩:=a1 sp;obtain⟨eb,ee,_⟩:=b1 sq;obtain⟨x1,x2,x3,x4⟩:=C0d sp;obtain⟨y1,y2,y3,y4⟩:=C0d sq;obtain⟨w1,w2,w3⟩:=F5r (a:=an) (b:=bn) (c:=ad) (d:=bd) (by omega) (by omega) (by omega) (by omega);rw[w1,w3];refine⟨w2, ?_⟩;rintro⟨r,_⟩ _ hr;simp only at hr⊢;rw[hr, <-D0e p, <-D0e q, <-ea, <-ed, <-eb, <-ee,D1o (by omega) (by omega),Int.toNat_of_nonneg (by omega),Int.toNat_of_nonneg (by omega),Int.toNat_mul (by omega) (by omega)]
 . rintro⟨n,d,_⟩ ⟨hwn,hwd,_⟩ h1;refine⟨trivial, ?_⟩;rintro⟨m,e,_⟩ ⟨hwm,hwe,_⟩ h2;have ln:A9 n.2:=A5 hwn.2.2;have ld:A9 d:=A5 hwd.2;have lm:A9 m.2:=A5 hwm.2.2;have le:A9 e:=A5 hwe.2;refine⟨trivial, ?_⟩;rintro⟨c,_⟩ _ hc;change D4i at n m;change List Int at d e;simp only at h1 h2 hc⊢;obtain⟨d0,hP⟩:=C1j h1;obtain⟨e0,hQ⟩:=C1j h2;obtain⟨n1,d1⟩:=B3q (k:=2199023255552) h1 hp1 hp2 (by decide);obtain⟨m1,e1⟩:=B3q (k:=2199023255552) h2 hq1 hq2 (by decide);rw[hP,hQ];refine⟨fun h=> ?_,fun h=> ?_⟩
   . have h:=of_decide_eq_true h;have he:nv d=nv e:=E1h.1 (hc▸h);refine⟨⟨by show n.2.length<= _;omega,by show m.2.length<= _;omega⟩, ?_⟩;rintro⟨u,_⟩ _ hu;simp only at hu⊢;have l1:=D7f (x:=n) (y:=m) ln lm n1 m1;refine⟨⟨d0,by show u.2.length<= _;rw[hu];omega,by show d.length<= _;omega⟩, ?_⟩;rintro⟨r,_⟩ _ hr;simp only at hr⊢;rw[hr,hu,Z4, <-he,F2y d0]
   . --the general case:the same four times
     have x1:=C3u (x:=n) (y:=(false,e)) ln le;have x2:=C3u (x:=m) (y:=(false,d)) lm ld;have g1:sh1 n.2/\sh1 e:=⟨by show n.2.length<= _;omega,by show e.length<= _;omega⟩;have g2:sh1 m.2/\sh1 d:=⟨by show m.2.length<= _;omega,by show d.length<= _;omega⟩;have fin:∀u v:D4i,u=ic (iv n*iv (false,e))->v=ic (iv m*iv (false,d))->(sh1 u.2/\sh1 v.2)/\∀(r_6:(Bool×List Int)×Unit),WfZ r_6.1/\True->r_6.1=ic (iv u+iv v)->(sh1 d/\sh1 e)/\∀(r_7:List Int×Unit),WfU r_7.1/\True->r_7.1=nc (nv d*nv e)->(nv r_7.1≠(0:Nat)/\sh2 r_6.1.2/\sh2 r_7.1)/\∀(r:QQ×Unit),WfQ r.1/\True->r.1=rc (mkRat (iv r_6.1) (nv r_7.1))->r.1=rc (mkRat (iv n) (nv d)+mkRat (iv m) (nv e)):=by
      intro u v hu hv;have lu:u.2.length<=4398046511104:=by
       rw[hu];refine Nat.le_trans x1 ?_;show n.2.length+e.length<= _;omega
      have lv:v.2.length<=4398046511104:=by
       rw[hv];refine Nat.le_trans x2 ?_;show m.2.length+d.length<= _;omega
      refine⟨⟨by show u.2.length<= _;omega,by show v.2.length<= _;omega⟩, ?_⟩;rintro⟨w,_⟩ _ hw';refine⟨⟨g2.2,g1.2⟩, ?_⟩;rintro⟨z,_⟩ _ hz;simp only at hw' hz⊢;have l1:=D7f (x:=u) (y:=v) (by rw[hu];exact E9k _) (by rw[hv];exact E9k _) lu lv;have l2:=C6r ld le;refine⟨⟨by rw[hz,H3];exact Nat.mul_ne_zero d0 e0,by show w.2.length<= _;rw[hw'];omega,by show z.length<= _;rw[hz];omega⟩, ?_⟩;rintro⟨r,_⟩ _ hr;simp only at hr⊢;rw[hr,hw',hz,H3,Z4,hu,hv,Z4,Z4,B6r,B6r,D1o d0 e0]
     exact⟨⟨g1,fun u _ hu=>⟨⟨g2,fun v _ hv=>⟨fin _ _ hu hv,fin _ _ hu hv⟩⟩,g2,fun v _ hv=>fin _ _ hu hv⟩⟩,g1,fun u _ hu=>⟨g2,fun v _ hv=>fin _ _ hu hv⟩⟩
def E8k:An:= {loop:= [(2,⟨[0],[],[(3,false,[.val (.int .i64)])],[],[]⟩)]}
def D3t:B4:= []
def E4g:An:= {loop:= [(4,⟨[0,1],[],[(5,false,[.val (.int .i64)])],[],[]⟩)],plan:= [(6,[3,7],[],true,(.p 0 (.p 1 (.p 2 (.q 3 (.p 4 (.p 5 (.p 6 (.q 7 (.p 8 .done))))))))))]}
def C7w:B4:= []
def C6o:An:= {}
def A8c:B4:= [(191,J0)]
def F1k:An:= {join:= [(8,⟨[0,1,5,7],[0],[(6,false,[.val (.int .u64)])],[],[]⟩),(10,⟨[0,1,5,7],[0],[(6,false,[.val (.int .u64)])],[],[]⟩)],loop:= [(4,⟨[0,1,5],[],[(6,false,[.val (.int .u64)]),(7,false,[.val (.int .i64)])],[],[(0, .row (.int .u32) 153)]⟩)]}
def D8a:B4:= [(191,J0)]
def F1a:An:= {join:= [(12,⟨[0,1,6,8],[0],[(9,false,[.val (.int .u64)])],[],[]⟩),(17,⟨[0,1,6,8,9],[0],[(7,false,[.val (.int .u64)]),(10,false,[.val (.int .u64)])],[],[]⟩)],loop:= [(7,⟨[0,1,6],[],[(7,false,[.val (.int .u64)]),(8,false,[.val (.int .i64)])],[],[(0, .row (.int .u32) 153)]⟩)]}
def D7i:B4:= [(191,J0),(194,R1)]
def D5c:An:= {loop:= [(7,⟨[0,1],[],[(5,false,[.val (.int .i64)])],[],[]⟩)],plan:= [(9,[3,7],[],true,(.p 0 (.p 1 (.p 2 (.q 3 (.p 4 (.p 5 (.p 6 (.q 7 (.p 8 .done)))))))))),(11,[3,7],[],true,(.p 0 (.p 1 (.p 2 (.q 3 (.p 4 (.p 5 (.p 6 (.q 7 (.p 8 .done))))))))))]}
def B6g:B4:= [(191,J0)]
def F2j:An:= {loop:= [(7,⟨[0,1,5,6],[],[(7,false,[.val (.int .u64)]),(8,false,[.val (.int .i64)])],[],[(0, .row (.int .u32) 153)]⟩),(3,⟨[0,1,5],[],[(6,false,[.val (.int .i64)])],[],[(0, .row (.int .u32) 153)]⟩)],plan:= [(9,[6,11,16],[],true,(.p 0 (.p 1 (.p 2 (.p 3 (.p 4 (.p 5 (.q 6 (.p 7 (.p 8 (.p 9 (.p 10 (.q 11 (.p 12 (.p 13 (.p 14 (.p 15 (.q 16 (.p 17 (.p 18 (.p 19 (.p 20 (.p 21 .done)))))))))))))))))))))))]}
def D7w:B4:= [(191,J0)]
def E0g:An:= {loop:= [(6,⟨[0],[],[(4,false,[.val (.int .u64)]),(5,false,[.val (.int .i64)])],[],[]⟩)]}
def C0e:B4:= [(191,J0)]
def B7w:A6 J0.args->Prop:=fun(x:List Int×Unit)=>∃(I:Int×Unit->Prop),∃(μ:Int×Unit->Nat),I ((x.1.length:Int),())/\∀(p:Int×Unit),E5 p.1/\True->I p->(decide (0<p.1)=true->(0:Int)<=IntKind.i64.wrap (p.1-1)/\IntKind.i64.wrap (p.1-1)<(x.1.length:Int))/\(sel (decide (0<p.1)) (decide (gx (0:Int) x.1 (IntKind.i64.wrap (p.1-1))=(0:Int))) false=true->I (IntKind.i64.wrap (p.1-1),())/\μ (IntKind.i64.wrap (p.1-1),())<μ p)/\(sel (decide (0<p.1)) (decide (gx (0:Int) x.1 (IntKind.i64.wrap (p.1-1))=(0:Int))) false=false->((0:Int)<=(0:Int)/\0<=p.1/\p.1<=(x.1.length:Int))/\(((0:Nat)+(List.drop (Int.toNat (0:Int)) (List.take (Int.toNat p.1) x.1)).length)*(4:Nat)<=(140737488355328:Nat)/\(0:Nat)+(List.drop (Int.toNat (0:Int)) (List.take (Int.toNat p.1) x.1)).length<=9223372036854775807)/\List.drop (Int.toNat (0:Int)) (List.take (Int.toNat p.1) x.1)=nc (nv x.1))
theorem D4j (x:A6 J0.args):I2 Tryz.prog tys D3t E8k J0 Tryz.f191 x=B7w x:=by kernel_rfl
def B3b:A6 R6.args->Prop:=fun(x:List Int×List Int×Unit)=>(decide ((x.1.length:Int)≠(x.2.1.length:Int))=true->false=decide (x.1=x.2.1))/\(decide ((x.1.length:Int)≠(x.2.1.length:Int))=false->∃(I:Int×Unit->Prop),∃(μ:Int×Unit->Nat),I ((0:Int),())/\∀(p:Int×Unit),E5 p.1/\True->I p->(decide (p.1<(x.1.length:Int))=true->(0<=p.1/\p.1<(x.1.length:Int))/\(0<=p.1/\p.1<(x.2.1.length:Int))/\(decide (gx (0:Int) x.1 p.1≠gx (0:Int) x.2.1 p.1)=true->false=decide (x.1=x.2.1))/\(decide (gx (0:Int) x.1 p.1≠gx (0:Int) x.2.1 p.1)=false->I (IntKind.i64.wrap (p.1+1),())/\μ (IntKind.i64.wrap (p.1+1),())<μ p))/\(decide (p.1<(x.1.length:Int))=false->true=decide (x.1=x.2.1)))
theorem D0l (x:A6 R6.args):I2 Tryz.prog tys C7w E4g R6 Tryz.f77 x=B3b x:=by kernel_rfl
def A2j:A6 H9.args->Prop:=fun(x:Int×Unit)=>(0:(Ty.int IntKind.u64).den)<=(32:Int)/\sh0 [IntKind.u32.wrap x.1,IntKind.u32.wrap (Int.fdiv x.1 ((2:Int)^Min.min (Int.toNat (32:Int)) IntKind.u64.bits))]/\∀(r:List Int×Unit),WfU r.1/\True->r.1=nc (nv [IntKind.u32.wrap x.1,IntKind.u32.wrap (Int.fdiv x.1 ((2:Int)^Min.min (Int.toNat (32:Int)) IntKind.u64.bits))])->r.1=nc x.1.toNat
theorem B5c (x:A6 H9.args):I2 Tryz.prog tys A8c C6o H9 Tryz.f176 x=A2j x:=by kernel_rfl
def C4b:A6 A0y.args->Prop:=fun(x:List Int×List Int×Unit)=>((0:Int)<=IntKind.i64.wrap (Max.max (x.1.length:Int) (x.2.1.length:Int)+(1:Int))/\IntKind.i64.wrap (Max.max (x.1.length:Int) (x.2.1.length:Int)+(1:Int))<=IntKind.i64.wrap (Max.max (x.1.length:Int) (x.2.1.length:Int)+(1:Int))/\(↑(4:Nat):Int)*IntKind.i64.wrap (Max.max (x.1.length:Int) (x.2.1.length:Int)+(1:Int))<=(281474976710656:Int)/\IntKind.i64.wrap (Max.max (x.1.length:Int) (x.2.1.length:Int)+(1:Int))<=(9223372036854775807:Int))/\∃(I:Int×Int×List Int×Unit->Prop),∃(μ:Int×Int×List Int×Unit->Nat),I ((0:Int),(0:Int),List.replicate (IntKind.i64.wrap (Max.max (x.1.length:Int) (x.2.1.length:Int)+(1:Int))).toNat (0:Int),())/\∀(p:Int×Int×List Int×Unit),L6 p.1/\E5 p.2.1/\WfU p.2.2.1/\True->I p->(decide (p.2.1<(p.2.2.1.length:Int))=true->∃(J:Int×Unit->Prop),((decide (p.2.1<(x.1.length:Int))=true->(0<=p.2.1/\p.2.1<(x.1.length:Int))/\J (IntKind.u64.wrap (p.1+IntKind.u64.wrap (gx (0:Int) x.1 p.2.1)),()))/\(decide (p.2.1<(x.1.length:Int))=false->J (p.1,())))/\∀(b:Int×Unit),L6 b.1/\True->J b->∃(J:Int×Unit->Prop),((decide (p.2.1<(x.2.1.length:Int))=true->(0<=p.2.1/\p.2.1<(x.2.1.length:Int))/\J (IntKind.u64.wrap (b.1+IntKind.u64.wrap (gx (0:Int) x.2.1 p.2.1)),()))/\(decide (p.2.1<(x.2.1.length:Int))=false->J b))/\∀(a:Int×Unit),L6 a.1/\True->J a->(0<=p.2.1/\p.2.1<(p.2.2.1.length:Int))/\(0:(Ty.int IntKind.u64).den)<=(32:Int)/\I (Int.fdiv a.1 ((2:Int)^Min.min (Int.toNat (32:Int)) IntKind.u64.bits),IntKind.i64.wrap (p.2.1+1),List.set p.2.2.1 (Int.toNat p.2.1) (IntKind.u32.wrap a.1),())/\μ (Int.fdiv a.1 ((2:Int)^Min.min (Int.toNat (32:Int)) IntKind.u64.bits),IntKind.i64.wrap (p.2.1+1),List.set p.2.2.1 (Int.toNat p.2.1) (IntKind.u32.wrap a.1),())<μ p)/\(decide (p.2.1<(p.2.2.1.length:Int))=false->sh0 p.2.2.1/\∀(r:List Int×Unit),WfU r.1/\True->r.1=nc (nv p.2.2.1)->r.1=nc (nv x.1+nv x.2.1))
theorem D9t (x:A6 A0y.args):I2 Tryz.prog tys D8a F1k A0y Tryz.f157 x=C4b x:=by kernel_rfl
def C5c:A6 A1g.args->Prop:=fun(x:List Int×List Int×Unit)=>(sh1 x.1/\sh1 x.2.1)/\∀(r:Int×Unit),E5 r.1/\True->r.1=B9h (nv x.1) (nv x.2.1)->(decide (r.1<0)=true->(nv x.1<nv x.2.1->D4n Int= []/\false=false)/\(nv x.2.1<=nv x.1->D4n Int=nc (nv x.1-nv x.2.1)/\false=true))/\(decide (r.1<0)=false->sh0 x.1/\∀(r:List Int×Unit),WfU r.1/\True->r.1=nc (nv x.1)->sh0 x.2.1/\∀(b:List Int×Unit),WfU b.1/\True->b.1=nc (nv x.2.1)->((0:Int)<=(r.1.length:Int)/\(r.1.length:Int)<=(r.1.length:Int)/\(↑(4:Nat):Int)*(r.1.length:Int)<=(281474976710656:Int)/\(r.1.length:Int)<=(9223372036854775807:Int))/\∃(I:Int×Int×List Int×Unit->Prop),∃(μ:Int×Int×List Int×Unit->Nat),I ((0:Int),(0:Int),List.replicate (r.1.length:Int).toNat (0:Int),())/\∀(p:Int×Int×List Int×Unit),L6 p.1/\E5 p.2.1/\WfU p.2.2.1/\True->I p->(decide (p.2.1<(r.1.length:Int))=true->∃(J:Int×Unit->Prop),((decide (p.2.1<(b.1.length:Int))=true->(0<=p.2.1/\p.2.1<(b.1.length:Int))/\J (IntKind.u64.wrap (p.1+IntKind.u64.wrap (gx (0:Int) b.1 p.2.1)),()))/\(decide (p.2.1<(b.1.length:Int))=false->J (p.1,())))/\∀(c:Int×Unit),L6 c.1/\True->J c->(0<=p.2.1/\p.2.1<(r.1.length:Int))/\∃(J:Int×Int×Unit->Prop),((decide (IntKind.u64.wrap (gx (0:Int) r.1 p.2.1)<c.1)=true->J ((1:Int),IntKind.u64.wrap (IntKind.u64.wrap (gx (0:Int) r.1 p.2.1)+(4294967296:Int)),()))/\(decide (IntKind.u64.wrap (gx (0:Int) r.1 p.2.1)<c.1)=false->J ((0:Int),IntKind.u64.wrap (gx (0:Int) r.1 p.2.1),())))/\∀(a:Int×Int×Unit),L6 a.1/\L6 a.2.1/\True->J a->(0<=p.2.1/\p.2.1<(p.2.2.1.length:Int))/\I (a.1,IntKind.i64.wrap (p.2.1+1),List.set p.2.2.1 (Int.toNat p.2.1) (IntKind.u32.wrap (IntKind.u64.wrap (a.2.1-c.1))),())/\μ (a.1,IntKind.i64.wrap (p.2.1+1),List.set p.2.2.1 (Int.toNat p.2.1) (IntKind.u32.wrap (IntKind.u64.wrap (a.2.1-c.1))),())<μ p)/\(decide (p.2.1<(r.1.length:Int))=false->sh0 p.2.2.1/\∀(r:List Int×Unit),WfU r.1/\True->r.1=nc (nv p.2.2.1)->(nv x.1<nv x.2.1->r.1= []/\true=false)/\(nv x.2.1<=nv x.1->r.1=nc (nv x.1-nv x.2.1)/\true=true)))
theorem E1l (x:A6 A1g.args):I2 Tryz.prog tys D7i F1a A1g Tryz.f158 x=C5c x:=by kernel_rfl
def A7i:A6 R1.args->Prop:=fun(x:List Int×List Int×Unit)=>sh0 x.1/\∀(r:List Int×Unit),WfU r.1/\True->r.1=nc (nv x.1)->sh0 x.2.1/\∀(a:List Int×Unit),WfU a.1/\True->a.1=nc (nv x.2.1)->(decide ((r.1.length:Int)≠(a.1.length:Int))=true->(decide ((r.1.length:Int)<(a.1.length:Int))=true->(-1:Int)=B9h (nv x.1) (nv x.2.1))/\(decide ((r.1.length:Int)<(a.1.length:Int))=false->(1:Int)=B9h (nv x.1) (nv x.2.1)))/\(decide ((r.1.length:Int)≠(a.1.length:Int))=false->∃(I:Int×Unit->Prop),∃(μ:Int×Unit->Nat),I (IntKind.i64.wrap ((r.1.length:Int)-(1:Int)),())/\∀(p:Int×Unit),E5 p.1/\True->I p->(decide (0<=p.1)=true->(0<=p.1/\p.1<(r.1.length:Int))/\(0<=p.1/\p.1<(a.1.length:Int))/\(decide (gx (0:Int) r.1 p.1<gx (0:Int) a.1 p.1)=true->(-1:Int)=B9h (nv x.1) (nv x.2.1))/\(decide (gx (0:Int) r.1 p.1<gx (0:Int) a.1 p.1)=false->(0<=p.1/\p.1<(r.1.length:Int))/\(0<=p.1/\p.1<(a.1.length:Int))/\(decide (gx (0:Int) a.1 p.1<gx (0:Int) r.1 p.1)=true->(1:Int)=B9h (nv x.1) (nv x.2.1))/\(decide (gx (0:Int) a.1 p.1<gx (0:Int) r.1 p.1)=false->I (IntKind.i64.wrap (p.1-1),())/\μ (IntKind.i64.wrap (p.1-1),())<μ p)))/\(decide (0<=p.1)=false->(0:Int)=B9h (nv x.1) (nv x.2.1)))
theorem C6h (x:A6 R1.args):I2 Tryz.prog tys B6g D5c R1 Tryz.f194 x=A7i x:=by kernel_rfl
def C5x:A6 A3a.args->Prop:=fun(x:List Int×List Int×Unit)=>((0:Int)<=IntKind.i64.wrap ((x.1.length:Int)+(x.2.1.length:Int))/\IntKind.i64.wrap ((x.1.length:Int)+(x.2.1.length:Int))<=IntKind.i64.wrap ((x.1.length:Int)+(x.2.1.length:Int))/\(↑(4:Nat):Int)*IntKind.i64.wrap ((x.1.length:Int)+(x.2.1.length:Int))<=(281474976710656:Int)/\IntKind.i64.wrap ((x.1.length:Int)+(x.2.1.length:Int))<=(9223372036854775807:Int))/\∃(I:Int×List Int×Unit->Prop),∃(μ:Int×List Int×Unit->Nat),I ((0:Int),List.replicate (IntKind.i64.wrap ((x.1.length:Int)+(x.2.1.length:Int))).toNat (0:Int),())/\∀(p:Int×List Int×Unit),E5 p.1/\WfU p.2.1/\True->I p->(decide (p.1<(x.1.length:Int))=true->∃(I_1:Int×Int×List Int×Unit->Prop),∃(μ_1:Int×Int×List Int×Unit->Nat),I_1 ((0:Int),(0:Int),p.2.1,())/\∀(a:Int×Int×List Int×Unit),L6 a.1/\E5 a.2.1/\WfU a.2.2.1/\True->I_1 a->(decide (a.2.1<(x.2.1.length:Int))=true->((0:Int)<=IntKind.i64.wrap (p.1+a.2.1)/\IntKind.i64.wrap (p.1+a.2.1)<(a.2.2.1.length:Int))/\(0<=p.1/\p.1<(x.1.length:Int))/\(0<=a.2.1/\a.2.1<(x.2.1.length:Int))/\((0:Int)<=IntKind.i64.wrap (p.1+a.2.1)/\IntKind.i64.wrap (p.1+a.2.1)<(a.2.2.1.length:Int))/\(0:(Ty.int IntKind.u64).den)<=(32:Int)/\I_1 ((IntKind.u64.wrap (a.1+IntKind.u64.wrap (IntKind.u64.wrap (List.getD a.2.2.1 (IntKind.i64.wrap (p.1+a.2.1)).toNat (0:Int))+IntKind.u64.wrap (IntKind.u64.wrap (gx (0:Int) x.1 p.1)*IntKind.u64.wrap (gx (0:Int) x.2.1 a.2.1))))).fdiv ((2:Int)^Min.min (Int.toNat (32:Int)) IntKind.u64.bits),IntKind.i64.wrap (a.2.1+1),List.set a.2.2.1 (IntKind.i64.wrap (p.1+a.2.1)).toNat (IntKind.u32.wrap (IntKind.u64.wrap (a.1+IntKind.u64.wrap (IntKind.u64.wrap (List.getD a.2.2.1 (IntKind.i64.wrap (p.1+a.2.1)).toNat (0:Int))+IntKind.u64.wrap (IntKind.u64.wrap (gx (0:Int) x.1 p.1)*IntKind.u64.wrap (gx (0:Int) x.2.1 a.2.1)))))),())/\μ_1 ((IntKind.u64.wrap (a.1+IntKind.u64.wrap (IntKind.u64.wrap (List.getD a.2.2.1 (IntKind.i64.wrap (p.1+a.2.1)).toNat (0:Int))+IntKind.u64.wrap (IntKind.u64.wrap (gx (0:Int) x.1 p.1)*IntKind.u64.wrap (gx (0:Int) x.2.1 a.2.1))))).fdiv ((2:Int)^Min.min (Int.toNat (32:Int)) IntKind.u64.bits),IntKind.i64.wrap (a.2.1+1),List.set a.2.2.1 (IntKind.i64.wrap (p.1+a.2.1)).toNat (IntKind.u32.wrap (IntKind.u64.wrap (a.1+IntKind.u64.wrap (IntKind.u64.wrap (List.getD a.2.2.1 (IntKind.i64.wrap (p.1+a.2.1)).toNat (0:Int))+IntKind.u64.wrap (IntKind.u64.wrap (gx (0:Int) x.1 p.1)*IntKind.u64.wrap (gx (0:Int) x.2.1 a.2.1)))))),())<μ_1 a)/\(decide (a.2.1<(x.2.1.length:Int))=false->((0:Int)<=IntKind.i64.wrap (p.1+(x.2.1.length:Int))/\IntKind.i64.wrap (p.1+(x.2.1.length:Int))<(a.2.2.1.length:Int))/\I (IntKind.i64.wrap (p.1+1),List.set a.2.2.1 (IntKind.i64.wrap (p.1+(x.2.1.length:Int))).toNat (IntKind.u32.wrap a.1),())/\μ (IntKind.i64.wrap (p.1+1),List.set a.2.2.1 (IntKind.i64.wrap (p.1+(x.2.1.length:Int))).toNat (IntKind.u32.wrap a.1),())<μ p))/\(decide (p.1<(x.1.length:Int))=false->sh0 p.2.1/\∀(r:List Int×Unit),WfU r.1/\True->r.1=nc (nv p.2.1)->r.1=nc (nv x.1*nv x.2.1))
theorem D9p (x:A6 A3a.args):I2 Tryz.prog tys D7w F2j A3a Tryz.f150 x=C5x x:=by kernel_rfl
def A9t:A6 U6.args->Prop:=fun(x:List Int×Unit)=>sh0 x.1/\∀(r:List Int×Unit),WfU r.1/\True->r.1=nc (nv x.1)->(decide ((2:Int)<(r.1.length:Int))=true->(nv x.1<18446744073709551616->(0:Int)=(↑(nv x.1):Int)/\false=true)/\((18446744073709551616:Nat)<=nv x.1->false=false))/\(decide ((2:Int)<(r.1.length:Int))=false->∃(I:Int×Int×Unit->Prop),∃(μ:Int×Int×Unit->Nat),I ((0:Int),IntKind.i64.wrap ((r.1.length:Int)-(1:Int)),())/\∀(p:Int×Int×Unit),L6 p.1/\E5 p.2.1/\True->I p->(decide (0<=p.2.1)=true->(0:(Ty.int IntKind.u64).den)<=(32:Int)/\(0<=p.2.1/\p.2.1<(r.1.length:Int))/\I (IntKind.u64.wrap (↑(BitVec.ofInt IntKind.u64.bits (IntKind.u64.wrap (p.1*2^Min.min (Int.toNat (32:Int)) IntKind.u64.bits)) |||BitVec.ofInt IntKind.u64.bits (IntKind.u64.wrap (gx (0:Int) r.1 p.2.1))).toNat:Int),IntKind.i64.wrap (p.2.1-1),())/\μ (IntKind.u64.wrap (↑(BitVec.ofInt IntKind.u64.bits (IntKind.u64.wrap (p.1*2^Min.min (Int.toNat (32:Int)) IntKind.u64.bits)) |||BitVec.ofInt IntKind.u64.bits (IntKind.u64.wrap (gx (0:Int) r.1 p.2.1))).toNat:Int),IntKind.i64.wrap (p.2.1-1),())<μ p)/\(decide (0<=p.2.1)=false->(nv x.1<18446744073709551616->p.1=(↑(nv x.1):Int)/\true=true)/\((18446744073709551616:Nat)<=nv x.1->true=false)))
theorem C9q (x:A6 U6.args):I2 Tryz.prog tys C0e E0g U6 Tryz.f224 x=A9t x:=by kernel_rfl
theorem D4q (x:A6 J0.args) (hw:awf J0.args x) (hp:J0.pre x):B7w x:=by
 obtain⟨l,_⟩:=x;have hl:l.length<=35184372088832:=hp;have hb:A9 l:=A5 hw.1.2;change List Int at l;simp only[B7w];refine⟨fun p=>0<=p.1/\p.1<=(l.length:Int)/\∀i x,p.1.toNat<=i->l[i]? =some x->x=0,fun p=>p.1.toNat,⟨Int.natCast_nonneg _,Int.le_refl _,fun i x hi hx=> ?_⟩, ?_⟩
 . rw[List.getElem?_eq_none (by simpa using hi)]at hx;cases hx
 rintro⟨n,_⟩ _ ⟨h0,h1,h2⟩;change Int at n;simp only at h0 h1 h2⊢;refine⟨fun h=> ?_,fun h=> ?_,fun h=> ?_⟩
 . have h:=of_decide_eq_true h;rw[wr (by omega) (by omega)];exact⟨by omega,by omega⟩
 . rw[O1]at h;simp only[Bool.and_eq_true,decide_eq_true_eq]at h;obtain⟨h3,h4⟩:=h;rw[wr (by omega) (by omega)]at h4⊢;refine⟨⟨by omega,by omega,fun i x hi hx=> ?_⟩,by omega⟩;by_cases he:i=(n-1).toNat
   . subst he;rw[K9 (d:=(0:Int)) (by omega) (by omega)]at hx;cases hx;exact h4
   . exact h2 i x (by omega) hx
 . refine⟨⟨Int.le_refl _,h0,h1⟩, ?_⟩;have e:(l.take n.toNat).drop (Int.toNat 0)=l.take n.toNat:=rfl;rw[e];have hlen:(l.take n.toNat).length<=l.length:=by rw[List.length_take];omega
   refine⟨⟨by omega,by omega⟩,F6n hb (by omega) h2 ?_⟩;rw[O1]at h;simp only[Bool.and_eq_false_iff,decide_eq_false_iff_not]at h;rcases h with h|h
   . exact .inl (by omega)
   . by_cases hn:n=0
     . exact .inl (by omega)
     . rw[wr (by omega) (by omega)]at h;refine .inr ⟨gx 0 l (n-1), ?_,h⟩;have:=K9 (d:=(0:Int)) (l:=l) (i:=n-1) (by omega) (by omega);rw[<-this];congr 1;omega
theorem D3b (x:A6 R6.args) (hw:awf R6.args x) (_:R6.pre x):B3b x:=by
 obtain⟨a,b,_⟩:=x;have hl:a.length<=9223372036854775807:=hw.1.1;change List Int at a b;simp only[B3b];refine⟨fun h=> ?_,fun h=> ?_⟩
 . have h:=of_decide_eq_true h;exact(decide_eq_false fun e=>h (by rw[e])).symm
 . have hlen:a.length=b.length:=by have:=of_decide_eq_false h;omega
   refine⟨fun p=>0<=p.1/\p.1<=(a.length:Int)/\a.take p.1.toNat=b.take p.1.toNat,fun p=>((a.length:Int)-p.1).toNat,⟨Int.le_refl _,Int.natCast_nonneg _,by simp⟩, ?_⟩;rintro⟨i,_⟩ _ ⟨h0,h1,h2⟩;change Int at i;simp only at h0 h1 h2⊢;refine⟨fun h=> ?_,fun h=> ?_⟩
   . have h:=of_decide_eq_true h;refine⟨⟨h0,h⟩,⟨h0,by omega⟩,fun he=> ?_,fun he=> ?_⟩
     . have he:=of_decide_eq_true he;exact(decide_eq_false fun e=>he (by rw[e])).symm
     . have he:gx 0 a i=gx 0 b i:=by simpa using he
       rw[wr (by omega) (by omega)];refine⟨⟨by omega,by omega, ?_⟩,by omega⟩;rw[show(i+1).toNat=i.toNat+1 from by omega,List.take_add_one,List.take_add_one,K9 (d:=(0:Int)) h0 h,K9 (d:=(0:Int)) h0 (by omega),h2,he]
   . have h:=of_decide_eq_false h;rw[E2 (by omega),E2 (by omega)]at h2;exact(decide_eq_true h2).symm
theorem B5l (x:A6 H9.args) (hw:awf H9.args x) (_:H9.pre x):A2j x:=by
 obtain⟨v,_⟩:=x;change Int at v;have hv:IntKind.u64.min<=v/\v<=IntKind.u64.max:=hw.1;rw[E8f,C7d]at hv;simp only[A2j];refine⟨by decide,by simp, ?_⟩;rintro⟨r,_⟩ _ hr;simp only at hr⊢;rw[hr];congr 1;rw[show Min.min (Int.toNat 32) IntKind.u64.bits=32 from rfl];simp only[nv,A1f];rw[Int.fdiv_eq_ediv_of_nonneg _ (by decide),show(2:Int)^32=4294967296 from rfl];omega
theorem G6y (v:Int) (_:0<=v):Int.fdiv v (2^Min.min (Int.toNat 32) IntKind.u64.bits)=v/4294967296:=by
 rw[show Min.min (Int.toNat 32) IntKind.u64.bits=32 from rfl,Int.fdiv_eq_ediv_of_nonneg _ (by decide)];rfl
theorem E1o (x:A6 A0y.args) (hw:awf A0y.args x) (hp:A0y.pre x):C4b x:=by
 obtain⟨a,b,_⟩:=x;have ha:A9 a:=A5 hw.1.2;have hb:A9 b:=A5 hw.2.1.2;change List Int at a b;obtain⟨la,lb⟩:a.length<=17592186044416/\b.length<=17592186044416:=hp;simp only[C4b];have em:IntKind.i64.wrap (Max.max (a.length:Int) (b.length:Int)+1)=((max a.length b.length+1:Nat):Int):=by
  rw[wr (by omega) (by omega)];omega
 rw[em];have hml:max a.length b.length+1<=17592186044417:=by omega
 refine⟨⟨by omega,Int.le_refl _,by simp;omega,by omega⟩, ?_⟩;have hna:a.length<=max a.length b.length+1:=by omega
 have hnb:b.length<=max a.length b.length+1:=by omega
 have hlt2:=F3n ha hb;generalize max a.length b.length+1=n at hml hna hnb hlt2;refine⟨fun p=>0<=p.2.1/\p.2.1<=(n:Int)/\0<=p.1/\p.1<=1/\p.2.2.1.length=n/\nv (p.2.2.1.take p.2.1.toNat)+4294967296^p.2.1.toNat*p.1.toNat=nv (a.take p.2.1.toNat)+nv (b.take p.2.1.toNat),fun p=>((n:Int)-p.2.1).toNat,⟨Int.le_refl _,Int.natCast_nonneg _,Int.le_refl _,by show(0:Int)<=1;omega,by simp,by simp[nv]⟩, ?_⟩;rintro⟨c,i,out,_⟩ ⟨_,_,hwo,_⟩ ⟨h0,h1,h2,h3,h4,h5⟩;change Int at c i;change List Int at out;simp only at h0 h1 h2 h3 h4 h5⊢;have ho:A9 out:=A5 hwo.2;have da:=T5 ha i.toNat;have db:=T5 hb i.toNat;refine⟨fun h=> ?_,fun h=> ?_⟩
 . have h:=of_decide_eq_true h;refine⟨fun p=>p.1=c+(dg a i.toNat:Int),⟨fun hi=> ?_,fun hi=> ?_⟩, ?_⟩
   . have hi:=of_decide_eq_true hi;refine⟨⟨h0,hi⟩, ?_⟩;show IntKind.u64.wrap _= _;rw[A8b ha h0 hi,w64 (a:=(dg a i.toNat:Int)) (by omega) (by omega),w64 (by omega) (by omega)]
   . have hi:=of_decide_eq_false hi;show c= _;rw[B6h (by omega)];omega
   rintro⟨c1,_⟩ _ hc1;simp only at hc1⊢;refine⟨fun p=>p.1=c1+(dg b i.toNat:Int),⟨fun hi=> ?_,fun hi=> ?_⟩, ?_⟩
   . have hi:=of_decide_eq_true hi;refine⟨⟨h0,hi⟩, ?_⟩;show IntKind.u64.wrap _= _;rw[A8b hb h0 hi,w64 (a:=(dg b i.toNat:Int)) (by omega) (by omega),w64 (by omega) (by omega)]
   . have hi:=of_decide_eq_false hi;show c1= _;rw[B6h (by omega)];omega
   rintro⟨c2,_⟩ _ hc2;simp only at hc2⊢;subst hc1 hc2;refine⟨⟨h0,h⟩,by decide, ?_⟩;rw[G6y _ (by omega),wr (by omega) (by omega),A1f];refine⟨⟨by omega,by omega,by omega,by omega,by rw[List.length_set];exact h4, ?_⟩,by omega⟩;rw[show(i+1).toNat=i.toNat+1 from by omega,Q6 (by omega),J9 a,J9 b,Nat.pow_succ];exact E3r h5 (by omega)
 . have h:=of_decide_eq_false h;refine⟨by omega, ?_⟩;rintro⟨r,_⟩ _ hr;simp only at hr⊢;rw[hr];congr 1;rw[show i.toNat=n from by omega,List.take_of_length_le (by omega),List.take_of_length_le hna,List.take_of_length_le hnb]at h5;have hc:c.toNat=0:=C6s (P:=4294967296^n) (x:=nv a+nv b) (by rw[<-h5];exact Nat.le_add_left ..) hlt2;rw[hc,Nat.mul_zero,Nat.add_zero]at h5;exact h5
theorem C5t (x:A6 R1.args) (hw:awf R1.args x) (hp:R1.pre x):A7i x:=by
 obtain⟨a,b,_⟩:=x;change List Int at a b;obtain⟨la,lb⟩:a.length<=17592186044416/\b.length<=17592186044416:=hp;simp only[A7i];refine⟨by omega, ?_⟩;rintro⟨r,_⟩ ⟨⟨hla,_⟩,_⟩ hr;simp only at hr hla⊢;subst hr;refine⟨by omega, ?_⟩;rintro⟨s,_⟩ ⟨⟨hlb,_⟩,_⟩ hs;simp only at hs hlb⊢;subst hs;have ha:=K7 (nv a);have hb:=K7 (nv b);refine⟨fun hne=>⟨fun h=> ?_,fun h=> ?_⟩,fun hne=> ?_⟩
 . have h:=of_decide_eq_true h;exact(B3z (B9q (by omega))).symm
 . have h:=of_decide_eq_false h;have hne:=of_decide_eq_true hne;exact(D9g (B9q (by omega))).symm
 . have hlen:(nc (nv a)).length=(nc (nv b)).length:=by have:=of_decide_eq_false hne;omega
   have ea:=H3 (nv a);have eb:=H3 (nv b);generalize nc (nv a)=r at*;generalize nc (nv b)=s at*;rw[<-ea, <-eb];refine⟨fun p=> -1<=p.1/\p.1<(r.length:Int)/\r.drop (p.1+1).toNat=s.drop (p.1+1).toNat,fun p=>(p.1+1).toNat, ?_, ?_⟩
   . rw[wr (by omega) (by omega)];refine⟨by omega,by omega, ?_⟩;rw[List.drop_of_length_le (by omega),List.drop_of_length_le (by omega)]
   rintro⟨i,_⟩ _ ⟨h0,h1,h2⟩;change Int at i;simp only at h0 h1 h2⊢;refine⟨fun h=> ?_,fun h=> ?_⟩
   . have h:=of_decide_eq_true h;refine⟨⟨h,h1⟩,⟨h,by omega⟩,fun hlt=> ?_,fun hlt=>⟨⟨h,h1⟩,⟨h,by omega⟩,fun hgt=> ?_,fun hgt=> ?_⟩⟩
     . exact(B3z (E8p ha hb hlen h h1 h2 (of_decide_eq_true hlt))).symm
     . exact(D9g (E8p hb ha hlen.symm h (by omega) h2.symm (of_decide_eq_true hgt))).symm
     . have hlt:=of_decide_eq_false hlt;have hgt:=of_decide_eq_false hgt;rw[wr (by omega) (by omega)];refine⟨⟨by omega,by omega, ?_⟩,by omega⟩;rw[show i-1+1=i from by omega,U5 h h1,U5 h (by omega),h2,show gx 0 r i=gx 0 s i from by omega]
   . have h:=of_decide_eq_false h;rw[show(i+1).toNat=0 from by omega,List.drop_zero,List.drop_zero]at h2;rw[h2,E5f]
theorem D9r (x:A6 A1g.args) (hw:awf A1g.args x) (hp:A1g.pre x):C5c x:=by
 obtain⟨a,b,_⟩:=x;change List Int at a b;have hla:A9 a:=A5 hw.1.2;have hlb:A9 b:=A5 hw.2.1.2;obtain⟨la,lb⟩:a.length<=17592186044416/\b.length<=17592186044416:=hp;simp only[C5c];refine⟨⟨la,lb⟩, ?_⟩;rintro⟨d,_⟩ _ hd;simp only at hd⊢;subst hd;refine⟨fun h=> ?_,fun h=> ?_⟩
 . have h:=of_decide_eq_true h;refine⟨fun _=>⟨by trivial,by trivial⟩,fun hge=> ?_⟩;unfold B9h at h;rw[if_neg (by omega)]at h;split at h<;>omega
 . have h:=of_decide_eq_false h;have hge:nv b<=nv a:=by
    rcases Nat.lt_or_ge (nv a) (nv b)with h1|h1
    . rw[B3z h1]at h;omega
    . exact h1
   refine⟨by omega, ?_⟩;rintro⟨r,_⟩ _ hr;simp only at hr⊢;refine⟨by omega, ?_⟩;rintro⟨s,_⟩ _ hs;simp only at hs⊢;have hra:A9 r:=hr▸K7 _;have hsb:A9 s:=hs▸K7 _;have hrv:nv r=nv a:=by rw[hr,H3]
   have hsv:nv s=nv b:=by rw[hs,H3]
   have hrl:r.length<=a.length:=by rw[hr];exact C5 hla
   have hsr:s.length<=r.length:=by rw[hr,hs];exact M7 hge
   rw[<-hrv, <-hsv]at hge⊢;clear hr hs hrv hsv;refine⟨⟨by omega,Int.le_refl _,by simp;omega,by omega⟩, ?_⟩;refine⟨fun p=>0<=p.2.1/\p.2.1<=(r.length:Int)/\0<=p.1/\p.1<=1/\p.2.2.1.length=r.length/\nv (r.take p.2.1.toNat)+4294967296^p.2.1.toNat*p.1.toNat=nv (p.2.2.1.take p.2.1.toNat)+nv (s.take p.2.1.toNat),fun p=>((r.length:Int)-p.2.1).toNat,⟨Int.le_refl _,Int.natCast_nonneg _,Int.le_refl _,by show(0:Int)<=1;omega,by simp,by simp[nv]⟩, ?_⟩;rintro⟨c,i,out,_⟩ ⟨_,_,hwo,_⟩ ⟨h0,h1,h2,h3,h4,h5⟩;change Int at c i;change List Int at out;simp only at h0 h1 h2 h3 h4 h5⊢;have ho:A9 out:=A5 hwo.2;have da:=T5 hra i.toNat;have db:=T5 hsb i.toNat;refine⟨fun h=> ?_,fun h=> ?_⟩
   . have h:=of_decide_eq_true h;refine⟨fun p=>p.1=c+(dg s i.toNat:Int),⟨fun hi=> ?_,fun hi=> ?_⟩, ?_⟩
     . have hi:=of_decide_eq_true hi;refine⟨⟨h0,hi⟩, ?_⟩;show IntKind.u64.wrap _= _;rw[A8b hsb h0 hi,w64 (a:=(dg s i.toNat:Int)) (by omega) (by omega),w64 (by omega) (by omega)]
     . have hi:=of_decide_eq_false hi;show c= _;rw[B6h (by omega)];omega
     rintro⟨c1,_⟩ _ hc1;change Int at c1;simp only at hc1⊢;refine⟨⟨h0,h⟩, ?_⟩;rw[A8b hra h0 h,w64 (a:=(dg r i.toNat:Int)) (by omega) (by omega)];refine⟨fun p=>0<=p.1/\p.1<=1/\p.2.1=(dg r i.toNat:Int)+4294967296*p.1/\c1<=p.2.1/\p.2.1-c1<=4294967295,⟨fun hi=> ?_,fun hi=> ?_⟩, ?_⟩
     . have hi:=of_decide_eq_true hi;show(0:Int)<=1/\(1:Int)<=1/\IntKind.u64.wrap _=(dg r i.toNat:Int)+4294967296*1/\c1<=IntKind.u64.wrap _ /\IntKind.u64.wrap _-c1<= _;rw[w64 (by omega) (by omega)];omega
     . have hi:=of_decide_eq_false hi;show(0:Int)<=0/\(0:Int)<=1/\(dg r i.toNat:Int)=(dg r i.toNat:Int)+4294967296*0/\c1<=(dg r i.toNat:Int)/\(dg r i.toNat:Int)-c1<= _;omega
     rintro⟨c2,x2,_⟩ _ ⟨k1,k2,k3,k4,k5⟩;change Int at c2 x2;simp only at k1 k2 k3 k4 k5⊢;refine⟨⟨h0,by omega⟩, ?_⟩;rw[wr (by omega) (by omega),w64 (a:=x2-c1) (by omega) (by omega),w32 (by omega) (by omega)];refine⟨⟨by omega,by omega,by omega,by omega,by rw[List.length_set];exact h4, ?_⟩,by omega⟩;rw[show(i+1).toNat=i.toNat+1 from by omega,Q6 (by omega),J9 r,J9 s,Nat.pow_succ];exact D7p h5 (by omega)
   . have h:=of_decide_eq_false h;refine⟨by omega, ?_⟩;rintro⟨q,_⟩ _ hq;simp only at hq⊢;refine⟨fun hlt=>by omega,fun _=>⟨?_,by trivial⟩⟩;rw[hq];congr 1;rw[show i.toNat=r.length from by omega,List.take_of_length_le (Nat.le_refl _),List.take_of_length_le (by omega),List.take_of_length_le hsr]at h5;have hol:nv out<4294967296^out.length:=B0c ho;rw[h4]at hol;have hc:c.toNat=0:=C6s (P:=4294967296^r.length) (x:=nv out) (by omega) hol;rw[hc,Nat.mul_zero,Nat.add_zero]at h5;omega
theorem D9m (x:A6 A3a.args) (hw:awf A3a.args x) (hp:A3a.pre x):C5x x:=by
 obtain⟨a,b,_⟩:=x;have ha:A9 a:=A5 hw.1.2;have hb:A9 b:=A5 hw.2.1.2;change List Int at a b;obtain⟨la,lb⟩:a.length<=17592186044416/\b.length<=17592186044416:=hp;simp only[C5x];have em:IntKind.i64.wrap ((a.length:Int)+(b.length:Int))=((a.length+b.length:Nat):Int):=by
  rw[wr (by omega) (by omega)];omega
 rw[em];refine⟨⟨by omega,Int.le_refl _,by simp;omega,by omega⟩, ?_⟩;refine⟨fun p=>0<=p.1/\p.1<=(a.length:Int)/\p.2.1.length=a.length+b.length/\nv p.2.1=nv (a.take p.1.toNat)*nv b/\∀j,p.1.toNat+b.length<=j->dg p.2.1 j=0,fun p=>((a.length:Int)-p.1).toNat,⟨Int.le_refl _,Int.natCast_nonneg _,by rw[List.length_replicate,Int.toNat_natCast],by simp[nv,B4s],fun j _=>C7i _ _⟩, ?_⟩;rintro⟨i,out,_⟩ ⟨_,hwo,_⟩ ⟨h0,h1,h2,h3,h4⟩;change Int at i;change List Int at out;simp only at h0 h1 h2 h3 h4⊢;have ho:A9 out:=A5 hwo.2;refine⟨fun h=> ?_,fun h=> ?_⟩
 . have h:=of_decide_eq_true h;have da:=T5 ha i.toNat;refine⟨fun p=>0<=p.2.1/\p.2.1<=(b.length:Int)/\0<=p.1/\p.1<=4294967295/\p.2.2.1.length=a.length+b.length/\nv p.2.2.1+4294967296^(i.toNat+p.2.1.toNat)*p.1.toNat=nv out+4294967296^i.toNat*(dg a i.toNat*nv (b.take p.2.1.toNat))/\∀j,i.toNat+b.length<=j->dg p.2.2.1 j=0,fun p=>((b.length:Int)-p.2.1).toNat,⟨Int.le_refl _,Int.natCast_nonneg _,Int.le_refl _,by show(0:Int)<=4294967295;omega,h2,by simp[nv],h4⟩, ?_⟩;rintro⟨c,j,o,_⟩ ⟨_,_,hwo',_⟩ ⟨g0,g1,g2,g3,g4,g5,g6⟩;change Int at c j;change List Int at o;simp only at g0 g1 g2 g3 g4 g5 g6⊢;have hoo:A9 o:=A5 hwo'.2;refine⟨fun hj=> ?_,fun hj=> ?_⟩
   . have hj:=of_decide_eq_true hj;have db:=T5 hb j.toNat;rw[wr (a:=i+j) (by omega) (by omega)];refine⟨⟨by omega,by omega⟩,⟨h0,h⟩,⟨g0,hj⟩,⟨by omega,by omega⟩,by decide, ?_⟩;rw[A8b ha h0 h,A8b hb g0 hj,Y4 hoo,show(i+j).toNat=i.toNat+j.toNat from by omega];have dk:=T5 hoo (i.toNat+j.toNat);have hm:dg a i.toNat*dg b j.toNat<=4294967295*4294967295:=Nat.mul_le_mul da db;have hme:(dg a i.toNat:Int)*(dg b j.toNat:Int)=((dg a i.toNat*dg b j.toNat:Nat):Int):=(Int.natCast_mul _ _).symm;rw[w64 (a:=(dg a i.toNat:Int)) (by omega) (by omega),w64 (a:=(dg b j.toNat:Int)) (by omega) (by omega),w64 (a:=(dg o (i.toNat+j.toNat):Int)) (by omega) (by omega),hme];have g5':=g5;generalize hMM:dg a i.toNat*dg b j.toNat=M at hm;rw[w64 (a:=(M:Int)) (by omega) (by omega),w64 (a:=(dg o (i.toNat+j.toNat):Int)+(M:Int)) (by omega) (by omega),w64 (by omega) (by omega),G6y _ (by omega),wr (by omega) (by omega),A1f];refine⟨⟨by omega,by omega,by omega,by omega,by rw[List.length_set];exact g4, ?_,fun q hq=> ?_⟩,by omega⟩
     . have hs:=B0n (l:=o) (k:=i.toNat+j.toNat) (v:=(c+((dg o (i.toNat+j.toNat):Int)+(M:Int)))%4294967296) (by omega);rw[show(j+1).toNat=j.toNat+1 from by omega,J9 b, <-Nat.add_assoc i.toNat,Nat.pow_succ,Nat.mul_add (dg a i.toNat)];have e1:dg a i.toNat*(4294967296^j.toNat*dg b j.toNat)=4294967296^j.toNat*M:=by rw[<-hMM,Nat.mul_left_comm]
       rw[e1,Nat.mul_add (4294967296^i.toNat), <-Nat.mul_assoc (4294967296^i.toNat) (4294967296^j.toNat), <-Nat.pow_add, <-Nat.add_assoc (nv out), <-g5];generalize 4294967296^(i.toNat+j.toNat)=P at*;have hd:((c+((dg o (i.toNat+j.toNat):Int)+(M:Int)))%4294967296).toNat+4294967296*((c+((dg o (i.toNat+j.toNat):Int)+(M:Int)))/4294967296).toNat=c.toNat+dg o (i.toNat+j.toNat)+M:=by omega
       have hd2:=congrArg (P* ·) hd;simp only[Nat.mul_add, <-Nat.mul_assoc]at hd2;omega
     . rw[C7h (by omega),if_neg (by omega)];exact g6 q hq
   . have hj:=of_decide_eq_false hj;rw[wr (a:=i+(b.length:Int)) (by omega) (by omega),wr (by omega) (by omega),w32 g2 g3];refine⟨⟨by omega,by omega⟩,⟨by omega,by omega,by rw[List.length_set];exact g4, ?_,fun q hq=> ?_⟩,by omega⟩
     . have hs:=B0n (l:=o) (k:=(i+(b.length:Int)).toNat) (v:=c) (by omega);rw[g6 _ (by omega),Nat.mul_zero,Nat.add_zero]at hs;rw[hs,show(i+(b.length:Int)).toNat=i.toNat+b.length from by omega];rw[show j.toNat=b.length from by omega,List.take_of_length_le (Nat.le_refl b.length)]at g5;rw[g5,show(i+1).toNat=i.toNat+1 from by omega,J9,Nat.add_mul,h3,Nat.mul_assoc]
     . rw[C7h (by omega),if_neg (by omega)];exact g6 q (by omega)
 . have h:=of_decide_eq_false h;refine⟨by omega, ?_⟩;rintro⟨r,_⟩ _ hr;simp only at hr⊢;rw[hr,h3,List.take_of_length_le (by omega)]
theorem C8v (x:A6 U6.args) (hw:awf U6.args x) (hp:U6.pre x):A9t x:=by
 obtain⟨a,_⟩:=x;have ha:A9 a:=A5 hw.1.2;change List Int at a;have la:a.length<=35184372088832:=hp;have n1:=C5 ha;simp only[A9t];refine⟨hp, ?_⟩;rintro⟨r,_⟩ _ hr;simp only at hr⊢;have hrv:nv r=nv a:=by rw[hr,H3]
 have hra:A9 r:=hr▸K7 _;refine⟨fun h=> ?_,fun h=> ?_⟩
 . have h:=of_decide_eq_true h;have h2:4294967296^2<=nv a:=G2w (by rw[<-hr];omega);exact⟨fun h3=>by omega,fun _=>by trivial⟩
 . have h:=of_decide_eq_false h;have hrl:r.length<=2:=by omega
   rw[wr (a:=(r.length:Int)-1) (by omega) (by omega)];refine⟨fun p=> -1<=p.2.1/\p.2.1<(r.length:Int)/\p.1=(nv (r.drop (p.2.1+1).toNat):Int),fun p=>(p.2.1+1).toNat,⟨by show(-1:Int)<=(r.length:Int)-1;omega,by show(r.length:Int)-1< _;omega, ?_⟩, ?_⟩
   . show(0:Int)= _;rw[List.drop_of_length_le (by show r.length<=((r.length:Int)-1+1).toNat;omega)];rfl
   rintro⟨v,i,_⟩ _ ⟨i0,i1,hv⟩;change Int at v i;simp only at i0 i1 hv⊢;refine⟨fun h2=> ?_,fun h2=> ?_⟩
   . have h2:=of_decide_eq_true h2;have hg:=B8s hra h2 i1;have hlt:nv (r.drop (i+1).toNat)<4294967296:=by
      have h3:=B0c (l:=r.drop (i+1).toNat) fun y hy=>hra y (List.mem_of_mem_drop hy)
      have h4:4294967296^(r.drop (i+1).toNat).length<=4294967296^1:=Nat.pow_le_pow_right (by decide) (by rw[List.length_drop];omega);omega
     rw[wr (a:=i-1) (by omega) (by omega),show Min.min (Int.toNat 32) IntKind.u64.bits=32 from rfl,w64 (a:=v*2^32) (by omega) (by omega),w64 (a:=gx 0 r i) (by omega) (by omega)];have hor:=D0n (v:=gx 0 r i) (b:=v) (k:=32) (by omega) (by omega) (by omega) (by omega) (by omega);rw[show IntKind.u64.bits=64 from rfl,hor,w64 (by omega) (by omega)];refine⟨by decide,⟨h2,i1⟩,⟨by omega,by omega, ?_⟩,by omega⟩;rw[show i-1+1=i from by omega,U5 h2 i1];show _=(((gx 0 r i).toNat+4294967296*nv (r.drop (i+1).toNat):Nat):Int);omega
   . have h2:=of_decide_eq_false h2;rw[show(i+1).toNat=0 from by omega,List.drop_zero,hrv]at hv;refine⟨fun _=>⟨hv,by trivial⟩,fun h3=> ?_⟩;have h4:=B0c hra;have h5:4294967296^r.length<=4294967296^2:=Nat.pow_le_pow_right (by decide) hrl;omega
def E7s:An:= {loop:= [(6,⟨[],[],[(3,false,[.val (.int .i64)]),(4,false,[.val (.int .u32)])],[],[]⟩)]}
def D0o:B4:= [(191,J0)]
def F0w:An:= {}
def D6z:B4:= []
def D9n:An:= {join:= [(15,⟨[0,1,4,11],[0],[(5,false,[.val (.sl (.int .u32))])],[],[]⟩),(11,⟨[0,1,4,11],[],[(5,false,[.val (.sl (.int .u32))])],[],[(0, .row (.int .u32) 153)]⟩)],loop:= [(10,⟨[0,1,4],[],[(5,false,[.val (.sl (.int .u32))]),(11,false,[.val (.int .i64)])],[],[(0, .row (.int .u32) 153)]⟩)],plan:= [(7,[],[],true,(.p 0 (.p 1 (.p 2 (.p 4 (.p 5 (.p 6 (.e 3 (.e 7 (.p 8 (.p 9 (.p 10 .done))))))))))))]}
def C2d:B4:= [(157,A0y),(158,A1g),(176,H9),(191,J0),(224,U6),(225,A0m),(226,A3f)]
def F1t:An:= {loop:= [(2,⟨[],[],[(0,false,[.val (.sl (.int .u32))]),(1,false,[.val (.sl (.int .u32))])],[],[]⟩)]}
def D8d:B4:= [(188,R0),(191,J0)]
def B7m:A6 A0m.args->Prop:=fun(x:List Int×Unit)=>sh0 x.1/\∀(r:List Int×Unit),WfU r.1/\True->r.1=nc (nv x.1)->(decide ((r.1.length:Int)=(0:Int))=true->(0:Int)=(↑(Y7 (nv x.1)):Int))/\(decide ((r.1.length:Int)=(0:Int))=false->((0:Int)<=IntKind.i64.wrap ((r.1.length:Int)-(1:Int))/\IntKind.i64.wrap ((r.1.length:Int)-(1:Int))<(r.1.length:Int))/\∃(I:Int×Int×Unit->Prop),∃(μ:Int×Int×Unit->Nat),I (IntKind.i64.wrap ((32:Int)*IntKind.i64.wrap ((r.1.length:Int)-(1:Int))),gx (0:Int) r.1 (IntKind.i64.wrap ((r.1.length:Int)-(1:Int))),())/\∀(p:Int×Int×Unit),E5 p.1/\(IntKind.u32.min<=p.2.1/\p.2.1<=IntKind.u32.max)/\True->I p->(decide (0<p.2.1)=true->(0:(Ty.int IntKind.u64).den)<=(1:Int)/\I (IntKind.i64.wrap (p.1+1),Int.fdiv p.2.1 ((2:Int)^Min.min (Int.toNat (1:Int)) IntKind.u32.bits),())/\μ (IntKind.i64.wrap (p.1+1),Int.fdiv p.2.1 ((2:Int)^Min.min (Int.toNat (1:Int)) IntKind.u32.bits),())<μ p)/\(decide (0<p.2.1)=false->p.1=(↑(Y7 (nv x.1)):Int)))
theorem D6i (x:A6 A0m.args):I2 Tryz.prog tys D0o E7s A0m Tryz.f225 x=B7m x:=by kernel_rfl
def C5z:A6 A3f.args->Prop:=fun(x:List Int×Int×Unit)=>(32:Int)≠(0:Int)/\(decide ((x.1.length:Int)<=IntKind.i64.wrap (Int.tdiv x.2.1 (32:Int)))=true->(0:Int)=(↑(nv x.1/(2:Nat)^x.2.1.toNat%(2:Nat)):Int))/\(decide ((x.1.length:Int)<=IntKind.i64.wrap (Int.tdiv x.2.1 (32:Int)))=false->(32:Int)≠(0:Int)/\((0:Int)<=IntKind.i64.wrap (Int.tdiv x.2.1 (32:Int))/\IntKind.i64.wrap (Int.tdiv x.2.1 (32:Int))<(x.1.length:Int))/\(32:Int)≠(0:Int)/\(0:(Ty.int IntKind.u64).den)<=IntKind.u64.wrap (Int.tmod x.2.1 (32:Int))/\IntKind.u32.wrap (↑(BitVec.ofInt IntKind.u32.bits ((gx (0:Int) x.1 (IntKind.i64.wrap (Int.tdiv x.2.1 (32:Int)))).fdiv ((2:Int)^Min.min (IntKind.u64.wrap (Int.tmod x.2.1 (32:Int))).toNat IntKind.u32.bits))&&&BitVec.ofInt IntKind.u32.bits (1:Int)).toNat:Int)=(↑(nv x.1/(2:Nat)^x.2.1.toNat%(2:Nat)):Int))
theorem D9i (x:A6 A3f.args):I2 Tryz.prog tys D6z F0w A3f Tryz.f226 x=C5z x:=by kernel_rfl
def A9x:A6 R0.args->Prop:=fun(x:List Int×List Int×Unit)=>sh0 x.2.1/\∀(r:List Int×Unit),WfU r.1/\True->r.1=nc (nv x.2.1)->(decide ((r.1.length:Int)=(0:Int))=true->(nv x.2.1=0->false=false)/\(nv x.2.1≠0->D4n Int=nc (nv x.1/nv x.2.1)/\D4n Int=nc (nv x.1%nv x.2.1)/\false=true))/\(decide ((r.1.length:Int)=(0:Int))=false->sh0 x.1/\∀(d:Int×Bool×Unit),L6 d.1/\True/\True->(nv x.1<18446744073709551616->d.1=(↑(nv x.1):Int)/\d.2.1=true)/\((18446744073709551616:Nat)<=nv x.1->d.2.1=false)->sh0 r.1/\∀(b:Int×Bool×Unit),L6 b.1/\True/\True->(nv r.1<18446744073709551616->b.1=(↑(nv r.1):Int)/\b.2.1=true)/\((18446744073709551616:Nat)<=nv r.1->b.2.1=false)->(sel d.2.1 b.2.1 false=true->b.1≠0/\b.1≠0/\True/\∀(r:List Int×Unit),WfU r.1/\True->r.1=nc (IntKind.u64.wrap (Int.tdiv d.1 b.1)).toNat->True/\∀(f:List Int×Unit),WfU f.1/\True->f.1=nc (Int.tmod d.1 b.1).toNat->(nv x.2.1=0->true=false)/\(nv x.2.1≠0->r.1=nc (nv x.1/nv x.2.1)/\f.1=nc (nv x.1%nv x.2.1)/\true=true))/\(sel d.2.1 b.2.1 false=false->((0:Int)<=(x.1.length:Int)/\(x.1.length:Int)<=(x.1.length:Int)/\(↑(4:Nat):Int)*(x.1.length:Int)<=(281474976710656:Int)/\(x.1.length:Int)<=(9223372036854775807:Int))/\sh1 x.1/\∀(f:Int×Unit),E5 f.1/\True->f.1=(↑(Y7 (nv x.1)):Int)->∃(I:List Int×Int×List Int×Unit->Prop),∃(μ:List Int×Int×List Int×Unit->Nat),I ([],IntKind.i64.wrap (f.1-1),List.replicate (x.1.length:Int).toNat (0:Int),())/\∀(p:List Int×Int×List Int×Unit),WfU p.1/\E5 p.2.1/\WfU p.2.2.1/\True->I p->(decide (0<=p.2.1)=true->∃(J:List Int×List Int×Unit->Prop),((sh1 p.1/\sh1 p.1)/\∀(c:List Int×Unit),WfU c.1/\True->c.1=nc (nv p.1+nv p.1)->∃(J_1:List Int×Unit->Prop),(0<=p.2.1/\∀(r:Int×Unit),(IntKind.u32.min<=r.1/\r.1<=IntKind.u32.max)/\True->r.1=(↑(nv x.1/(2:Nat)^Int.toNat p.2.1%(2:Nat)):Int)->(decide (r.1=1)=true->(sh1 c.1/\sh1 [(1:Int)])/\∀(r:List Int×Unit),WfU r.1/\True->r.1=nc (nv c.1+nv [(1:Int)])->J_1 r)/\(decide (r.1=1)=false->J_1 c))/\∀(a:List Int×Unit),WfU a.1/\True->J_1 a->(sh1 a.1/\sh1 r.1)/\∀(e:List Int×Bool×Unit),WfU e.1/\True/\True->(nv a.1<nv r.1->e.1= []/\e.2.1=false)/\(nv r.1<=nv a.1->e.1=nc (nv a.1-nv r.1)/\e.2.1=true)->(e.2.1=true->(32:Int)≠(0:Int)/\((0:Int)<=IntKind.i64.wrap (Int.tdiv p.2.1 (32:Int))/\IntKind.i64.wrap (Int.tdiv p.2.1 (32:Int))<(p.2.2.1.length:Int))/\(32:Int)≠(0:Int)/\(0:(Ty.int IntKind.u64).den)<=IntKind.u64.wrap (Int.tmod p.2.1 (32:Int))/\((0:Int)<=IntKind.i64.wrap (Int.tdiv p.2.1 (32:Int))/\IntKind.i64.wrap (Int.tdiv p.2.1 (32:Int))<(p.2.2.1.length:Int))/\J (e.1,List.set p.2.2.1 (IntKind.i64.wrap (Int.tdiv p.2.1 (32:Int))).toNat (IntKind.u32.wrap (↑(BitVec.ofInt IntKind.u32.bits (List.getD p.2.2.1 (IntKind.i64.wrap (Int.tdiv p.2.1 (32:Int))).toNat (0:Int)) |||BitVec.ofInt IntKind.u32.bits (IntKind.u32.wrap ((1:Int)*(2:Int)^Min.min (IntKind.u64.wrap (Int.tmod p.2.1 (32:Int))).toNat IntKind.u32.bits))).toNat:Int)),()))/\(e.2.1=false->J (a.1,p.2.2.1,())))/\∀(a:List Int×List Int×Unit),WfU a.1/\WfU a.2.1/\True->J a->I (a.1,IntKind.i64.wrap (p.2.1-1),a.2.1,())/\μ (a.1,IntKind.i64.wrap (p.2.1-1),a.2.1,())<μ p)/\(decide (0<=p.2.1)=false->sh0 p.2.2.1/\∀(r:List Int×Unit),WfU r.1/\True->r.1=nc (nv p.2.2.1)->sh0 p.1/\∀(c:List Int×Unit),WfU c.1/\True->c.1=nc (nv p.1)->(nv x.2.1=0->true=false)/\(nv x.2.1≠0->r.1=nc (nv x.1/nv x.2.1)/\c.1=nc (nv x.1%nv x.2.1)/\true=true))))
theorem C8l (x:A6 R0.args):I2 Tryz.prog tys C2d D9n R0 Tryz.f188 x=A9x x:=by kernel_rfl
def C6a:A6 A3l.args->Prop:=fun(x:List Int×List Int×Unit)=>sh0 x.1/\∀(r:List Int×Unit),WfU r.1/\True->r.1=nc (nv x.1)->sh0 x.2.1/\∀(a:List Int×Unit),WfU a.1/\True->a.1=nc (nv x.2.1)->∃(I:List Int×List Int×Unit->Prop),∃(μ:List Int×List Int×Unit->Nat),I (r.1,a)/\∀(p:List Int×List Int×Unit),WfU p.1/\WfU p.2.1/\True->I p->(decide ((0:Int)<(p.2.1.length:Int))=true->(sh2 p.1/\sh2 p.2.1)/\∀(r:List Int×List Int×Bool×Unit),WfU r.1/\WfU r.2.1/\True/\True->(nv p.2.1=0->r.2.2.1=false)/\(nv p.2.1≠0->r.1=nc (nv p.1/nv p.2.1)/\r.2.1=nc (nv p.1%nv p.2.1)/\r.2.2.1=true)->I (p.2.1,r.2.1,())/\μ (p.2.1,r.2.1,())<μ p)/\(decide ((0:Int)<(p.2.1.length:Int))=false->p.1=nc ((nv x.1).gcd (nv x.2.1)))
theorem E2i (x:A6 A3l.args):I2 Tryz.prog tys D8d F1t A3l Tryz.f187 x=C6a x:=by kernel_rfl
theorem D5e (x:A6 A0m.args) (hw:awf A0m.args x) (hp:A0m.pre x):B7m x:=by
 obtain⟨a,_⟩:=x;have ha:A9 a:=A5 hw.1.2;change List Int at a;have la:a.length<=17592186044416:=hp;have n1:=C5 ha;have hbl:=F7k ha;simp only[B7m];refine⟨by show a.length<=35184372088832;omega, ?_⟩;rintro⟨r,_⟩ _ hr;simp only at hr⊢;have hrv:nv r=nv a:=by rw[hr,H3]
 have hra:A9 r:=hr▸K7 _;refine⟨fun h=> ?_,fun h=> ?_⟩
 . have h:=of_decide_eq_true h;have h0:nv a=0:=by rw[<-hrv,List.eq_nil_of_length_eq_zero (l:=r) (by omega)];rfl
   rw[h0];rfl
 . have h:=of_decide_eq_false h;have hrl:r.length<=a.length:=by rw[hr];exact n1
   have h0:nv a≠0:=fun e=>h (by rw[hr,e,R7];rfl)
   have ht:=F8t h0;rw[<-hr]at ht;rw[wr (a:=(r.length:Int)-1) (by omega) (by omega),wr (a:=32*((r.length:Int)-1)) (by omega) (by omega),A8b hra (by omega) (by omega),show((r.length:Int)-1).toNat=r.length-1 from by omega];have hd:=T5 hra (r.length-1);refine⟨⟨by omega,by omega⟩,fun p=>0<=p.1/\0<=p.2.1/\p.1+(Y7 p.2.1.toNat:Int)=(Y7 (nv a):Int),fun p=>p.2.1.toNat,⟨by show(0:Int)<=32*((r.length:Int)-1);omega,Int.natCast_nonneg _, ?_⟩, ?_⟩
   . show 32*((r.length:Int)-1)+(Y7 ((dg r (r.length-1):Nat):Int).toNat:Int)= _;rw[Int.toNat_natCast,ht];omega
   rintro⟨n,v,_⟩ _ ⟨h1,h2,h3⟩;change Int at n v;simp only at h1 h2 h3⊢;refine⟨fun h4=> ?_,fun h4=> ?_⟩
   . have h4:=of_decide_eq_true h4;have hh:=F6c (n:=v.toNat) (by omega);have e:Int.fdiv v (2^Min.min (Int.toNat 1) IntKind.u32.bits)=v/2:=by
      show Int.fdiv v (2^1)= _;rw[Int.fdiv_eq_ediv_of_nonneg _ (by decide)];rfl
     rw[e,wr (a:=n+1) (by omega) (by omega)];refine⟨by decide,⟨by omega,by omega, ?_⟩,by omega⟩;rw[show(v/2).toNat=v.toNat/2 from by omega];omega
   . have h4:=of_decide_eq_false h4;rw[show v.toNat=0 from by omega,C2y]at h3;omega
theorem D9x (x:A6 A3f.args) (hw:awf A3f.args x) (hp:A3f.pre x):C5z x:=by
 obtain⟨a,n,_⟩:=x;have ha:A9 a:=A5 hw.1.2;have hn:=(show IntKind.i64.min<=n/\n<=IntKind.i64.max from hw.2.1);rw[B8m,C5o]at hn;change List Int at a;change Int at n;have hn': -9223372036854775808<=n/\n<=9223372036854775807:=hn;have n0:0<=n:=hp;simp only[C5z];have e1:IntKind.i64.wrap (Int.tdiv n 32)=((n.toNat/32:Nat):Int):=by
  rw[Int.tdiv_eq_ediv_of_nonneg n0,wr (by omega) (by omega)];omega
 have e2:IntKind.u64.wrap (Int.tmod n 32)=((n.toNat%32:Nat):Int):=by
  rw[Int.tmod_eq_emod_of_nonneg n0,w64 (by omega) (by omega)];omega
 rw[e1,e2];have hb:=G4c ha n.toNat;refine⟨by decide,fun h=> ?_,fun h=> ?_⟩
 . have h:=of_decide_eq_true h;rw[B6h (by omega),Nat.zero_div]at hb;rw[<-hb];rfl
 . have h:=of_decide_eq_false h;have h5:n.toNat%32<=31:=by omega
   refine⟨by decide,⟨by omega,by omega⟩,by decide,Int.natCast_nonneg _, ?_⟩;rw[Int.toNat_natCast,show Min.min (n.toNat%32) IntKind.u32.bits=n.toNat%32 from by show Min.min (n.toNat%32) 32= _;omega];rw[A8b ha (by omega) (by omega),Int.toNat_natCast, <-hb];have hd:=T5 ha (n.toNat/32);have e3:Int.fdiv (dg a (n.toNat/32):Int) (2^(n.toNat%32))=((dg a (n.toNat/32)/2^(n.toNat%32):Nat):Int):=by
    rw[show((2:Int)^(n.toNat%32))=((2^(n.toNat%32):Nat):Int)from by rw[Int.natCast_pow];rfl,Int.fdiv_eq_ediv_of_nonneg _ (Int.natCast_nonneg _)];rfl
   have hle:dg a (n.toNat/32)/2^(n.toNat%32)<=dg a (n.toNat/32):=Nat.div_le_self _ _;rw[e3];generalize dg a (n.toNat/32)/2^(n.toNat%32)=Z at*;rw[show IntKind.u32.bits=32 from rfl,F6b (Int.natCast_nonneg _) (by omega),w32 (by omega) (by omega),Int.toNat_natCast]
theorem C9n (x:A6 R0.args) (hw:awf R0.args x) (hp:R0.pre x):A9x x:=by
 obtain⟨a,b,_⟩:=x;have ha:A9 a:=A5 hw.1.2;have hb:A9 b:=A5 hw.2.1.2;change List Int at a b;obtain⟨la,lb⟩:a.length<=8796093022208/\b.length<=8796093022208:=hp;have n2:=C5 hb;simp only[A9x];refine⟨by show b.length<=35184372088832;omega, ?_⟩;rintro⟨d,_⟩ _ hd;simp only at hd⊢;have hdv:nv d=nv b:=by rw[hd,H3]
 have hdl:d.length<=b.length:=by rw[hd];exact n2
 refine⟨fun h=> ?_,fun h=> ?_⟩
 . have h:=of_decide_eq_true h;have h0:nv b=0:=by rw[<-hdv,List.eq_nil_of_length_eq_zero (l:=d) (by omega)];rfl
   exact⟨fun _=>by trivial,fun h1=>absurd h0 h1⟩
 have h:=of_decide_eq_false h;have hb0:nv b≠0:=fun e=>h (by rw[hd,e,R7];rfl)
 refine⟨by show a.length<=35184372088832;omega, ?_⟩;rintro⟨u,su,_⟩ ⟨hu64,_⟩ ⟨u1,u2⟩;refine⟨by show d.length<=35184372088832;omega, ?_⟩;rintro⟨v,sv,_⟩ _ ⟨v1,v2⟩;change Int at u v;change Bool at su sv;simp only at u1 u2 v1 v2 hu64⊢;rw[hdv]at v1 v2;refine⟨fun hs=> ?_,fun _=> ?_⟩
 . rw[O1,Bool.and_eq_true]at hs;have a1:nv a<18446744073709551616:=by
    rcases Nat.lt_or_ge (nv a) 18446744073709551616 with h1|h1
    . exact h1
    . rw[u2 h1]at hs;exact absurd hs.1 (by decide)
   have a2:nv b<18446744073709551616:=by
    rcases Nat.lt_or_ge (nv b) 18446744073709551616 with h1|h1
    . exact h1
    . rw[v2 h1]at hs;exact absurd hs.2 (by decide)
   have hu:=(u1 a1).1;have hv:=(v1 a2).1;have e1:Int.tdiv u v=((nv a/nv b:Nat):Int):=by rw[hu,hv];rfl
   have e2:Int.tmod u v=((nv a%nv b:Nat):Int):=by rw[hu,hv];rfl
   have hq:nv a/nv b<=nv a:=Nat.div_le_self _ _;refine⟨by omega,by omega,trivial, ?_⟩;rintro⟨q,_⟩ _ hq';refine⟨trivial, ?_⟩;rintro⟨m,_⟩ _ hm;simp only at hq' hm⊢;refine⟨fun h0=>absurd h0 hb0,fun _=>⟨?_, ?_,by trivial⟩⟩
   . rw[hq',e1];generalize nv a/nv b=Q at*;rw[w64 (by omega) (by omega)];rfl
   . rw[hm,e2];rfl
 . refine⟨⟨by omega,Int.le_refl _,by omega,by omega⟩,by show a.length<=17592186044416;omega, ?_⟩;rintro⟨n,_⟩ _ hn;change Int at n;simp only at hn⊢;have hbl:=F7k ha;have hNlt:=E7b (nv a);rw[hn,wr (a:=(Y7 (nv a):Int)-1) (by omega) (by omega)];clear hn u1 u2 v1 v2 hu64;refine⟨fun p=> -1<=p.2.1/\p.2.1<=(Y7 (nv a):Int)-1/\p.1=nc (nv a/2^(p.2.1+1).toNat%nv b)/\nv p.2.2.1=nv a/2^(p.2.1+1).toNat/nv b*2^(p.2.1+1).toNat/\p.2.2.1.length=a.length,fun p=>(p.2.1+1).toNat,⟨by show(-1:Int)<=(Y7 (nv a):Int)-1;omega,Int.le_refl _, ?_, ?_, ?_⟩, ?_⟩
   . show []= _;rw[show(((Y7 (nv a):Int)-1)+1).toNat=Y7 (nv a)from by omega,Nat.div_eq_of_lt hNlt,Nat.zero_mod,R7]
   . show nv (List.replicate _ 0)= _;rw[B4s,show(((Y7 (nv a):Int)-1)+1).toNat=Y7 (nv a)from by omega,Nat.div_eq_of_lt hNlt,Nat.zero_div,Nat.zero_mul]
   . show(List.replicate _ 0).length= _;simp
   rintro⟨r,i,q,_⟩ ⟨_,_,hwq,_⟩ ⟨i0,i1,hr,hq,hql⟩;change List Int at r q;change Int at i;have hqL:A9 q:=A5 hwq.2;simp only at i0 i1 hr hq hql⊢;refine⟨fun hi=> ?_,fun hi=> ?_⟩
   . have hi:=of_decide_eq_true hi;obtain⟨b0,b1,b2⟩:=G0c (a:=nv a) (b:=nv b) (i:=i.toNat) hb0;rw[show(i+1).toNat=i.toNat+1 from by omega]at hr hq;have hrlt:nv a/2^(i.toNat+1)%nv b<nv b:=Nat.mod_lt _ (Nat.pos_of_ne_zero hb0);have hbit:nv a/2^i.toNat%2<2:=Nat.mod_lt _ (by decide);have hrv:nv r=nv a/2^(i.toNat+1)%nv b:=by rw[hr,H3]
     rw[<-hrv]at b1 b2 hrlt;have hrl:r.length<=8796093022208:=by
      have:=M7 (Nat.le_of_lt hrlt);rw[hrv, <-hr]at this;omega
     have hrr:r=nc (nv r):=by rw[hrv];exact hr
     clear hr hrv;generalize hM:nv a/2^(i.toNat+1)/nv b=M at*;generalize hbt:nv a/2^i.toNat%2=bt at*;have e1:IntKind.i64.wrap (Int.tdiv i 32)=((i.toNat/32:Nat):Int):=by
      rw[Int.tdiv_eq_ediv_of_nonneg hi,wr (by omega) (by omega)];omega
     have e2:IntKind.u64.wrap (Int.tmod i 32)=((i.toNat%32:Nat):Int):=by
      rw[Int.tmod_eq_emod_of_nonneg hi,w64 (by omega) (by omega)];omega
     have h5:i.toNat%32<=31:=by omega
     have hil:i.toNat/32<q.length:=by omega
     rw[e1,e2,wr (a:=i-1) (by omega) (by omega)];refine⟨fun p=>p.1=nc (nv a/2^i.toNat%nv b)/\nv p.2.1=nv a/2^i.toNat/nv b*2^i.toNat/\p.2.1.length=a.length,⟨⟨by show r.length<= _;omega,by show r.length<= _;omega⟩, ?_⟩, ?_⟩
     . rintro⟨r2,_⟩ _ hr2;simp only at hr2⊢;have l2:r2.length<=8796093022209:=by
        have:=D8u (nv r) (nv r);rw[hr2];rw[<-hrr]at this;omega
       refine⟨fun p=>p.1=nc (2*nv r+bt),⟨hi, ?_⟩, ?_⟩
       . rintro⟨z,_⟩ _ hz;simp only at hz⊢;refine⟨fun h1=> ?_,fun h1=> ?_⟩
         . have h1:=of_decide_eq_true h1;refine⟨⟨by show r2.length<= _;omega,by show([1]:List Int).length<= _;decide⟩, ?_⟩;rintro⟨r3,_⟩ _ hr3;simp only at hr3⊢;rw[hr3,hr2,H3,G5i];congr 1;omega
         . have h1:=of_decide_eq_false h1;show r2= _;rw[hr2];congr 1;omega
       rintro⟨r3,_⟩ _ hr3;simp only at hr3⊢;have hr3v:nv r3=2*nv r+bt:=by rw[hr3,H3]
       have l3:r3.length<=8796093022210:=by
        have e:2*nv r+bt<=(nv r+nv r)+(nv r+nv r)\/nv r=0:=by omega
        rw[hr3];rcases e with e|e
        . have a1:=M7 e;have a2:=D8u (nv r+nv r) (nv r+nv r);rw[<-hr2]at a2;omega
        . have a1:=M7 (m:=2*nv r+bt) (n:=1) (by omega);rw[C1e]at a1;have:([1]:List Int).length=1:=rfl;omega
       refine⟨⟨by show r3.length<= _;omega,by show d.length<= _;omega⟩, ?_⟩;rintro⟨r5,ok,_⟩ _ hr5;change Bool at ok;simp only at hr5⊢;rw[hr3v,hdv]at hr5;refine⟨fun hok=> ?_,fun hok=> ?_⟩
       . have hge:nv b<=2*nv r+bt:=by
          rcases Nat.lt_or_ge (2*nv r+bt) (nv b)with h1|h1
          . rw[(hr5.1 h1).2]at hok;exact absurd hok (by decide)
          . exact h1
         rw[if_pos hge]at b1 b2;obtain⟨bb,s1,s2⟩:=G3x (q:=q) hqL (M:=M) (i:=i.toNat) hq hil;have hd32:=T5 hqL (i.toNat/32);obtain⟨o1,o2⟩:=F7z (d:=dg q (i.toNat/32)) (b:=bb) (s:=i.toNat%32) s1 (by omega) h5;refine⟨by decide,⟨by omega,by omega⟩,by decide,Int.natCast_nonneg _,⟨by omega,by omega⟩, ?_, ?_, ?_⟩
         . show r5= _;rw[(hr5.2 hge).1,b2]
         . show nv (q.set _ _)= _;rw[Int.toNat_natCast,Int.toNat_natCast,show Min.min (i.toNat%32) IntKind.u32.bits=i.toNat%32 from by show Min.min (i.toNat%32) 32= _;omega];rw[Y4 hqL,Int.one_mul,show((2:Int)^(i.toNat%32))=((2^(i.toNat%32):Nat):Int)from by rw[Int.natCast_pow];rfl];have hp2:2^(i.toNat%32)<=2^31:=Nat.pow_le_pow_right (by decide) h5;have hp0:(0:Int)<=((2^(i.toNat%32):Nat):Int):=Int.natCast_nonneg _;rw[w32 (a:=((2^(i.toNat%32):Nat):Int)) (by omega) (by omega),show IntKind.u32.bits=32 from rfl,o1,w32 (by omega) (by omega),s2,b1]
         . show(q.set _ _).length= _;rw[List.length_set];exact hql
       . have hlt:2*nv r+bt<nv b:=by
          rcases Nat.lt_or_ge (2*nv r+bt) (nv b)with h1|h1
          . exact h1
          . rw[(hr5.2 h1).2]at hok;exact absurd hok (by decide)
         rw[if_neg (by omega)]at b1 b2;refine⟨?_, ?_,hql⟩
         . show r3= _;rw[hr3,b2,Nat.sub_zero]
         . show nv q= _;rw[hq,b1,Nat.add_zero,Nat.pow_succ];grind
     . rintro⟨r',q',_⟩ _ ⟨j1,j2,j3⟩;simp only at j1 j2 j3⊢;refine⟨⟨by omega,by omega, ?_, ?_,j3⟩,by omega⟩
       . rw[show i-1+1=i from by omega];exact j1
       . rw[show i-1+1=i from by omega];exact j2
   . have hi:=of_decide_eq_false hi;rw[show(i+1).toNat=0 from by omega,Nat.pow_zero,Nat.div_one]at hr hq;rw[Nat.mul_one]at hq;have hrl:r.length<=8796093022208:=by
      have:=M7 (Nat.le_of_lt (Nat.mod_lt (nv a) (Nat.pos_of_ne_zero hb0)));rw[<-hr]at this;omega
     refine⟨by show q.length<= _;omega, ?_⟩;rintro⟨q',_⟩ _ hq';refine⟨by show r.length<= _;omega, ?_⟩;rintro⟨r',_⟩ _ hr';simp only at hq' hr'⊢;refine⟨fun h=>absurd h hb0,fun _=>⟨by rw[hq',hq],by rw[hr',hr,H3],by trivial⟩⟩
theorem E0z (x:A6 A3l.args) (hw:awf A3l.args x) (hp:A3l.pre x):C6a x:=by
 obtain⟨a,b,_⟩:=x;have ha:A9 a:=A5 hw.1.2;have hb:A9 b:=A5 hw.2.1.2;change List Int at a b;obtain⟨la,lb⟩:a.length<=8796093022208/\b.length<=8796093022208:=hp;have n1:=C5 ha;have n2:=C5 hb;simp only[C6a];refine⟨by show a.length<=35184372088832;omega, ?_⟩;rintro⟨r,_⟩ _ hr;refine⟨by show b.length<=35184372088832;omega, ?_⟩;rintro⟨s,_⟩ _ hs;simp only at hr hs⊢;refine⟨fun p=>p.1=nc (nv p.1)/\p.2.1=nc (nv p.2.1)/\Nat.gcd (nv p.1) (nv p.2.1)=Nat.gcd (nv a) (nv b)/\p.1.length<=8796093022208/\p.2.1.length<=8796093022208,fun p=>nv p.2.1,⟨by show r=nc (nv r);rw[hr,H3],by show s=nc (nv s);rw[hs,H3],by show Nat.gcd (nv r) (nv s)= _;rw[hr,hs,H3,H3],by show r.length<= _;rw[hr];omega,by show s.length<= _;rw[hs];omega⟩, ?_⟩;rintro⟨u,v,_⟩ _ ⟨e1,e2,hg,l1,l2⟩;change List Int at u v;simp only at e1 e2 hg l1 l2⊢;refine⟨fun h=> ?_,fun h=> ?_⟩
 . have h:=of_decide_eq_true h;have hv0:0<nv v:=by
    rcases Nat.eq_zero_or_pos (nv v)with h1|h1
    . rw[h1,R7]at e2;rw[e2]at h;exact absurd h (by simp)
    . exact h1
   refine⟨⟨l1,l2⟩, ?_⟩;rintro⟨q,m,ok,_⟩ _ hqm;simp only at hqm⊢;obtain⟨_,hm,_⟩:=hqm.2 (by omega);have hmv:nv m=nv u%nv v:=by rw[hm,H3]
   have hml:=Nat.mod_lt (nv u) hv0;refine⟨⟨e2,by rw[hmv];exact hm, ?_,l2, ?_⟩,by rw[hmv];exact hml⟩
   . rw[hmv, <-hg,Nat.gcd_comm (nv u),Nat.gcd_comm (nv v)];exact(Nat.gcd_rec (nv v) (nv u)).symm
   . have:=M7 (Nat.le_of_lt hml);rw[<-hm, <-e2]at this;omega
 . have h:=of_decide_eq_false h;have h0:nv v=0:=by rw[List.eq_nil_of_length_eq_zero (l:=v) (by omega)];rfl
   rw[h0,Nat.gcd_zero_right]at hg;rw[e1,hg]
def E7j:An:= {}
def D3w:B4:= [(191,J0)]
def E6n:An:= {}
def D1k:B4:= [(149,L2)]
def E2u:An:= {}
def C7l:B4:= [(77,R6)]
def D6n:An:= {}
def B6e:B4:= [(149,L2),(176,H9)]
def E8o:An:= {}
def D0g:B4:= [(145,X7)]
def F2k:An:= {}
def D8z:B4:= [(149,L2)]
def F3a:An:= {}
def D7n:B4:= [(149,L2)]
def F2r:An:= {plan:= [(2,[1,3,5],[8],true,(.p 0 (.q 1 (.p 2 (.q 3 (.p 4 (.q 5 (.e 6 (.e 7 (.e 8 .done))))))))))]}
def D8s:B4:= [(149,L2),(157,A0y),(158,A1g)]
def F1l:An:= {plan:= [(1,[0,1],[4],true,(.q 0 (.q 1 (.e 2 (.e 3 (.e 4 .done))))))]}
def D8w:B4:= [(93,Y8),(148,A1t)]
def F2h:An:= {plan:= [(1,[1,3,6,8],[11],true,(.p 0 (.q 1 (.p 2 (.q 3 (.p 4 (.p 5 (.q 6 (.p 7 (.q 8 (.e 9 (.e 10 (.e 11 .done)))))))))))))]}
def D7k:B4:= [(149,L2),(150,A3a)]
def F1u:An:= {}
def D7e:B4:= [(149,L2),(187,A3l)]
def E0e:An:= {join:= [(10,⟨[4,5],[],[],[(2,29,[.val .bool, .val (.sl (.int .u32))]),(3,29,[.val .bool, .val (.sl (.int .u32))])],[]⟩)],plan:= [(4,[1,3,8],[11,12],true,(.p 0 (.q 1 (.p 2 (.q 3 (.p 4 (.p 5 (.p 7 (.q 8 (.p 9 (.e 6 (.e 10 (.e 11 (.e 12 .done)))))))))))))),(6,[0,1],[4],true,(.q 0 (.q 1 (.e 2 (.e 3 (.e 4 .done)))))),(8,[0],[3],true,(.q 0 (.e 1 (.e 2 (.e 3 .done))))),(9,[0],[3],true,(.q 0 (.e 1 (.e 2 (.e 3 .done))))),(10,[0],[2,3],false,(.q 0 (.or 1 (.e 2 (.e 3 (.p 4 .done))) (.e 2 (.e 1 (.e 3 (.p 4 .done)))))))]}
def C3k:B4:= [(93,Y8),(132,L8),(149,L2),(188,R0),(189,A3k),(190,A3j)]
def B8q:A6 L2.args->Prop:=fun(x:Bool×List Int×Unit)=>sh0 x.2.1/\∀(r:List Int×Unit),WfU r.1/\True->r.1=nc (nv x.2.1)->(sel x.1 (decide ((0:Int)<(r.1.length:Int))) false,r.1)=ic (iv (x.1,x.2.1))
theorem D6c (x:A6 L2.args):I2 Tryz.prog tys D3w E7j L2 Tryz.f149 x=B8q x:=by kernel_rfl
def B7c:A6 X7.args->Prop:=fun(x:(Bool×List Int)×Unit)=>sh0 x.1.2/\∀(r:(Bool×List Int)×Unit),WfZ r.1/\True->r.1=ic (iv x.1)->r.1=ic (iv x.1)
theorem D6v (x:A6 X7.args):I2 Tryz.prog tys D1k E6n X7 Tryz.f145 x=B7c x:=by kernel_rfl
def B2u:A6 W8.args->Prop:=fun(x:(Bool×List Int)×(Bool×List Int)×Unit)=>((x.1.1==x.2.1.1)=true->True)/\∀(r:Bool×Unit),((x.1.1==x.2.1.1)=true->(True/\True)/\r.1=decide (x.1.2=x.2.1.2))->sel (x.1.1==x.2.1.1) r.1 false=decide (x.1=x.2.1)
theorem D1v (x:A6 W8.args):I2 Tryz.prog tys C7l E2u W8 Tryz.f76 x=B2u x:=by kernel_rfl
def A6v:A6 L8.args->Prop:=fun(x:Int×Unit)=>(decide (x.1<0)=true->True/\∀(r:List Int×Unit),WfU r.1/\True->r.1=nc (IntKind.u64.wrap (IntKind.u64.wrap (IntKind.i64.wrap (-IntKind.i64.wrap (x.1+1)))+(1:Int))).toNat->sh0 r.1/\∀(a:(Bool×List Int)×Unit),WfZ a.1/\True->a.1=ic (iv (true,r.1))->a.1=ic x.1)/\(decide (x.1<0)=false->True/\∀(r:List Int×Unit),WfU r.1/\True->r.1=nc (IntKind.u64.wrap x.1).toNat->sh0 r.1/\∀(a:(Bool×List Int)×Unit),WfZ a.1/\True->a.1=ic (iv (false,r.1))->a.1=ic x.1)
theorem C4q (x:A6 L8.args):I2 Tryz.prog tys B6e D6n L8 Tryz.f132 x=A6v x:=by kernel_rfl
def B7y:A6 X9.args->Prop:=fun(x:(Bool×List Int)×Unit)=>sh0 x.1.2/\∀(r:(Bool×List Int)×Unit),WfZ r.1/\True->r.1=ic (iv x.1)->(r.1.1=true->(-1:Int)=(iv x.1).sign)/\(r.1.1=false->(decide ((r.1.2.length:Int)=(0:Int))=true->(0:Int)=(iv x.1).sign)/\(decide ((r.1.2.length:Int)=(0:Int))=false->(1:Int)=(iv x.1).sign))
theorem D5s (x:A6 X9.args):I2 Tryz.prog tys D0g E8o X9 Tryz.f88 x=B7y x:=by kernel_rfl
def C6k:A6 A1t.args->Prop:=fun(x:(Bool×List Int)×Unit)=>sh0 x.1.2/\∀(r:(Bool×List Int)×Unit),WfZ r.1/\True->r.1=ic (iv (!x.1.1,x.1.2))->r.1=ic (-iv x.1)
theorem E2h (x:A6 A1t.args):I2 Tryz.prog tys D8z F2k A1t Tryz.f148 x=C6k x:=by kernel_rfl
def C5u:A6 A3k.args->Prop:=fun(x:(Bool×List Int)×Unit)=>sh0 x.1.2/\∀(r:(Bool×List Int)×Unit),WfZ r.1/\True->r.1=ic (iv (false,x.1.2))->r.1=ic (↑(iv x.1).natAbs:Int)
theorem D9b (x:A6 A3k.args):I2 Tryz.prog tys D7n F3a A3k Tryz.f189 x=C5u x:=by kernel_rfl
def C4l:A6 Y8.args->Prop:=fun(x:(Bool×List Int)×(Bool×List Int)×Unit)=>((x.1.1==x.2.1.1)=true->(sh1 x.1.2/\sh1 x.2.1.2)/\∀(r:List Int×Unit),WfU r.1/\True->r.1=nc (nv x.1.2+nv x.2.1.2)->sh0 r.1/\∀(a:(Bool×List Int)×Unit),WfZ a.1/\True->a.1=ic (iv (x.1.1,r.1))->a.1=ic (iv x.1+iv x.2.1))/\((x.1.1==x.2.1.1)=false->(sh1 x.1.2/\sh1 x.2.1.2)/\∀(r:List Int×Bool×Unit),WfU r.1/\True/\True->(nv x.1.2<nv x.2.1.2->r.1= []/\r.2.1=false)/\(nv x.2.1.2<=nv x.1.2->r.1=nc (nv x.1.2-nv x.2.1.2)/\r.2.1=true)->(r.2.1=true->sh0 r.1/\∀(a:(Bool×List Int)×Unit),WfZ a.1/\True->a.1=ic (iv (x.1.1,r.1))->a.1=ic (iv x.1+iv x.2.1))/\(r.2.1=false->(sh1 x.2.1.2/\sh1 x.1.2)/\∀(r:List Int×Bool×Unit),WfU r.1/\True/\True->(nv x.2.1.2<nv x.1.2->r.1= []/\r.2.1=false)/\(nv x.1.2<=nv x.2.1.2->r.1=nc (nv x.2.1.2-nv x.1.2)/\r.2.1=true)->sh0 r.1/\∀(a:(Bool×List Int)×Unit),WfZ a.1/\True->a.1=ic (iv (x.2.1.1,r.1))->a.1=ic (iv x.1+iv x.2.1)))
theorem E0n (x:A6 Y8.args):I2 Tryz.prog tys D8s F2r Y8 Tryz.f93 x=C4l x:=by kernel_rfl
def C3v:A6 A3j.args->Prop:=fun(x:(Bool×List Int)×(Bool×List Int)×Unit)=>sh0 x.2.1.2/\∀(r:(Bool×List Int)×Unit),WfZ r.1/\True->r.1=ic (-iv x.2.1)->(sh1 x.1.2/\sh1 r.1.2)/\∀(a:(Bool×List Int)×Unit),WfZ a.1/\True->a.1=ic (iv x.1+iv r.1)->a.1=ic (iv x.1-iv x.2.1)
theorem E0c (x:A6 A3j.args):I2 Tryz.prog tys D8w F1l A3j Tryz.f190 x=C3v x:=by kernel_rfl
def C6g:A6 A1c.args->Prop:=fun(x:(Bool×List Int)×(Bool×List Int)×Unit)=>(sh1 x.1.2/\sh1 x.2.1.2)/\∀(r:List Int×Unit),WfU r.1/\True->r.1=nc (nv x.1.2*nv x.2.1.2)->sh0 r.1/\∀(a:(Bool×List Int)×Unit),WfZ a.1/\True->a.1=ic (iv (x.1.1 !=x.2.1.1,r.1))->a.1=ic (iv x.1*iv x.2.1)
theorem E1z (x:A6 A1c.args):I2 Tryz.prog tys D7k F2h A1c Tryz.f82 x=C6g x:=by kernel_rfl
def C4a:A6 A3b.args->Prop:=fun(x:(Bool×List Int)×(Bool×List Int)×Unit)=>(sh2 x.1.2/\sh2 x.2.1.2)/\∀(r:List Int×Unit),WfU r.1/\True->r.1=nc ((nv x.1.2).gcd (nv x.2.1.2))->sh0 r.1/\∀(a:(Bool×List Int)×Unit),WfZ a.1/\True->a.1=ic (iv (false,r.1))->a.1=ic (↑((nv x.1.2).gcd (nv x.2.1.2)):Int)
theorem E2e (x:A6 A3b.args):I2 Tryz.prog tys D7e F1u A3b Tryz.f146 x=C4a x:=by kernel_rfl
def A9m:A6 U3.args->Prop:=fun(x:(Bool×List Int)×(Bool×List Int)×Unit)=>(sh2 x.1.2/\sh2 x.2.1.2)/\∀(r:List Int×List Int×Bool×Unit),WfU r.1/\WfU r.2.1/\True/\True->(nv x.2.1.2=0->r.2.2.1=false)/\(nv x.2.1.2≠0->r.1=nc (nv x.1.2/nv x.2.1.2)/\r.2.1=nc (nv x.1.2%nv x.2.1.2)/\r.2.2.1=true)->((!r.2.2.1)=true->iv x.2.1≠0->(false,[])=ic (iv x.1/iv x.2.1)/\(false,[])=ic (iv x.1%iv x.2.1)/\false=true)/\((!r.2.2.1)=false->sh0 r.1/\∀(b:(Bool×List Int)×Unit),WfZ b.1/\True->b.1=ic (iv (x.1.1 !=x.2.1.1,r.1))->sh0 r.2.1/\∀(c:(Bool×List Int)×Unit),WfZ c.1/\True->c.1=ic (iv (x.1.1,r.2.1))->∃(J:Bool×List Int×Bool×List Int×Unit->Prop),((c.1.1=true->sh0 x.2.1.2/\∀(r:(Bool×List Int)×Unit),WfZ r.1/\True->r.1=ic (↑(iv x.2.1).natAbs:Int)->(sh1 c.1.2/\sh1 r.1.2)/\∀(d:(Bool×List Int)×Unit),WfZ d.1/\True->d.1=ic (iv c.1+iv r.1)->(x.2.1.1=true->True/\∀(r:(Bool×List Int)×Unit),WfZ r.1/\True->r.1=ic (1:Int)->(sh1 b.1.2/\sh1 r.1.2)/\∀(a:(Bool×List Int)×Unit),WfZ a.1/\True->a.1=ic (iv b.1+iv r.1)->J (a.1.1,a.1.2,d.1.1,d.1.2,()))/\(x.2.1.1=false->True/\∀(r:(Bool×List Int)×Unit),WfZ r.1/\True->r.1=ic (1:Int)->(sh1 b.1.2/\sh1 r.1.2)/\∀(a:(Bool×List Int)×Unit),WfZ a.1/\True->a.1=ic (iv b.1-iv r.1)->J (a.1.1,a.1.2,d.1.1,d.1.2,())))/\(c.1.1=false->J (b.1.1,b.1.2,c.1.1,c.1.2,())))/\∀(p:Bool×List Int×Bool×List Int×Unit),True/\WfU p.2.1/\True/\WfU p.2.2.2.1/\True->J p->(iv x.2.1≠0->(p.1,p.2.1)=ic (iv x.1/iv x.2.1)/\(p.2.2.1,p.2.2.2.1)=ic (iv x.1%iv x.2.1)/\true=true)/\(iv x.2.1≠0->(p.1,p.2.1)=ic (iv x.1/iv x.2.1)/\(p.2.2.1,p.2.2.2.1)=ic (iv x.1%iv x.2.1)/\true=true))
theorem C8x (x:A6 U3.args):I2 Tryz.prog tys C3k E0e U3 Tryz.f147 x=A9m x:=by kernel_rfl
theorem D6a (x:A6 L2.args) (hw:awf L2.args x) (hp:L2.pre x):B8q x:=by
 obtain⟨b,l,_⟩:=x;change Bool at b;change List Int at l;have hl:l.length<=35184372088832:=hp;simp only[B8q];refine⟨by omega, ?_⟩;rintro⟨r,_⟩ _ hr;simp only at hr⊢;rw[G7r,hr,O1];have e:decide ((0:Int)<((nc (nv l)).length:Int))=decide (nv l≠0):=by
  rw[decide_eq_decide];constructor
  . intro h h0;rw[h0,R7]at h;simp at h
  . intro h;have:(nc (nv l)).length≠0:=fun h1=>h (C7n.1 (List.eq_nil_of_length_eq_zero h1))
    omega
 rw[e]
theorem D6e (x:A6 X7.args) (hw:awf X7.args x) (hp:X7.pre x):B7c x:=by
 simp only[B7c];exact⟨hp,fun r _ h=>h⟩
theorem D0h (x:A6 W8.args) (hw:awf W8.args x) (hp:W8.pre x):B2u x:=by
 obtain⟨⟨a,l⟩,⟨b,m⟩,_⟩:=x;change Bool at a b;change List Int at l m;simp only[B2u];refine⟨fun _=>trivial, ?_⟩;rintro⟨r,_⟩ hr;simp only at hr⊢;by_cases h:a=b
 . subst h;have:=(hr (by simp)).2;rw[this];simp[sel]
 . have:(a==b)=false:=by simpa using h
   rw[this];simp[sel,h]
theorem C5y (x:A6 L8.args) (hw:awf L8.args x) (_:L8.pre x):A6v x:=by
 obtain⟨v,_⟩:=x;change Int at v;have hv:IntKind.i64.min<=v/\v<=IntKind.i64.max:=hw.1;rw[B8m,C5o]at hv;have hs:∀n:Nat,n<=9223372036854775808->sh0 (nc n):=fun n hn=>by
  have:(nc n).length<=2:=A6i (by omega);show _ <=35184372088832;omega
 simp only[A6v];refine⟨fun h=>⟨trivial, ?_⟩,fun h=>⟨trivial, ?_⟩⟩
 . have h:=of_decide_eq_true h;rintro⟨r,_⟩ _ hr;simp only at hr⊢;have e:(IntKind.u64.wrap (IntKind.u64.wrap (IntKind.i64.wrap (-IntKind.i64.wrap (v+1)))+1)).toNat=v.natAbs:=by
    rw[wr (a:=v+1) (by omega) (by omega),wr (by omega) (by omega),w64 (a:= -(v+1)) (by omega) (by omega),w64 (by omega) (by omega)];omega
   rw[e]at hr;subst hr;refine⟨hs _ (by omega), ?_⟩;rintro⟨s,_⟩ _ hs;simp only at hs⊢;rw[hs,E5c,H3];congr 1;omega
 . have h:=of_decide_eq_false h;rintro⟨r,_⟩ _ hr;simp only at hr⊢;have e:(IntKind.u64.wrap v).toNat=v.natAbs:=by rw[A1p];omega
   rw[e]at hr;subst hr;refine⟨hs _ (by omega), ?_⟩;rintro⟨s,_⟩ _ hs;simp only at hs⊢;rw[hs,B6r,H3];congr 1;omega
theorem D4r (x:A6 X9.args) (hw:awf X9.args x) (hp:X9.pre x):B7y x:=by
 obtain⟨a,_⟩:=x;simp only[B7y];refine⟨hp, ?_⟩;rintro⟨r,_⟩ _ hr;simp only at hr⊢;subst hr;generalize iv a=v;refine⟨fun h=> ?_,fun h=>⟨fun h2=> ?_,fun h2=> ?_⟩⟩
 . have h:v<0:=of_decide_eq_true h;exact(Int.sign_eq_neg_one_of_neg h).symm
 . have h2:=of_decide_eq_true h2;have:nc v.natAbs= []:=List.eq_nil_of_length_eq_zero (by show(ic v).2.length=0;omega);rw[C7n]at this;rw[show v=0 from by omega];rfl
 . have h:¬v<0:=of_decide_eq_false h;have h2:=of_decide_eq_false h2;have:v≠0:=fun h0=>h2 (by rw[h0,E7v];rfl)
   exact(Int.sign_eq_one_of_pos (by omega)).symm
theorem D9c (x:A6 A1t.args) (hw:awf A1t.args x) (hp:A1t.pre x):C6k x:=by
 obtain⟨⟨b,l⟩,_⟩:=x;simp only[C6k];refine⟨hp, ?_⟩;rintro⟨r,_⟩ _ hr;simp only at hr⊢;rw[hr,G1o]
theorem E0l (x:A6 Y8.args) (hw:awf Y8.args x) (hp:Y8.pre x):C4l x:=by
 obtain⟨⟨a,l⟩,⟨b,m⟩,_⟩:=x;have hl:A9 l:=A5 hw.1.2.2;have hm:A9 m:=A5 hw.2.1.2.2;change Bool at a b;change List Int at l m;obtain⟨p1,p2⟩:l.length<=17592186044416/\m.length<=17592186044416:=hp;have q1:sh1 l:=by omega
 have q2:sh1 m:=by omega
 have n1:=C5 hl;have n2:=C5 hm;have n3:=D8u (nv l) (nv m);simp only[C4l];refine⟨fun h=>⟨⟨q1,q2⟩, ?_⟩,fun h=>⟨⟨q1,q2⟩, ?_⟩⟩
 . have h:a=b:=by simpa using h
   subst h;rintro⟨r,_⟩ _ hr;simp only at hr⊢;subst hr;refine⟨by omega, ?_⟩;rintro⟨s,_⟩ _ hs;simp only at hs⊢;rw[hs];congr 1;cases a
   . simp only[B6r,H3];omega
   . simp only[E5c,H3];omega
 . have h:a≠b:=by simpa using h
   rintro⟨r,ok,_⟩ _ ⟨h1,h2⟩;change Bool at ok;simp only at h1 h2⊢;refine⟨fun hok=> ?_,fun hok=>⟨⟨q2,q1⟩, ?_⟩⟩
   . have hge:nv m<=nv l:=by
      rcases Nat.lt_or_ge (nv l) (nv m)with h3|h3
      . rw[(h1 h3).2]at hok;cases hok
      . exact h3
     rw[(h2 hge).1];have:=M7 (show nv l-nv m<=nv l by omega);refine⟨by omega, ?_⟩;rintro⟨s,_⟩ _ hs;simp only at hs⊢;rw[hs];congr 1;cases a<;>cases b<;>simp only[E5c,B6r,H3]<;>first|omega|exact absurd rfl h
   . have hlt:nv l<nv m:=by
      rcases Nat.lt_or_ge (nv l) (nv m)with h3|h3
      . exact h3
      . rw[(h2 h3).2]at hok;cases hok
     rintro⟨r2,ok2,_⟩ _ ⟨_,h4⟩;simp only at h4⊢;rw[(h4 (by omega)).1];have:=M7 (show nv m-nv l<=nv m by omega);refine⟨by omega, ?_⟩;rintro⟨s,_⟩ _ hs;simp only at hs⊢;rw[hs];congr 1;cases a<;>cases b<;>simp only[E5c,B6r,H3]<;>first|omega|exact absurd rfl h
theorem D9w (x:A6 A1c.args) (hw:awf A1c.args x) (hp:A1c.pre x):C6g x:=by
 obtain⟨⟨a,l⟩,⟨b,m⟩,_⟩:=x;have hl:A9 l:=A5 hw.1.2.2;have hm:A9 m:=A5 hw.2.1.2.2;change Bool at a b;change List Int at l m;obtain⟨p1,p2⟩:l.length<=17592186044416/\m.length<=17592186044416:=hp;have n1:=C5 hl;have n2:=C5 hm;have n3:=B6x (nv l) (nv m);simp only[C6g];refine⟨⟨by omega,by omega⟩, ?_⟩;rintro⟨r,_⟩ _ hr;simp only at hr⊢;subst hr;refine⟨by omega, ?_⟩;rintro⟨s,_⟩ _ hs;simp only at hs⊢;rw[hs];congr 1;cases a<;>cases b<;>simp[E5c,B6r,H3,Int.natCast_mul,Int.neg_mul,Int.mul_neg]
theorem E0u (x:A6 A3k.args) (hw:awf A3k.args x) (hp:A3k.pre x):C5u x:=by
 obtain⟨⟨b,l⟩,_⟩:=x;simp only[C5u];refine⟨hp, ?_⟩;rintro⟨r,_⟩ _ hr;simp only at hr⊢;rw[hr,N3,B6r]
theorem D9u (x:A6 A3j.args) (hw:awf A3j.args x) (hp:A3j.pre x):C3v x:=by
 obtain⟨a,b,_⟩:=x;have hb:A9 b.2:=A5 hw.2.1.2.2;change D4i at a b;obtain⟨p1,p2⟩:a.2.length<=17592186044416/\b.2.length<=17592186044416:=hp;have n2:=C5 hb;simp only[C3v];refine⟨by show b.2.length<=35184372088832;omega, ?_⟩;rintro⟨r,_⟩ _ hr;simp only at hr⊢;refine⟨⟨p1,by show r.2.length<= _;rw[hr,A6u,Int.natAbs_neg,N3];omega⟩, ?_⟩;rintro⟨s,_⟩ _ hs;simp only at hs⊢;rw[hs,hr,Z4, <-Int.sub_eq_add_neg]
theorem E0x (x:A6 A3b.args) (hw:awf A3b.args x) (hp:A3b.pre x):C4a x:=by
 obtain⟨a,b,_⟩:=x;have ha:A9 a.2:=A5 hw.1.2.2;have hb:A9 b.2:=A5 hw.2.1.2.2;change D4i at a b;obtain⟨p1,p2⟩:a.2.length<=8796093022208/\b.2.length<=8796093022208:=hp;have n1:=C5 ha;have n2:=C5 hb;simp only[C4a];refine⟨⟨p1,p2⟩, ?_⟩;rintro⟨r,_⟩ _ hr;simp only at hr⊢;have hl:r.length<=8796093022209:=by
  rw[hr];rcases Nat.eq_zero_or_pos (nv a.2)with h|h
  . rw[h,Nat.gcd_zero_left];omega
  . have:=M7 (Nat.le_of_dvd h (Nat.gcd_dvd_left (nv a.2) (nv b.2)));omega
 refine⟨by show r.length<=35184372088832;omega, ?_⟩;rintro⟨s,_⟩ _ hs;simp only at hs⊢;rw[hs,B6r,hr,H3]
theorem C8g (x:A6 U3.args) (hw:awf U3.args x) (hp:U3.pre x):A9m x:=by
 obtain⟨⟨sa,a⟩,⟨sb,b⟩,_⟩:=x;have ha:A9 a:=A5 hw.1.2.2;have hb:A9 b:=A5 hw.2.1.2.2;change Bool at sa sb;change List Int at a b;obtain⟨p1,p2⟩:a.length<=8796093022208/\b.length<=8796093022208:=hp;have n1:=C5 ha;have n2:=C5 hb;simp only[A9m];refine⟨⟨p1,p2⟩, ?_⟩;rintro⟨q,m,ok,_⟩ _ ⟨z1,z2⟩;change Bool at ok;simp only at z1 z2⊢;refine⟨fun h hne=> ?_,fun h=> ?_⟩
 . have hb0:nv b≠0:=fun e=>hne (by unfold iv;simp[e])
   rw[(z2 hb0).2.2]at h;exact absurd h (by decide)
 have hb0:nv b≠0:=fun e=>by rw[z1 e]at h;exact absurd h (by decide)
 obtain⟨hq,hm,_⟩:=z2 hb0;have lq:q.length<=8796093022208:=by
  have:=M7 (Nat.div_le_self (nv a) (nv b));rw[hq];omega
 have lm:m.length<=8796093022208:=by
  have:=M7 (Nat.le_of_lt (Nat.mod_lt (nv a) (Nat.pos_of_ne_zero hb0)));rw[hm];omega
 have vq:nv q=nv a/nv b:=by rw[hq,H3]
 have vm:nv m=nv a%nv b:=by rw[hm,H3]
 obtain⟨c1,c2⟩:=G5q (sa:=sa) (sb:=sb) (A:=nv a) (B:=nv b) hb0 (a:=iv (sa,a)) (b:=iv (sb,b)) (q:=iv (sa !=sb,q)) (m:=iv (sa,m)) rfl rfl (by rw[<-vq];rfl) (by rw[<-vm];rfl);refine⟨by show q.length<=35184372088832;omega, ?_⟩;rintro⟨Q,_⟩ _ hQ;refine⟨by show m.length<=35184372088832;omega, ?_⟩;rintro⟨M,_⟩ _ hM;simp only at hQ hM⊢;have lQ:Q.2.length<=8796093022208:=by
  have:(nc (nv q)).length=q.length:=by rw[vq, <-hq]
  rw[hQ,A6u,N3];show(nc (nv q)).length<= _;omega
 have lM:M.2.length<=8796093022208:=by
  have:(nc (nv m)).length=m.length:=by rw[vm, <-hm]
  rw[hM,A6u,N3];show(nc (nv m)).length<= _;omega
 refine⟨fun p=>(p.1,p.2.1)=ic (iv (sa,a)/iv (sb,b))/\(p.2.2.1,p.2.2.2.1)=ic (iv (sa,a)%iv (sb,b)),⟨fun h1=> ?_,fun h1=> ?_⟩, ?_⟩
 . have h1:iv (sa,m)<0:=by rw[hM]at h1;exact of_decide_eq_true h1
   obtain⟨d1,d2,d3⟩:=c1 h1;refine⟨by show b.length<=35184372088832;omega, ?_⟩;rintro⟨B,_⟩ _ hB;simp only at hB⊢;rw[N3]at hB;have lB:B.2.length<=8796093022208:=by
    rw[hB,A6u,Int.natAbs_natCast];show(nc (nv b)).length<= _;omega
   refine⟨⟨by show M.2.length<= _;omega,by show B.2.length<= _;omega⟩, ?_⟩;rintro⟨R,_⟩ _ hR;simp only at hR⊢;have eR:R=ic (iv (sa,a)%iv (sb,b)):=by rw[hR,hM,hB,Z4,Z4,d1]
   refine⟨fun h2=>⟨trivial, ?_⟩,fun h2=>⟨trivial, ?_⟩⟩
   . rintro⟨o,_⟩ _ ho;simp only at ho⊢;refine⟨⟨by show Q.2.length<= _;omega,by show o.2.length<= _;rw[ho,F7o];show 1<= _;decide⟩, ?_⟩;rintro⟨T,_⟩ _ hT;simp only at hT⊢;exact⟨by show T= _;rw[hT,hQ,ho,Z4,Z4,d2 h2],eR⟩
   . rintro⟨o,_⟩ _ ho;simp only at ho⊢;refine⟨⟨by show Q.2.length<= _;omega,by show o.2.length<= _;rw[ho,F7o];show 1<= _;decide⟩, ?_⟩;rintro⟨T,_⟩ _ hT;simp only at hT⊢;exact⟨by show T= _;rw[hT,hQ,ho,Z4,Z4,d3 h2],eR⟩
 . have h1:¬iv (sa,m)<0:=by rw[hM]at h1;exact of_decide_eq_false h1
   obtain⟨d1,d2⟩:=c2 h1;exact⟨by show Q= _;rw[hQ,d2],by show M= _;rw[hM,d1]⟩
 . rintro⟨t1,t2,t3,t4,_⟩ _ ⟨j1,j2⟩;exact⟨fun _=>⟨j1,j2,by trivial⟩,fun _=>⟨j1,j2,by trivial⟩⟩
def E7d:An:= {join:= [(11,⟨[4,7,10],[2],[],[(5,29,[.val .bool, .val (.sl (.int .u32))]),(7,29,[.val .bool, .val (.sl (.int .u32))])],[]⟩)],plan:= [(5,[0,3],[5],true,(.q 0 (.p 2 (.q 3 (.e 1 (.p 4 (.e 5 .done))))))),(10,[0,2],[4,5],true,(.q 0 (.q 2 (.e 1 (.e 3 (.e 4 (.e 5 .done)))))))]}
def D2p:B4:= [(75,P9),(77,R6),(88,X9),(145,X7),(146,A3b),(147,U3),(148,A1t)]
def E6w:An:= {}
def D2u:B4:= []
def E6a:An:= {}
def D1b:B4:= [(81,Q4)]
def E4w:An:= {}
def C7j:B4:= [(76,W8),(77,R6)]
def C8u:An:= {plan:= [(1,[0,1],[],true,(.q 0 (.q 1 (.e 2 (.e 3 (.p 4 .done))))))]}
def B0m:B4:= [(17,P7),(83,Q0)]
def F2f:An:= {}
def D7u:B4:= [(83,Q0)]
def D6y:An:= {}
def B6t:B4:= [(81,Q4),(132,L8)]
def F3y:An:= {}
def E3d:B4:= [(81,Q4),(132,L8)]
def E6p:An:= {}
def D0w:B4:= [(83,Q0),(88,X9)]
def B7d:A6 Q4.args->Prop:=fun(x:(Bool×List Int)×(Bool×List Int)×Unit)=>sh0 x.2.1.2/\∀(r:Int×Unit),E5 r.1/\True->r.1=(iv x.2.1).sign->(decide (r.1=0)=true->True/\∀(r:QQ×Unit),WfQ r.1/\True->r.1=rc (0:Rat)->r.1=rc (B7o x.1 x.2.1))/\(decide (r.1=0)=false->sh0 x.2.1.2/\∀(r:(Bool×List Int)×Unit),WfZ r.1/\True->r.1=ic (iv x.2.1)->((!r.1.1)=true->True)/\∀(d:Bool×Unit),((!r.1.1)=true->(True/\True)/\d.1=decide (r.1.2= [(1:Int)]))->(sel (!r.1.1) d.1 false=true->sh0 x.1.2/\∀(a:(Bool×List Int)×Unit),WfZ a.1/\True->a.1=ic (iv x.1)->(a.1,r.1.2)=rc (B7o x.1 x.2.1))/\(sel (!r.1.1) d.1 false=false->(sh2 x.1.2/\sh2 x.2.1.2)/\∀(r:(Bool×List Int)×Unit),WfZ r.1/\True->r.1=ic (↑((nv x.1.2).gcd (nv x.2.1.2)):Int)->(sh2 x.1.2/\sh2 r.1.2)/\∀(a:(Bool×List Int)×(Bool×List Int)×Bool×Unit),WfZ a.1/\WfZ a.2.1/\True/\True->(iv r.1≠0->a.1=ic (iv x.1/iv r.1)/\a.2.1=ic (iv x.1%iv r.1)/\a.2.2.1=true)->(sh2 x.2.1.2/\sh2 r.1.2)/\∀(b:(Bool×List Int)×(Bool×List Int)×Bool×Unit),WfZ b.1/\WfZ b.2.1/\True/\True->(iv r.1≠0->b.1=ic (iv x.2.1/iv r.1)/\b.2.1=ic (iv x.2.1%iv r.1)/\b.2.2.1=true)->∃(J:Bool×List Int×Bool×List Int×Unit->Prop),((b.1.1=true->sh0 a.1.2/\∀(r:(Bool×List Int)×Unit),WfZ r.1/\True->r.1=ic (-iv a.1)->sh0 b.1.2/\∀(c:(Bool×List Int)×Unit),WfZ c.1/\True->c.1=ic (-iv b.1)->J (r.1.1,r.1.2,c.1.1,c.1.2,()))/\(b.1.1=false->J (a.1.1,a.1.2,b.1.1,b.1.2,())))/\∀(p:Bool×List Int×Bool×List Int×Unit),True/\WfU p.2.1/\True/\WfU p.2.2.2.1/\True->J p->((p.1,p.2.1),p.2.2.2.1)=rc (B7o x.1 x.2.1)))
theorem D5g (x:A6 Q4.args):I2 Tryz.prog tys D2p E7d Q4 Tryz.f81 x=B7d x:=by kernel_rfl
def B8y:A6 P9.args->Prop:=fun(x:Unit)=>((false,[]),[(1:Int)])=rc (0:Rat)
theorem D6h (x:A6 P9.args):I2 Tryz.prog tys D2u E6w P9 Tryz.f75 x=B8y x:=by kernel_rfl
def B8k:A6 Q0.args->Prop:=fun(x:QQ×Unit)=>(sh2 x.1.1.2/\sh2 x.1.2)/\∀(r:QQ×Unit),WfQ r.1/\True->r.1=rc (B7o x.1.1 (false,x.1.2))->r.1=rc (rv x.1)
theorem D6x (x:A6 Q0.args):I2 Tryz.prog tys D1b E6a Q0 Tryz.f83 x=B8k x:=by kernel_rfl
def B2o:A6 P7.args->Prop:=fun(x:QQ×QQ×Unit)=>True/\∀(r:Bool×Unit),True/\True->r.1=decide (x.1.1=x.2.1.1)->(r.1=true->True)/\∀(a:Bool×Unit),(r.1=true->(True/\True)/\a.1=decide (x.1.2=x.2.1.2))->sel r.1 a.1 false=decide (x.1=x.2.1)
theorem D0k (x:A6 P7.args):I2 Tryz.prog tys C7j E4w P7 Tryz.f17 x=B2o x:=by kernel_rfl
def A3y:A6 J7.args->Prop:=fun(x:QQ×Unit)=>sh3 x.1/\∀(r:QQ×Unit),WfQ r.1/\True->r.1=rc (rv x.1)->True/\∀(a:Bool×Unit),True/\True->a.1=decide (x.1=r.1)->a.1=decide (x.1=rc (rv x.1))
theorem B9g (x:A6 J7.args):I2 Tryz.prog tys B0m C8u J7 Tryz.f102 x=A3y x:=by kernel_rfl
def C4i:A6 A1w.args->Prop:=fun(x:QQ×Unit)=>sh3 x.1/\∀(r:QQ×Unit),WfQ r.1/\True->r.1=rc (rv x.1)->(false,r.1.2)=ic (↑(rv x.1).den:Int)
theorem E0y (x:A6 A1w.args):I2 Tryz.prog tys D7u F2f A1w Tryz.f84 x=C4i x:=by kernel_rfl
def A7m:A6 O2.args->Prop:=fun(x:Int×Unit)=>True/\∀(r:(Bool×List Int)×Unit),WfZ r.1/\True->r.1=ic x.1->True/\∀(a:(Bool×List Int)×Unit),WfZ a.1/\True->a.1=ic (1:Int)->(sh2 r.1.2/\sh2 a.1.2)/\∀(b:QQ×Unit),WfQ b.1/\True->b.1=rc (B7o r.1 a.1)->b.1=ri x.1
theorem C4y (x:A6 O2.args):I2 Tryz.prog tys B6t D6y O2 Tryz.f68 x=A7m x:=by kernel_rfl
def D0v:A6 A6p.args->Prop:=fun(x:Int×Int×Unit)=>True/\∀(r:(Bool×List Int)×Unit),WfZ r.1/\True->r.1=ic x.1->True/\∀(a:(Bool×List Int)×Unit),WfZ a.1/\True->a.1=ic x.2.1->(sh2 r.1.2/\sh2 a.1.2)/\∀(b:QQ×Unit),WfQ b.1/\True->b.1=rc (B7o r.1 a.1)->b.1=rc (Rat.divInt x.1 x.2.1)
theorem E3w (x:A6 A6p.args):I2 Tryz.prog tys E3d F3y A6p Tryz.f144 x=D0v x:=by kernel_rfl
def B7s:A6 X0.args->Prop:=fun(x:QQ×Unit)=>sh3 x.1/\∀(r:QQ×Unit),WfQ r.1/\True->r.1=rc (rv x.1)->sh0 r.1.1.2/\∀(a:Int×Unit),E5 a.1/\True->a.1=(iv r.1.1).sign->a.1=(rv x.1).num.sign
theorem D6d (x:A6 X0.args):I2 Tryz.prog tys D0w E6p X0 Tryz.f29 x=B7s x:=by kernel_rfl
theorem D6s (x:A6 P9.args) (hw:awf P9.args x) (_:P9.pre x):B8y x:=by
 simp only[B8y];exact F5h.symm
theorem D0r (x:A6 P7.args) (hw:awf P7.args x) (hp:P7.pre x):B2o x:=by
 obtain⟨⟨a,l⟩,⟨b,m⟩,_⟩:=x;simp only[B2o];refine⟨trivial, ?_⟩;rintro⟨r,_⟩ _ hr;refine⟨fun _=>trivial, ?_⟩;rintro⟨s,_⟩ hs;simp only at hr hs⊢;by_cases h:a=b
 . subst h;have hr:r=true:=by rw[hr];simp
   have:=(hs hr).2;rw[this,hr];simp[sel]
 . have hr:r=false:=by rw[hr];simp[h]
   rw[hr];simp[sel,h]
theorem B7i (x:A6 J7.args) (hw:awf J7.args x) (hp:J7.pre x):A3y x:=by
 obtain⟨a,_⟩:=x;simp only[A3y];refine⟨hp, ?_⟩;rintro⟨r,_⟩ _ hr;refine⟨trivial, ?_⟩;rintro⟨s,_⟩ _ hs;simp only at hr hs⊢;rw[hs,hr]
theorem E1f (x:A6 A1w.args) (hw:awf A1w.args x) (hp:A1w.pre x):C4i x:=by
 obtain⟨a,_⟩:=x;simp only[C4i];refine⟨hp, ?_⟩;rintro⟨r,_⟩ _ hr;simp only at hr⊢;rw[hr];unfold rc ic;simp
theorem C6l (x:A6 O2.args) (hw:awf O2.args x) (_:O2.pre x):A7m x:=by
 obtain⟨v,_⟩:=x;change Int at v;have hv:IntKind.i64.min<=v/\v<=IntKind.i64.max:=hw.1;rw[B8m,C5o]at hv;simp only[A7m];refine⟨trivial, ?_⟩;rintro⟨r,_⟩ _ hr;refine⟨trivial, ?_⟩;rintro⟨s,_⟩ _ hs;simp only at hr hs⊢;subst hr hs;have h2:(ic v).2.length<=2:=by rw[A6u];exact A6i (by omega)
 refine⟨⟨by omega,by rw[F7o];show 1<= _;decide⟩, ?_⟩;rintro⟨t,_⟩ _ ht;simp only at ht⊢;rw[ht,E9y (Z4 1),Z4,D7v]
theorem D4w (x:A6 Q0.args) (hw:awf Q0.args x) (hp:Q0.pre x):B8k x:=by
 obtain⟨q,_⟩:=x;change N8 at q;obtain⟨h1,h2⟩:q.1.2.length<=2199023255552/\q.2.length<=2199023255552:=hp;simp only[B8k];refine⟨⟨by show q.1.2.length<= _;omega,by show q.2.length<= _;omega⟩, ?_⟩;rintro⟨r,_⟩ _ hr;simp only at hr⊢;rw[hr,G3v]
theorem D6t (x:A6 X0.args) (hw:awf X0.args x) (hp:X0.pre x):B7s x:=by
 obtain⟨q,_⟩:=x;have l1:A9 q.1.2:=A5 hw.1.1.2.2;have l2:A9 q.2:=A5 hw.1.2.2;change N8 at q;obtain⟨h1,h2⟩:q.1.2.length<=2199023255552/\q.2.length<=2199023255552:=hp;obtain⟨n1,n2⟩:=B4w l1 l2 h1 h2 (by decide);simp only[B7s];refine⟨⟨h1,h2⟩, ?_⟩;rintro⟨r,_⟩ _ hr;simp only at hr⊢;have e:r.1=ic (rv q).num:=by rw[hr];rfl
 refine⟨by show r.1.2.length<= _;rw[e];omega, ?_⟩;rintro⟨s,_⟩ _ hs;simp only at hs⊢;rw[hs,e,Z4]
theorem D4m (x:A6 Q4.args) (hw:awf Q4.args x) (hp:Q4.pre x):B7d x:=by
 obtain⟨a,b,_⟩:=x;have la:A9 a.2:=A5 hw.1.2.2;have lb:A9 b.2:=A5 hw.2.1.2.2;change D4i at a b;obtain⟨p1,p2⟩:a.2.length<=8796093022208/\b.2.length<=8796093022208:=hp;have n1:=C5 la;have n2:=C5 lb;simp only[B7d];refine⟨by show b.2.length<=35184372088832;omega, ?_⟩;rintro⟨s,_⟩ _ hs;simp only at hs⊢;refine⟨fun h=>⟨trivial, ?_⟩,fun h=>⟨by show b.2.length<=35184372088832;omega, ?_⟩⟩
 . have h:=of_decide_eq_true h;rw[hs]at h;rintro⟨r,_⟩ _ hr;simp only at hr⊢;rw[hr,F4b (Int.sign_eq_zero_iff_zero.1 h)]
 have h:=of_decide_eq_false h;have hB:iv b≠0:=fun e=>h (by rw[hs,e];rfl)
 rintro⟨m,_⟩ _ hm;simp only at hm⊢;refine⟨fun _=>trivial, ?_⟩;rintro⟨e,_⟩ he;simp only at he⊢;refine⟨fun h1=>⟨by show a.2.length<=35184372088832;omega, ?_⟩,fun _=>⟨⟨p1,p2⟩, ?_⟩⟩
 . rw[O1,Bool.and_eq_true]at h1;have h2:=(he h1.1).2;rw[h1.2]at h2;have h3:m.2= [1]:=of_decide_eq_true h2.symm;have h4:m.1=false:=by simpa using h1.1
   have h5:iv b=1:=by
    have e1:m=(false,[1]):=Prod.ext h4 h3;rw[<-Z4 (iv b), <-hm,e1];rfl
   rintro⟨r,_⟩ _ hr;simp only at hr⊢;rw[hr,h3,E9y h5,D7v];rfl
 . rintro⟨g,_⟩ _ hg;simp only at hg⊢;have hgv:iv g=((Nat.gcd (nv a.2) (nv b.2):Nat):Int):=by rw[hg,Z4]
   obtain⟨G0,Gs,Gn,Gp⟩:=F8n (A:=iv a) (B:=iv b) hB (G:=Nat.gcd (nv a.2) (nv b.2)) (by rw[N3,N3]);have hbz:nv b.2≠0:=by rw[<-N3];omega
   have hgl:g.2.length<=8796093022208:=by
    rw[hg,A6u,Int.natAbs_natCast];have:=M7 (Nat.le_of_dvd (by omega) (Nat.gcd_dvd_right (nv a.2) (nv b.2)));omega
   rw[<-hgv]at Gs Gn Gp;have hg0:iv g≠0:=by omega
   refine⟨⟨p1,hgl⟩, ?_⟩;rintro⟨n,n',okn,_⟩ _ hn;refine⟨⟨p2,hgl⟩, ?_⟩;rintro⟨d,d',okd,_⟩ _ hd;simp only at hn hd⊢;have hn:=(hn hg0).1;have hd:=(hd hg0).1;have ln:n.2.length<=8796093022208:=by
    rw[hn,A6u];have h1:=M7 (Int.natAbs_ediv_le_natAbs (iv a) (iv g));rw[N3 a]at h1;omega
   have ld:d.2.length<=8796093022208:=by
    rw[hd,A6u];have h1:=M7 (Int.natAbs_ediv_le_natAbs (iv b) (iv g));rw[N3 b]at h1;omega
   have hds:d.1=decide (iv b/iv g<0):=by rw[hd];rfl
   refine⟨fun p=>((p.1,p.2.1),p.2.2.2.1)=rc (B7o a b),⟨fun h1=>⟨by show n.2.length<=35184372088832;omega, ?_⟩,fun h1=> ?_⟩, ?_⟩
   . rw[hds]at h1;have h1:=Gs.1 (of_decide_eq_true h1);rintro⟨u,_⟩ _ hu;refine⟨by show d.2.length<=35184372088832;omega, ?_⟩;rintro⟨v,_⟩ _ hv;simp only at hu hv⊢;show(u,v.2)= _;rw[hn,Z4]at hu;rw[hd,Z4]at hv;rw[hu,hv];exact Gn h1
   . rw[hds]at h1;have h1:¬iv b<0:=fun h2=>(of_decide_eq_false h1) (Gs.2 h2)
     show(n,d.2)= _;rw[hn,hd];exact Gp h1
   . rintro⟨t1,t2,t3,t4,_⟩ _ j;exact j
def F0v:An:= {plan:= [(1,[0,2],[6,7],true,(.q 0 (.q 2 (.or 1 (.or 3 (.or 4 (.e 5 (.e 6 (.e 7 .done))) (.e 5 (.e 4 (.e 6 (.e 7 .done))))) (.or 4 (.or 3 (.e 5 (.e 6 (.e 7 .done))) (.e 5 (.e 3 (.e 6 (.e 7 .done))))) (.e 5 (.or 3 (.e 4 (.e 6 (.e 7 .done))) (.e 4 (.e 3 (.e 6 (.e 7 .done)))))))) (.or 4 (.or 1 (.or 3 (.e 5 (.e 6 (.e 7 .done))) (.e 5 (.e 3 (.e 6 (.e 7 .done))))) (.e 5 (.e 1 (.e 3 (.e 6 (.e 7 .done)))))) (.e 5 (.or 1 (.or 3 (.e 4 (.e 6 (.e 7 .done))) (.e 4 (.e 3 (.e 6 (.e 7 .done))))) (.e 4 (.e 1 (.e 3 (.e 6 (.e 7 .done)))))))))))),(2,[1,2,6,7,11,13],[17],true,(.p 0 (.q 1 (.q 2 (.p 5 (.q 6 (.q 7 (.q 11 (.q 13 (.e 3 (.e 4 (.e 8 (.e 9 (.e 10 (.e 12 (.e 14 (.e 15 (.e 16 (.e 17 .done)))))))))))))))))))]}
def D7j:B4:= [(81,Q4),(82,A1c),(83,Q0),(84,A1w),(93,Y8)]
def F1r:An:= {plan:= [(1,[0,3,7,9],[13],true,(.q 0 (.q 3 (.q 7 (.q 9 (.e 1 (.p 2 (.e 4 (.p 5 (.e 6 (.e 8 (.e 10 (.e 11 (.e 12 (.e 13 .done)))))))))))))))]}
def D7t:B4:= [(81,Q4),(82,A1c),(83,Q0),(84,A1w)]
def q8 (x:QQ×QQ×Unit) (r:QQ×Unit) (g:QQ×Unit):Prop:=∀(a:(Bool×List Int)×Unit),WfZ a.1/\True->a.1=ic (↑(rv x.2.1).den:Int)->(sh1 r.1.1.2/\sh1 a.1.2)/\∀(b:(Bool×List Int)×Unit),WfZ b.1/\True->b.1=ic (iv r.1.1*iv a.1)->sh3 x.1/\∀(r:(Bool×List Int)×Unit),WfZ r.1/\True->r.1=ic (↑(rv x.1).den:Int)->(sh1 g.1.1.2/\sh1 r.1.2)/\∀(c:(Bool×List Int)×Unit),WfZ c.1/\True->c.1=ic (iv g.1.1*iv r.1)->(sh1 b.1.2/\sh1 c.1.2)/\∀(r:(Bool×List Int)×Unit),WfZ r.1/\True->r.1=ic (iv b.1+iv c.1)->sh3 x.1/\∀(d:(Bool×List Int)×Unit),WfZ d.1/\True->d.1=ic (↑(rv x.1).den:Int)->sh3 x.2.1/\∀(e:(Bool×List Int)×Unit),WfZ e.1/\True->e.1=ic (↑(rv x.2.1).den:Int)->(sh1 d.1.2/\sh1 e.1.2)/\∀(f:(Bool×List Int)×Unit),WfZ f.1/\True->f.1=ic (iv d.1*iv e.1)->(sh2 r.1.2/\sh2 f.1.2)/\∀(h:QQ×Unit),WfQ h.1/\True->h.1=rc (B7o r.1 f.1)->h.1=rc (rv x.1+rv x.2.1)
def q9 (x:QQ×QQ×Unit):Prop:=∀(r:QQ×Unit),WfQ r.1/\True->r.1=rc (rv x.1)->(sh3 x.2.1/\∀(g:QQ×Unit),WfQ g.1/\True->g.1=rc (rv x.2.1)->sh3 x.2.1/\q8 x r g)/\sh3 x.2.1/\∀(g:QQ×Unit),WfQ g.1/\True->g.1=rc (rv x.2.1)->sh3 x.2.1/\q8 x r g
def qa (x:QQ×QQ×Unit):Prop:=∀(r:QQ×Unit),WfQ r.1/\True->r.1=rc (rv x.1)->sh3 x.2.1/\∀(g:QQ×Unit),WfQ g.1/\True->g.1=rc (rv x.2.1)->sh3 x.2.1/\q8 x r g
def C5w:A6 A1m.args->Prop:=fun(x:QQ×QQ×Unit)=>(sh3 x.1/\∀(r:QQ×Unit),WfQ r.1/\True->r.1=rc (rv x.1)->(sh3 x.2.1/\∀(g:QQ×Unit),WfQ g.1/\True->g.1=rc (rv x.2.1)->(sh3 x.2.1/\q8 x r g)/\sh3 x.2.1/\q8 x r g)/\((sh3 x.2.1/\∀(g:QQ×Unit),WfQ g.1/\True->g.1=rc (rv x.2.1)->sh3 x.2.1/\q8 x r g)/\sh3 x.2.1/\∀(g:QQ×Unit),WfQ g.1/\True->g.1=rc (rv x.2.1)->sh3 x.2.1/\q8 x r g)/\(sh3 x.2.1/\∀(g:QQ×Unit),WfQ g.1/\True->g.1=rc (rv x.2.1)->sh3 x.2.1/\q8 x r g)/\sh3 x.2.1/\∀(g:QQ×Unit),WfQ g.1/\True->g.1=rc (rv x.2.1)->sh3 x.2.1/\q8 x r g)/\((sh3 x.1/\q9 x)/\sh3 x.1/\qa x)/\(sh3 x.1/\q9 x)/\sh3 x.1/\qa x
theorem E1i (x:A6 A1m.args):I2 Tryz.prog tys D7j F0v A1m Tryz.f32 x=C5w x:=by kernel_rfl
def C3t:A6 A3i.args->Prop:=fun(x:QQ×QQ×Unit)=>sh3 x.1/\∀(r:QQ×Unit),WfQ r.1/\True->r.1=rc (rv x.1)->sh3 x.2.1/\∀(a:QQ×Unit),WfQ a.1/\True->a.1=rc (rv x.2.1)->(sh1 r.1.1.2/\sh1 a.1.1.2)/\∀(b:(Bool×List Int)×Unit),WfZ b.1/\True->b.1=ic (iv r.1.1*iv a.1.1)->sh3 x.1/\∀(r:(Bool×List Int)×Unit),WfZ r.1/\True->r.1=ic (↑(rv x.1).den:Int)->sh3 x.2.1/\∀(c:(Bool×List Int)×Unit),WfZ c.1/\True->c.1=ic (↑(rv x.2.1).den:Int)->(sh1 r.1.2/\sh1 c.1.2)/\∀(d:(Bool×List Int)×Unit),WfZ d.1/\True->d.1=ic (iv r.1*iv c.1)->(sh2 b.1.2/\sh2 d.1.2)/\∀(r:QQ×Unit),WfQ r.1/\True->r.1=rc (B7o b.1 d.1)->r.1=rc (rv x.1*rv x.2.1)
theorem E1q (x:A6 A3i.args):I2 Tryz.prog tys D7t F1r A3i Tryz.f24 x=C3t x:=by kernel_rfl
theorem F0n {p:N8} (l1:A9 p.1.2) (l2:A9 p.2) (h:sh3 p):(ic (rv p).num).2.length<=2199023255552/\(ic ((rv p).den:Int)).2.length<=2199023255552:=by
 have:=B4w l1 l2 h.1 h.2 (by decide);exact⟨this.1,by rw[A6u,Int.natAbs_natCast];exact this.2⟩
theorem icm {x y:Int} {k:Nat} (hx:(ic x).2.length<=k) (hy:(ic y).2.length<=k):(ic (x*y)).2.length<=2*k:=by
 rw[A6u]at*;rw[Int.natAbs_mul];have:=B6x x.natAbs y.natAbs;omega
theorem ica {x y:Int} {k:Nat} (hx:(ic x).2.length<=k) (hy:(ic y).2.length<=k):(ic (x+y)).2.length<=k+1:=by
 rw[A6u]at*;have h1:=M7 (Int.natAbs_add_le x y);have:=D8u x.natAbs y.natAbs;omega
theorem E2c (x:A6 A1m.args) (hw:awf A1m.args x) (hp:A1m.pre x):C5w x:=by
 obtain⟨p,q,_⟩:=x;have lp1:A9 p.1.2:=A5 hw.1.1.2.2;have lp2:A9 p.2:=A5 hw.1.2.2;have lq1:A9 q.1.2:=A5 hw.2.1.1.2.2;have lq2:A9 q.2:=A5 hw.2.1.2.2;change N8 at p q;obtain⟨hp3,hq3⟩:sh3 p/\sh3 q:=hp;obtain⟨a1,a2⟩:=F0n lp1 lp2 hp3;obtain⟨b1,b2⟩:=F0n lq1 lq2 hq3;have m1:=icm a1 b2;have m2:=icm b1 a2;have m3:=icm a2 b2;have m4:=ica m1 m2;have fin:rc (B7o (ic ((rv p).num*((rv q).den:Int)+(rv q).num*((rv p).den:Int))) (ic (((rv p).den:Int)*((rv q).den:Int))))=rc (rv p+rv q):=by
  unfold B7o;rw[Z4,Z4,F2z]
 have P1:sh1 (ic (rv p).num).2:=by show _ <= _;omega
 have P2:sh1 (ic ((rv p).den:Int)).2:=by show _ <= _;omega
 have Q1:sh1 (ic (rv q).num).2:=by show _ <= _;omega
 have Q2:sh1 (ic ((rv q).den:Int)).2:=by show _ <= _;omega
 have M1:sh1 (ic ((rv p).num*((rv q).den:Int))).2:=by show _ <= _;omega
 have M2:sh1 (ic ((rv q).num*((rv p).den:Int))).2:=by show _ <= _;omega
 have M3:sh2 (ic (((rv p).den:Int)*((rv q).den:Int))).2:=by show _ <= _;omega
 have M4:sh2 (ic ((rv p).num*((rv q).den:Int)+(rv q).num*((rv p).den:Int))).2:=by show _ <= _;omega
 clear m1 m2 m3 m4 a1 a2 b1 b2;have r1:(rc (rv p)).1=ic (rv p).num:=rfl;have r2:(rc (rv q)).1=ic (rv q).num:=rfl;simp only[C5w,q8,q9,qa]
 repeat' first
  |assumption
  |apply And.intro
  | (rintro⟨r,_⟩ _ h;simp only at h⊢;subst h;try simp only[r1,r2,Z4])
theorem B4m (x:A6 I3.args) (hw:awf I3.args x) (_:I3.pre x):A1q x:=by
 obtain⟨a,b,_⟩:=x;change Int at a b;simp only[A1q];refine⟨trivial, ?_⟩;rintro⟨r,_⟩ _ hr;refine⟨trivial, ?_⟩;rintro⟨s,_⟩ _ hs;change Bool at r s;simp only at hr hs;rw[hr,hs];refine⟨fun h=>(by cases h),fun _=>⟨fun h=>(by cases h),fun _=>⟨fun h=> ?_,fun h=>⟨fun h2=> ?_,fun h2=> ?_⟩⟩⟩⟩
 . simp[C8t,of_decide_eq_true h]
 . simp[C8t,of_decide_eq_false h,of_decide_eq_true h2]
 . simp[C8t,of_decide_eq_false h,of_decide_eq_false h2]
theorem C6n (x:A6 R2.args) (hw:awf R2.args x) (hp:R2.pre x):A6z x:=by
 obtain⟨p,_⟩:=x;change D4i at p;simp only[A6z];refine⟨hp, ?_⟩;rintro⟨r,_⟩ _ hr;simp only at hr⊢;refine⟨trivial, ?_⟩;rintro⟨s,_⟩ _ hs;simp only at hs⊢;rw[hs,hr];have h:=G3s (neg:= !p.1) (m:=nv p.2);have e:iv (!p.1,nc (nv p.2))= -iv p:=by
  rw[G1o];congr 1;unfold iv;simp only[H3]
 rw[<-e,h];have:decide (nc (nv p.2)≠ [])=decide (nv p.2≠0):=decide_eq_decide.2 (not_congr C7n);rw[this]
theorem D7m {a b:Int} (ha: -2147483647<=a/\a<=2147483647) (hb: -2147483647<=b/\b<=2147483647): -4611686014132420609<=a*b/\a*b<=4611686014132420609:=by
 have h:(a*b).natAbs<=2147483647*2147483647:=by
  rw[Int.natAbs_mul];exact Nat.mul_le_mul (by omega) (by omega)
 omega
theorem C0i (x:A6 J5.args) (hw:awf J5.args x) (hp:J5.pre x):A5u x:=by
 obtain⟨p,q,_⟩:=x;have lp1:A9 p.1.2:=A5 hw.1.1.2.2;have lp2:A9 p.2:=A5 hw.1.2.2;have lq1:A9 q.1.2:=A5 hw.2.1.1.2.2;have lq2:A9 q.2:=A5 hw.2.1.2.2;change N8 at p q;obtain⟨hp3,hq3⟩:sh3 p/\sh3 q:=hp;obtain⟨hp1,hp2⟩:=hp3;obtain⟨hq1,hq2⟩:=hq3;simp only[A5u];refine⟨trivial, ?_⟩;rintro⟨an,ad,aok,_⟩ _ ⟨a1,a2⟩;refine⟨trivial, ?_⟩;rintro⟨bn,bd,bok,_⟩ _ ⟨b1,b2⟩;change Int at an ad bn bd;simp only at a1 a2 b1 b2⊢;refine⟨fun h=> ?_,fun _=>⟨trivial, ?_⟩⟩
 . rw[O1,Bool.and_eq_true]at h;have sp:P8 p:=Decidable.byContradiction fun hn=>by have:=a2 hn;rw[this]at h;exact absurd h.1 (by decide)
   have sq:P8 q:=Decidable.byContradiction fun hn=>by have:=b2 hn;rw[this]at h;exact absurd h.2 (by decide)
   obtain⟨ea,ed,_⟩:=a1 sp;obtain⟨eb,ee,_⟩:=b1 sq;obtain⟨x1,x2,x3,x4⟩:=C0d sp;obtain⟨y1,y2,y3,y4⟩:=C0d sq;have h1:=D7m (a:=an) (b:=bn) (by omega) (by omega);have h2:=D7m (a:=ad) (b:=bd) (by omega) (by omega);have h4:0<ad*bd:=Int.mul_pos (by omega) (by omega);rw[wr (a:=ad*bd) (by omega) (by omega),wr (a:=an*bn) (by omega) (by omega)];refine⟨h4, ?_⟩;rintro⟨r,_⟩ _ hr;simp only at hr⊢;rw[hr, <-D0e p, <-D0e q, <-ea, <-ed, <-eb, <-ee,Rat.mkRat_mul_mkRat,Int.toNat_mul (by omega) (by omega)]
 . rintro⟨n,d,_⟩ ⟨hwn,hwd,_⟩ h1;refine⟨trivial, ?_⟩;rintro⟨m,e,_⟩ ⟨hwm,hwe,_⟩ h2;have ln:A9 n.2:=A5 hwn.2.2;have ld:A9 d:=A5 hwd.2;have lm:A9 m.2:=A5 hwm.2.2;have le:A9 e:=A5 hwe.2;change D4i at n m;change List Int at d e;simp only at h1 h2⊢;obtain⟨d0,hP⟩:=C1j h1;obtain⟨e0,hQ⟩:=C1j h2;obtain⟨n1,d1⟩:=B3q (k:=2199023255552) h1 hp1 hp2 (by decide);obtain⟨m1,e1⟩:=B3q (k:=2199023255552) h2 hq1 hq2 (by decide);have x1:=C3u (x:=n) (y:=m) ln lm;have x2:=C6r ld le;rw[hP,hQ];refine⟨⟨by show n.2.length<= _;omega,by show m.2.length<= _;omega⟩, ?_⟩;rintro⟨u,_⟩ _ hu;refine⟨⟨by show d.length<= _;omega,by show e.length<= _;omega⟩, ?_⟩;rintro⟨v,_⟩ _ hv;simp only at hu hv⊢;refine⟨⟨by rw[hv,H3];exact Nat.mul_ne_zero d0 e0,by show u.2.length<= _;rw[hu];omega,by show v.length<= _;rw[hv];omega⟩, ?_⟩;rintro⟨r,_⟩ _ hr;simp only at hr⊢;rw[hr,hu,hv,Z4,H3,Rat.mkRat_mul_mkRat]
theorem C3d (x:A6 P5.args) (hw:awf P5.args x) (hp:P5.pre x):A5w x:=by
 obtain⟨p,_⟩:=x;have lp1:A9 p.1.2:=A5 hw.1.1.2.2;have lp2:A9 p.2:=A5 hw.1.2.2;change N8 at p;have hp3:sh3 p:=hp;obtain⟨a1,a2⟩:=B4w (k:=2199023255552) lp1 lp2 hp3.1 hp3.2 (by decide);simp only[A5w];refine⟨hp3, ?_⟩;rintro⟨r,_⟩ _ hr;simp only at hr⊢;subst hr;refine⟨by show(ic (rv p).num).2.length<= _;omega, ?_⟩;rintro⟨s,_⟩ _ hs;simp only at hs⊢;rw[hs];show(ic (-iv (ic (rv p).num)),nc (rv p).den)=(ic (-(rv p)).num,nc (-(rv p)).den);rw[Z4,Rat.neg_num,Rat.neg_den]
theorem G6q {q:Rat} (h:q≠0):(((ic q.num).1,nc q.den),(ic q.num).2)=rc q⁻¹:=by
 have hn:q.num≠0:=fun e=>h (Rat.num_eq_zero.1 e)
 unfold rc ic;rw[Rat.num_inv,Rat.den_inv,if_neg hn,Int.natAbs_mul,Int.natAbs_natCast,Int.natAbs_sign_of_ne_zero hn,Nat.one_mul];have hd:(0:Int)<(q.den:Int):=by have:=q.den_pos;omega
 have:(q.num.sign*(q.den:Int)<0)↔q.num<0:=by
  rcases Int.lt_trichotomy q.num 0 with h1|h1|h1
  . rw[Int.sign_eq_neg_one_of_neg h1];omega
  . exact absurd h1 hn
  . rw[Int.sign_eq_one_of_pos h1];omega
 simp only[this]
theorem C0m (x:A6 P4.args) (hw:awf P4.args x) (hp:P4.pre x):A5f x:=by
 obtain⟨p,_⟩:=x;change N8 at p;have hp3:sh3 p:=hp;simp only[A5f];refine⟨trivial, ?_⟩;rintro⟨s,_⟩ _ hs;simp only at hs⊢;refine⟨fun h=> ?_,fun h=>⟨hp3, ?_⟩⟩
 . have h0:=D5q (hs▸of_decide_eq_true h);exact⟨fun _=>by trivial,fun hn=>absurd h0 hn⟩
 . rintro⟨r,_⟩ _ hr;simp only at hr⊢;refine⟨fun h0=> ?_,fun h0=>⟨by rw[hr];exact G6q h0,by trivial⟩⟩;have h:=of_decide_eq_false h;rw[hs,h0]at h;exact absurd rfl h
theorem E8w {a:Int} (h:IntKind.i64.min<=a/\a<=IntKind.i64.max):(ic a).2.length<=2:=by
 have h1: -9223372036854775808<=a/\a<=9223372036854775807:=h;exact A6i (by show a.natAbs<4294967296^2;omega)
theorem E3z (x:A6 A6p.args) (hw:awf A6p.args x) (_:A6p.pre x):D0v x:=by
 obtain⟨a,b,_⟩:=x;have ha:(ic a).2.length<=2:=E8w hw.1;have hb:(ic b).2.length<=2:=E8w hw.2.1;change Int at a b;simp only[D0v];refine⟨trivial, ?_⟩;rintro⟨r,_⟩ _ hr;refine⟨trivial, ?_⟩;rintro⟨s,_⟩ _ hs;simp only at hr hs⊢;subst hr hs;refine⟨⟨by show(ic a).2.length<= _;omega,by show(ic b).2.length<= _;omega⟩, ?_⟩;rintro⟨t,_⟩ _ ht;simp only at ht⊢;rw[ht];unfold B7o;rw[Z4,Z4]
theorem E0d (x:A6 A3i.args) (hw:awf A3i.args x) (hp:A3i.pre x):C3t x:=by
 obtain⟨p,q,_⟩:=x;have lp1:A9 p.1.2:=A5 hw.1.1.2.2;have lp2:A9 p.2:=A5 hw.1.2.2;have lq1:A9 q.1.2:=A5 hw.2.1.1.2.2;have lq2:A9 q.2:=A5 hw.2.1.2.2;change N8 at p q;obtain⟨hp3,hq3⟩:sh3 p/\sh3 q:=hp;obtain⟨a1,a2⟩:=F0n lp1 lp2 hp3;obtain⟨b1,b2⟩:=F0n lq1 lq2 hq3;have m1:=icm a1 b1;have m3:=icm a2 b2;simp only[C3t];refine⟨hp3, ?_⟩;rintro⟨r,_⟩ _ hr;refine⟨hq3, ?_⟩;rintro⟨s,_⟩ _ hs;simp only at hr hs⊢;subst hr hs;refine⟨⟨by show(ic (rv p).num).2.length<= _;omega,by show(ic (rv q).num).2.length<= _;omega⟩, ?_⟩;rintro⟨u,_⟩ _ hu;refine⟨hp3, ?_⟩;rintro⟨d,_⟩ _ hd;refine⟨hq3, ?_⟩;rintro⟨e,_⟩ _ he;simp only at hu hd he⊢;subst hu hd he;refine⟨⟨by show(ic ((rv p).den:Int)).2.length<= _;omega,by show(ic ((rv q).den:Int)).2.length<= _;omega⟩, ?_⟩;rintro⟨v,_⟩ _ hv;simp only at hv⊢;subst hv;have e1:(rc (rv p)).1=ic (rv p).num:=rfl;have e2:(rc (rv q)).1=ic (rv q).num:=rfl;rw[e1,e2,Z4,Z4,Z4,Z4];refine⟨⟨by show(ic _).2.length<= _;omega,by show(ic _).2.length<= _;omega⟩, ?_⟩;rintro⟨t,_⟩ _ ht;simp only at ht⊢;rw[ht];unfold B7o;rw[Z4,Z4,E8c]
def B8x:An:= {loop:= [(2,⟨[0],[],[(3,false,[.val (.int .i64)])],[],[]⟩)],plan:= [(4,[5,10],[],true,(.p 0 (.p 1 (.p 2 (.p 3 (.p 4 (.q 5 (.p 6 (.p 7 (.p 8 (.p 9 (.q 10 (.p 11 .done)))))))))))))]}
def A4y:B4:= []
def C5f:An:= {join:= [(14,⟨[3,18,19,20],[],[(4,false,[.val (.int .i64)])],[],[(0, .row tE 94)]⟩)],loop:= [(8,⟨[3,18,19],[],[(4,false,[.val (.int .i64)]),(20,false,[.val (.int .i64)])],[],[(0, .row tE 94)]⟩)],plan:= [(10,[8,10],[],true,(.p 0 (.p 1 (.p 2 (.p 3 (.p 4 (.p 5 (.p 6 (.p 7 (.q 8 (.p 9 (.q 10 (.p 11 (.p 12 .done)))))))))))))),(11,[8,10],[14],true,(.p 0 (.p 1 (.p 2 (.p 3 (.p 4 (.p 5 (.p 6 (.p 7 (.q 8 (.p 9 (.q 10 (.e 11 (.p 12 (.p 13 (.e 14 .done))))))))))))))))]}
def A7v:B4:= [(122,H4),(156,K4),(192,F7),(210,O6)]
def D1t:An:= {join:= [(13,⟨[2,7,9,10],[1],[(0,false,[.val (.sl tE)]),(1,false,[.val (.sl tE)]),(8,false,[.val (.int .i64)])],[(2,31,[.val .bool, .val (.sl (.int .u32)), .val (.sl (.int .u32))]),(3,31,[.val .bool, .val (.sl (.int .u32)), .val (.sl (.int .u32))])],[]⟩)],loop:= [(2,⟨[2],[],[(0,false,[.val (.sl tE)]),(1,false,[.val (.sl tE)]),(7,false,[.own tE 94])],[],[]⟩)],plan:= [(5,[11,15],[],true,(.p 0 (.p 1 (.p 2 (.p 3 (.p 4 (.p 5 (.p 6 (.p 7 (.p 8 (.p 9 (.p 10 (.q 11 (.p 12 (.p 13 (.p 14 (.q 15 (.p 16 (.p 17 (.p 18 .done)))))))))))))))))))),(6,[3,7],[9],true,(.p 0 (.p 1 (.p 2 (.q 3 (.p 4 (.p 5 (.p 6 (.q 7 (.p 8 (.e 9 .done))))))))))),(11,[3,7],[9],true,(.p 0 (.p 1 (.p 2 (.q 3 (.p 4 (.p 5 (.p 6 (.q 7 (.p 8 (.e 9 .done)))))))))))]}
def B3w:B4:= [(160,D6)]
def D1c:An:= {loop:= [(4,⟨[1,10,11],[],[(12,false,[.val (.int .i64)])],[],[]⟩)]}
def B4d:B4:= [(160,D6),(192,F7)]
def C9r:An:= {}
def B0q:B4:= [(111,D8)]
def D4x:An:= {}
def B6l:B4:= [(169,L7),(170,I0),(193,M0)]
def E0w:An:= {join:= [(7,⟨[1,4,5,9,10,11],[0],[],[(1,31,[.val .bool, .val (.sl (.int .u32)), .val (.sl (.int .u32))])],[]⟩)],loop:= [(3,⟨[1,4,5,9,10],[0],[(11,false,[.val (.int .i64)])],[(1,31,[.val .bool, .val (.sl (.int .u32)), .val (.sl (.int .u32))])],[]⟩)]}
def C2c:B4:= [(70,E6),(122,H4)]
def B7z:An:= {join:= [(7,⟨[6,7,8],[],[(3,false,[.own tE 94])],[],[]⟩)],loop:= [(3,⟨[6,7],[],[(3,false,[.own tE 94]),(8,false,[.val (.int .i64)])],[],[]⟩)]}
def A5d:B4:= [(111,D8),(160,D6)]
def D2g:An:= {join:= [(14,⟨[7,41,42],[],[(6,false,[.val (.sl tE)])],[],[(0, .row tQ 31)]⟩)],loop:= [(8,⟨[7,41],[],[(6,false,[.val (.sl tE)]),(42,false,[.val (.int .i64)])],[],[(0, .row tQ 31)]⟩)]}
def B3r:B4:= [(70,E6),(152,R5)]
def B2q:An:= {plan:= [(3,[0,1,2],[5],true,(.q 0 (.q 1 (.q 2 (.e 3 (.e 4 (.e 5 .done)))))))]}
def A3n:B4:= [(71,J5),(111,D8),(122,H4),(160,D6)]
def B7n:An:= {}
def A4o:B4:= [(169,L7),(170,I0),(171,F3)]
def A0e:A6 F7.args->Prop:=fun(x:List EE×Unit)=>∃(I:Int×Unit->Prop),∃(μ:Int×Unit->Nat),I ((1:Int),())/\∀(p:Int×Unit),E5 p.1/\True->I p->(decide (p.1<(x.1.length:Int))=true->((0:Int)<=IntKind.i64.wrap (p.1-1)/\IntKind.i64.wrap (p.1-1)<(x.1.length:Int))/\(0<=p.1/\p.1<(x.1.length:Int))/\(decide ((gx dEE x.1 p.1).1<=(gx dEE x.1 (IntKind.i64.wrap (p.1-1))).1)=true->false=decide (asc x.1))/\(decide ((gx dEE x.1 p.1).1<=(gx dEE x.1 (IntKind.i64.wrap (p.1-1))).1)=false->I (IntKind.i64.wrap (p.1+1),())/\μ (IntKind.i64.wrap (p.1+1),())<μ p))/\(decide (p.1<(x.1.length:Int))=false->true=decide (asc x.1))
theorem B1f (x:A6 F7.args):I2 Tryz.prog tys A4y B8x F7 Tryz.f192 x=A0e x:=by kernel_rfl
def A2t:A6 I0.args->Prop:=fun(x:List EE×Unit)=>True/\∀(r:Bool×Unit),True/\True->r.1=decide (asc x.1)->(r.1=true->x.1=x.1)/\(r.1=false->((0:Int)<=(x.1.length:Int)/\(x.1.length:Int)<=(x.1.length:Int)/\(↑(64:Nat):Int)*(x.1.length:Int)<=(281474976710656:Int)/\(x.1.length:Int)<=(9223372036854775807:Int))/\∃(ok:EE×EE×Unit->Prop),∃(φ:EE×EE×Unit->Int),(∀(y:EE×EE×Unit),tE.wf y.1/\tE.wf y.2.1/\True->ok y->True/\∀(z:Int×Unit),E5 z.1/\True->z.1=C8t y.1.1 y.2.1.1->false=false/\z.1=φ y)/\False/\∀(b:Unit) (o:List EE×Unit),True->tE.sl.wf o.1/\True->True->True->∃(I:Int×Int×List EE×Unit->Prop),∃(μ:Int×Int×List EE×Unit->Nat),I ((0:Int),(0:Int),o)/\∀(p:Int×Int×List EE×Unit),E5 p.1/\E5 p.2.1/\B1h p.2.2.1/\True->I p->(decide (p.2.1<(↑o.1.length:Int))=true->∃(J:Int×List EE×Unit->Prop),((0<=p.2.1/\p.2.1<(p.2.2.1.length:Int))/\(decide (0<p.1)=true->(0:Int)<=IntKind.i64.wrap (p.1-1)/\IntKind.i64.wrap (p.1-1)<(p.2.2.1.length:Int))/\(sel (decide (0<p.1)) (decide ((List.getD p.2.2.1 (IntKind.i64.wrap (p.1-1)).toNat dEE).1=(List.getD p.2.2.1 (Int.toNat p.2.1) dEE).1)) false=true->((0:Int)<=IntKind.i64.wrap (p.1-1)/\IntKind.i64.wrap (p.1-1)<(p.2.2.1.length:Int))/\(sh3 (List.getD p.2.2.1 (IntKind.i64.wrap (p.1-1)).toNat dEE).2/\sh3 (List.getD p.2.2.1 (Int.toNat p.2.1) dEE).2)/\∀(r:QQ×Unit),WfQ r.1/\True->r.1=rc (rv (List.getD p.2.2.1 (IntKind.i64.wrap (p.1-1)).toNat dEE).2+rv (List.getD p.2.2.1 (Int.toNat p.2.1) dEE).2)->((0:Int)<=IntKind.i64.wrap (p.1-1)/\IntKind.i64.wrap (p.1-1)<(p.2.2.1.length:Int))/\J (p.1,List.set p.2.2.1 (IntKind.i64.wrap (p.1-1)).toNat ((List.getD p.2.2.1 (IntKind.i64.wrap (p.1-1)).toNat dEE).1,r.1),()))/\(sel (decide (0<p.1)) (decide ((List.getD p.2.2.1 (IntKind.i64.wrap (p.1-1)).toNat dEE).1=(List.getD p.2.2.1 (Int.toNat p.2.1) dEE).1)) false=false->(0<=p.1/\p.1<(p.2.2.1.length:Int))/\J (IntKind.i64.wrap (p.1+1),List.set p.2.2.1 (Int.toNat p.1) (List.getD p.2.2.1 (Int.toNat p.2.1) dEE),())))/\∀(a:Int×List EE×Unit),E5 a.1/\B1h a.2.1/\True->J a->I (a.1,IntKind.i64.wrap (p.2.1+1),a.2.1,())/\μ (a.1,IntKind.i64.wrap (p.2.1+1),a.2.1,())<μ p)/\(decide (p.2.1<(↑o.1.length:Int))=false->((0:Int)<=(0:Int)/\0<=p.1/\p.1<=(p.2.2.1.length:Int))/\List.drop (Int.toNat (0:Int)) (List.take (Int.toNat p.1) p.2.2.1)=x.1))
theorem B5y (x:A6 I0.args):I2 Tryz.prog tys A7v C5f I0 Tryz.f170 x=A2t x:=by kernel_rfl
def A5o:A6 L7.args->Prop:=fun(x:List EE×List EE×((QQ×QQ×Unit->Prop)×(QQ×QQ×Unit->(Bool×List Int)×List Int))×Unit)=>((0:Int)<=(0:Int)/\(0:Int)<=Max.max (x.1.length:Int) (x.2.1.length:Int)/\(↑(64:Nat):Int)*Max.max (x.1.length:Int) (x.2.1.length:Int)<=(281474976710656:Int)/\Max.max (x.1.length:Int) (x.2.1.length:Int)<=(9223372036854775807:Int))/\∃(I:List EE×List EE×List EE×Unit->Prop),∃(μ:List EE×List EE×List EE×Unit->Nat),I (x.1,x.2.1,List.replicate (Int.toNat (0:Int)) dEE,())/\∀(p:List EE×List EE×List EE×Unit),B1h p.1/\B1h p.2.1/\B1h p.2.2.1/\True->I p->(sel (decide ((0:Int)<(p.1.length:Int))) true (decide ((0:Int)<(p.2.1.length:Int)))=true->∃(J:List EE×List EE×Int×Bool×List Int×List Int×Bool×List Int×List Int×Unit->Prop),((decide ((0:Int)<(p.1.length:Int))=true/\decide ((p.2.1.length:Int)=(0:Int))=false->(0:Int)<=(0:Int)/\(0:Int)<(p.1.length:Int))/\(decide ((0:Int)<(p.1.length:Int))=true/\decide ((p.2.1.length:Int)=(0:Int))=false->(0:Int)<=(0:Int)/\(0:Int)<(p.2.1.length:Int))/\(sel (decide ((p.2.1.length:Int)=(0:Int))) true (sel (decide ((0:Int)<(p.1.length:Int))) (decide ((gx dEE p.1 (0:Int)).1<=(gx dEE p.2.1 (0:Int)).1)) false)=true->((0:Int)<=(0:Int)/\(0:Int)<(p.1.length:Int))/\((0:Int)<=(0:Int)/\(0:Int)<(p.1.length:Int))/\((0:Int)<=(1:Int)/\(1:Int)<=(p.1.length:Int)/\(p.1.length:Int)<=(p.1.length:Int))/\(decide ((0:Int)<(p.2.1.length:Int))=true->(0:Int)<=(0:Int)/\(0:Int)<(p.2.1.length:Int))/\(sel (decide ((0:Int)<(p.2.1.length:Int))) (decide ((gx dEE p.2.1 (0:Int)).1=(gx dEE p.1 (0:Int)).1)) false=true->((0:Int)<=(0:Int)/\(0:Int)<(p.2.1.length:Int))/\((0:Int)<=(1:Int)/\(1:Int)<=(p.2.1.length:Int)/\(p.2.1.length:Int)<=(p.2.1.length:Int))/\J (List.drop (Int.toNat (1:Int)) (List.take (p.1.length:Int).toNat p.1),List.drop (Int.toNat (1:Int)) (List.take (p.2.1.length:Int).toNat p.2.1),(gx dEE p.1 (0:Int)).1,(gx dEE p.1 (0:Int)).2.1.1,(gx dEE p.1 (0:Int)).2.1.2,(gx dEE p.1 (0:Int)).2.2,(gx dEE p.2.1 (0:Int)).2.1.1,(gx dEE p.2.1 (0:Int)).2.1.2,(gx dEE p.2.1 (0:Int)).2.2,()))/\(sel (decide ((0:Int)<(p.2.1.length:Int))) (decide ((gx dEE p.2.1 (0:Int)).1=(gx dEE p.1 (0:Int)).1)) false=false->J (List.drop (Int.toNat (1:Int)) (List.take (p.1.length:Int).toNat p.1),p.2.1,(gx dEE p.1 (0:Int)).1,(gx dEE p.1 (0:Int)).2.1.1,(gx dEE p.1 (0:Int)).2.1.2,(gx dEE p.1 (0:Int)).2.2,false,[],[],())))/\(sel (decide ((p.2.1.length:Int)=(0:Int))) true (sel (decide ((0:Int)<(p.1.length:Int))) (decide ((gx dEE p.1 (0:Int)).1<=(gx dEE p.2.1 (0:Int)).1)) false)=false->((0:Int)<=(0:Int)/\(0:Int)<(p.2.1.length:Int))/\((0:Int)<=(0:Int)/\(0:Int)<(p.2.1.length:Int))/\((0:Int)<=(1:Int)/\(1:Int)<=(p.2.1.length:Int)/\(p.2.1.length:Int)<=(p.2.1.length:Int))/\J (p.1,List.drop (Int.toNat (1:Int)) (List.take (p.2.1.length:Int).toNat p.2.1),(gx dEE p.2.1 (0:Int)).1,false,[],[],(gx dEE p.2.1 (0:Int)).2.1.1,(gx dEE p.2.1 (0:Int)).2.1.2,(gx dEE p.2.1 (0:Int)).2.2,())))/\∀(a:List EE×List EE×Int×Bool×List Int×List Int×Bool×List Int×List Int×Unit),B1h a.1/\B1h a.2.1/\E5 a.2.2.1/\True/\WfU a.2.2.2.2.1/\WfU a.2.2.2.2.2.1/\True/\WfU a.2.2.2.2.2.2.2.1/\WfU a.2.2.2.2.2.2.2.2.1/\True->J a->Go.Proofs.Tryz.prog=Go.Proofs.Tryz.prog/\x.2.2.1.1 (((a.2.2.2.1,a.2.2.2.2.1),a.2.2.2.2.2.1),((a.2.2.2.2.2.2.1,a.2.2.2.2.2.2.2.1),a.2.2.2.2.2.2.2.2.1),())/\(tQ.wf (x.2.2.1.2 (((a.2.2.2.1,a.2.2.2.2.1),a.2.2.2.2.2.1),((a.2.2.2.2.2.2.1,a.2.2.2.2.2.2.2.1),a.2.2.2.2.2.2.2.2.1),()))->True/\∀(r:Int×Unit),E5 r.1/\True->r.1=(rv (x.2.2.1.2 (((a.2.2.2.1,a.2.2.2.2.1),a.2.2.2.2.2.1),((a.2.2.2.2.2.2.1,a.2.2.2.2.2.2.2.1),a.2.2.2.2.2.2.2.2.1),()))).num.sign->(decide (r.1≠0)=true->((List.length p.2.2.1+ [(a.2.2.1,x.2.2.1.2 (((a.2.2.2.1,a.2.2.2.2.1),a.2.2.2.2.2.1),((a.2.2.2.2.2.2.1,a.2.2.2.2.2.2.2.1),a.2.2.2.2.2.2.2.2.1),()))].length)*(64:Nat)<=(140737488355328:Nat)/\List.length p.2.2.1+ [(a.2.2.1,x.2.2.1.2 (((a.2.2.2.1,a.2.2.2.2.1),a.2.2.2.2.2.1),((a.2.2.2.2.2.2.1,a.2.2.2.2.2.2.2.1),a.2.2.2.2.2.2.2.2.1),()))].length<=9223372036854775807)/\I (a.1,a.2.1,p.2.2.1++ [(a.2.2.1,x.2.2.1.2 (((a.2.2.2.1,a.2.2.2.2.1),a.2.2.2.2.2.1),((a.2.2.2.2.2.2.1,a.2.2.2.2.2.2.2.1),a.2.2.2.2.2.2.2.2.1),()))],())/\μ (a.1,a.2.1,p.2.2.1++ [(a.2.2.1,x.2.2.1.2 (((a.2.2.2.1,a.2.2.2.2.1),a.2.2.2.2.2.1),((a.2.2.2.2.2.2.1,a.2.2.2.2.2.2.2.1),a.2.2.2.2.2.2.2.2.1),()))],())<μ p)/\(decide (r.1≠0)=false->I (a.1,a.2.1,p.2.2.1,())/\μ (a.1,a.2.1,p.2.2.1,())<μ p)))/\(sel (decide ((0:Int)<(p.1.length:Int))) true (decide ((0:Int)<(p.2.1.length:Int)))=false->p.2.2.1=L4 x.2.2.1.2 x.1 x.2.1)
theorem C2p (x:A6 L7.args):I2 Tryz.prog tys B3w D1t L7 Tryz.f169 x=A5o x:=by kernel_rfl
def A4u:A6 O8.args->Prop:=fun(x:List EE×Int×Unit)=>True/\∀(r:Bool×Unit),True/\True->r.1=decide (asc x.1)->((!r.1)=true->false=decide (J4 x.1 x.2.1))/\((!r.1)=false->∃(I:Int×Unit->Prop),∃(μ:Int×Unit->Nat),I ((0:Int),())/\∀(p:Int×Unit),E5 p.1/\True->I p->(decide (p.1<(x.1.length:Int))=true->(0<=p.1/\p.1<(x.1.length:Int))/\(sel (decide ((gx dEE x.1 p.1).1<(0:Int))) true (decide (x.2.1<=(gx dEE x.1 p.1).1))=false->True)/\∀(r:Int×Unit),(sel (decide ((gx dEE x.1 p.1).1<(0:Int))) true (decide (x.2.1<=(gx dEE x.1 p.1).1))=false->(E5 r.1/\True)/\r.1=(rv (gx dEE x.1 p.1).2).num.sign)->(sel (sel (decide ((gx dEE x.1 p.1).1<(0:Int))) true (decide (x.2.1<=(gx dEE x.1 p.1).1))) true (decide (r.1=0))=true->false=decide (J4 x.1 x.2.1))/\(sel (sel (decide ((gx dEE x.1 p.1).1<(0:Int))) true (decide (x.2.1<=(gx dEE x.1 p.1).1))) true (decide (r.1=0))=false->I (IntKind.i64.wrap (p.1+1),())/\μ (IntKind.i64.wrap (p.1+1),())<μ p))/\(decide (p.1<(x.1.length:Int))=false->true=decide (J4 x.1 x.2.1)))
theorem C1x (x:A6 O8.args):I2 Tryz.prog tys B4d D1c O8 Tryz.f151 x=A4u x:=by kernel_rfl
def A3u:A6 M0.args->Prop:=fun(x:QQ×QQ×Unit)=>sh3 x.1/\∀(r:QQ×Unit),WfQ r.1/\True->r.1=rc (rv x.1)->r.1=rc (rv x.1)
theorem B8u (x:A6 M0.args):I2 Tryz.prog tys B0q C9r M0 Tryz.f193 x=A3u x:=by kernel_rfl
def A7g:A6 R5.args->Prop:=fun(x:List EE×Unit)=>asc x.1/\∀(r:List EE×Unit),B1h r.1/\True->r.1=x.1->∃(ok:QQ×QQ×Unit->Prop),∃(φ:QQ×QQ×Unit->(Bool×List Int)×List Int),(∀(y:QQ×QQ×Unit),tQ.wf y.1/\tQ.wf y.2.1/\True->ok y->sh3 y.1/\∀(z:QQ×Unit),WfQ z.1/\True->z.1=rc (rv y.1)->true=true/\z.1=φ y)/\(List.length r.1<=100000/\(0:Nat)<=(100000:Nat)/\∀(u v:N8),(u=zr\/∃(e:EE),e∈r.1/\e.2=u)->(v=zr\/∃(e:EE),e∈ []/\e.2=v)->(ok,φ).1 (u,v,()))/\∀(a:List EE×Unit),B1h a.1/\True->a.1=L4 φ r.1 []->B5p a.1/\∀(i:Int),D5 a.1 i=D5 x.1 i
theorem C3x (x:A6 R5.args):I2 Tryz.prog tys B6l D4x R5 Tryz.f152 x=A7g x:=by kernel_rfl
def A9s:A6 T8.args->Prop:=fun(x:List EE×Int×Unit)=>True/\∀(r:QQ×Unit),WfQ r.1/\True->r.1=ri (0:Int)->∃(I:Int×Bool×List Int×List Int×Unit->Prop),∃(μ:Int×Bool×List Int×List Int×Unit->Nat),I ((0:Int),r.1.1.1,r.1.1.2,r.1.2,())/\∀(p:Int×Bool×List Int×List Int×Unit),E5 p.1/\True/\WfU p.2.2.1/\WfU p.2.2.2.1/\True->I p->(decide (p.1<(x.1.length:Int))=true->∃(J:Bool×List Int×List Int×Unit->Prop),((0<=p.1/\p.1<(x.1.length:Int))/\(decide ((gx dEE x.1 p.1).1=x.2.1)=true->(sh3 ((p.2.1,p.2.2.1),p.2.2.2.1)/\sh3 (gx dEE x.1 p.1).2)/\∀(r:QQ×Unit),WfQ r.1/\True->r.1=rc (rv ((p.2.1,p.2.2.1),p.2.2.2.1)+rv (gx dEE x.1 p.1).2)->J (r.1.1.1,r.1.1.2,r.1.2,()))/\(decide ((gx dEE x.1 p.1).1=x.2.1)=false->J (p.2.1,p.2.2.1,p.2.2.2.1,())))/\∀(a:Bool×List Int×List Int×Unit),True/\WfU a.2.1/\WfU a.2.2.1/\True->J a->I (IntKind.i64.wrap (p.1+1),a.1,a.2.1,a.2.2.1,())/\μ (IntKind.i64.wrap (p.1+1),a.1,a.2.1,a.2.2.1,())<μ p)/\(decide (p.1<(x.1.length:Int))=false->((p.2.1,p.2.2.1),p.2.2.2.1)=rc (D5 x.1 x.2.1))
theorem C8i (x:A6 T8.args):I2 Tryz.prog tys C2c E0w T8 Tryz.f118 x=A9s x:=by kernel_rfl
def A0i:A6 G9.args->Prop:=fun(x:List QQ×Unit)=>∃(I:List EE×Int×Unit->Prop),∃(μ:List EE×Int×Unit->Nat),I ([],(0:Int),())/\∀(p:List EE×Int×Unit),B1h p.1/\E5 p.2.1/\True->I p->(decide (p.2.1<(x.1.length:Int))=true->∃(J:List EE×Unit->Prop),((0<=p.2.1/\p.2.1<(x.1.length:Int))/\True/\∀(r:Int×Unit),E5 r.1/\True->r.1=(rv (gx dQ x.1 p.2.1)).num.sign->(decide (r.1≠0)=true->sh3 (gx dQ x.1 p.2.1)/\∀(r:QQ×Unit),WfQ r.1/\True->r.1=rc (rv (gx dQ x.1 p.2.1))->((List.length p.1+ [(p.2.1,r.1)].length)*(64:Nat)<=(140737488355328:Nat)/\List.length p.1+ [(p.2.1,r.1)].length<=9223372036854775807)/\J (p.1++ [(p.2.1,r.1)],()))/\(decide (r.1≠0)=false->J (p.1,())))/\∀(a:List EE×Unit),B1h a.1/\True->J a->I (a.1,IntKind.i64.wrap (p.2.1+1),())/\μ (a.1,IntKind.i64.wrap (p.2.1+1),())<μ p)/\(decide (p.2.1<(x.1.length:Int))=false->B5p p.1/\(∀(e:Ent),e∈p.1->0<=e.1/\e.1<(↑x.1.length:Int))/\∀(j:Nat),j<x.1.length->D5 p.1 (↑j:Int)=rv (x.1.getD j zr))
theorem B1s (x:A6 G9.args):I2 Tryz.prog tys A5d B7z G9 Tryz.f130 x=A0i x:=by kernel_rfl
def A5s:A6 P0.args->Prop:=fun(x:List EE×Int×Unit)=>(sel (decide (x.2.1<0)) true (decide (16384<x.2.1))=true->D4n QQ=dl x.2.1 (D5 x.1)/\false=true)/\(sel (decide (x.2.1<0)) true (decide (16384<x.2.1))=false->okV K1 x.1/\∀(r:List EE×Unit),B1h r.1/\True->isC (D5 x.1) r.1->(decide ((0:Int)<(r.1.length:Int))=true->(0:Int)<=(0:Int)/\(0:Int)<(r.1.length:Int))/\(decide ((gx dEE r.1 (0:Int)).1<(0:Int))=false/\decide ((0:Int)<(r.1.length:Int))=true->(0:Int)<=IntKind.i64.wrap ((r.1.length:Int)-(1:Int))/\IntKind.i64.wrap ((r.1.length:Int)-(1:Int))<(r.1.length:Int))/\(sel (decide ((0:Int)<(r.1.length:Int))) (sel (decide ((gx dEE r.1 (0:Int)).1<(0:Int))) true (decide (x.2.1<=(gx dEE r.1 (IntKind.i64.wrap ((r.1.length:Int)-(1:Int)))).1))) false=true->D4n QQ=dl x.2.1 (D5 x.1)/\false=true)/\(sel (decide ((0:Int)<(r.1.length:Int))) (sel (decide ((gx dEE r.1 (0:Int)).1<(0:Int))) true (decide (x.2.1<=(gx dEE r.1 (IntKind.i64.wrap ((r.1.length:Int)-(1:Int)))).1))) false=false->(0<=x.2.1/\x.2.1<=x.2.1/\(↑(56:Nat):Int)*x.2.1<=281474976710656/\x.2.1<=9223372036854775807)/\∃(I:List EE×Int×List QQ×Unit->Prop),∃(μ:List EE×Int×List QQ×Unit->Nat),I (r.1,(0:Int),List.replicate (Int.toNat x.2.1) dQ,())/\∀(p:List EE×Int×List QQ×Unit),B1h p.1/\E5 p.2.1/\WfL p.2.2.1/\True->I p->(decide (p.2.1<(↑(List.replicate (Int.toNat x.2.1) dQ).length:Int))=true->∃(J:List EE×List QQ×Unit->Prop),((decide ((0:Int)<(p.1.length:Int))=true->(0:Int)<=(0:Int)/\(0:Int)<(p.1.length:Int))/\(sel (decide ((0:Int)<(p.1.length:Int))) (decide ((gx dEE p.1 (0:Int)).1=p.2.1)) false=true->((0:Int)<=(0:Int)/\(0:Int)<(p.1.length:Int))/\(0<=p.2.1/\p.2.1<(p.2.2.1.length:Int))/\((0:Int)<=(1:Int)/\(1:Int)<=(p.1.length:Int)/\(p.1.length:Int)<=(p.1.length:Int))/\J (List.drop (Int.toNat (1:Int)) (List.take (p.1.length:Int).toNat p.1),List.set p.2.2.1 (Int.toNat p.2.1) (gx dEE p.1 (0:Int)).2,()))/\(sel (decide ((0:Int)<(p.1.length:Int))) (decide ((gx dEE p.1 (0:Int)).1=p.2.1)) false=false->True/\∀(r:QQ×Unit),WfQ r.1/\True->r.1=ri (0:Int)->(0<=p.2.1/\p.2.1<(p.2.2.1.length:Int))/\J (p.1,List.set p.2.2.1 (Int.toNat p.2.1) r.1,())))/\∀(a:List EE×List QQ×Unit),B1h a.1/\WfL a.2.1/\True->J a->I (a.1,IntKind.i64.wrap (p.2.1+1),a.2.1,())/\μ (a.1,IntKind.i64.wrap (p.2.1+1),a.2.1,())<μ p)/\(decide (p.2.1<(↑(List.replicate (Int.toNat x.2.1) dQ).length:Int))=false->p.2.2.1=dl x.2.1 (D5 x.1)/\true=true)))
theorem C1y (x:A6 P0.args):I2 Tryz.prog tys B3r D2g P0 Tryz.f103 x=A5s x:=by kernel_rfl
def W3:A6 F3.args->Prop:=fun(x:QQ×QQ×QQ×Unit)=>True/\∀(r:Int×Unit),E5 r.1/\True->r.1=(rv x.2.1).num.sign->(decide (r.1=0)=true->sh3 x.1/\∀(r:QQ×Unit),WfQ r.1/\True->r.1=rc (rv x.1)->r.1=rc (rv x.1+rv x.2.2.1*rv x.2.1))/\(decide (r.1=0)=false->(sh3 x.2.2.1/\sh3 x.2.1)/\∀(r:QQ×Unit),WfQ r.1/\True->r.1=rc (rv x.2.2.1*rv x.2.1)->(sh3 x.1/\sh3 r.1)/\∀(a:QQ×Unit),WfQ a.1/\True->a.1=rc (rv x.1+rv r.1)->a.1=rc (rv x.1+rv x.2.2.1*rv x.2.1))
theorem A8s (x:A6 F3.args):I2 Tryz.prog tys A3n B2q F3 Tryz.f171 x=W3 x:=by kernel_rfl
def A0j:A6 H2.args->Prop:=fun(x:List EE×QQ×List EE×Unit)=>asc x.1/\∀(r:List EE×Unit),B1h r.1/\True->r.1=x.1->asc x.2.2.1/\∀(a:List EE×Unit),B1h a.1/\True->a.1=x.2.2.1->∃(ok:QQ×QQ×Unit->Prop),∃(φ:QQ×QQ×Unit->(Bool×List Int)×List Int),(∀(y:QQ×QQ×Unit),tQ.wf y.1/\tQ.wf y.2.1/\True->ok y->(sz K1 y.1/\sz K1 y.2.1/\sz K1 x.2.1)/\∀(z:QQ×Unit),WfQ z.1/\True->z.1=rc (rv y.1+rv x.2.1*rv y.2.1)->true=true/\z.1=φ y)/\(List.length r.1<=100000/\List.length a.1<=100000/\∀(u v:N8),(u=zr\/∃(e:EE),e∈r.1/\e.2=u)->(v=zr\/∃(e:EE),e∈a.1/\e.2=v)->(ok,φ).1 (u,v,()))/\∀(b:List EE×Unit),B1h b.1/\True->b.1=L4 φ r.1 a.1->B5p b.1/\∀(i:Int),D5 b.1 i=D5 x.1 i+rv x.2.1*D5 x.2.2.1 i
theorem B1c (x:A6 H2.args):I2 Tryz.prog tys A4o B7n H2 Tryz.f119 x=A0j x:=by kernel_rfl
theorem C5r {l:List Ent} (h:∀x∈l,WfE x):F7q l:=fun e he=>⟨A5 (h e he).2.1.2.2,A5 (h e he).2.2.2⟩
theorem E7y {q:N8} (h:WfQ q):F8r q:=⟨A5 h.1.2.2,A5 h.2.2⟩
theorem B1g (x:A6 F7.args) (hw:awf F7.args x) (_:F7.pre x):A0e x:=by
 obtain⟨l,_⟩:=x;have hl:l.length<=9223372036854775807:=hw.1.1;change List Ent at l;simp only[A0e];refine⟨fun p=>1<=p.1/\∀s t:Nat,s<t->t<p.1.toNat->t<l.length->(l.getD s dEE).1<(l.getD t dEE).1,fun p=>((l.length:Int)-p.1).toNat,⟨Int.le_refl _,fun s t h1 h2=>by simp at h2;omega⟩, ?_⟩;rintro⟨k,_⟩ _ ⟨h0,h1⟩;change Int at k;simp only at h0 h1⊢;refine⟨fun h=> ?_,fun h=> ?_⟩
 . have h:=of_decide_eq_true h;rw[wr (a:=k-1) (by omega) (by omega)];refine⟨⟨by omega,by omega⟩,⟨by omega,h⟩,fun hb=> ?_,fun hb=> ?_⟩
   . have hb:=of_decide_eq_true hb;refine(decide_eq_false fun hp=> ?_).symm;unfold asc at hp;rw[List.pairwise_iff_getElem]at hp;have:=hp (k-1).toNat k.toNat (by omega) (by omega) (by omega);have e1:=K9 (d:=dEE) (l:=l) (i:=k) (by omega) h;have e2:=K9 (d:=dEE) (l:=l) (i:=k-1) (by omega) (by omega);rw[List.getElem?_eq_getElem (by omega)]at e1 e2;rw[Option.some.inj e1,Option.some.inj e2]at this;omega
   . have hb:=of_decide_eq_false hb;rw[wr (a:=k+1) (by omega) (by omega)];rw[V5 (by omega) h,V5 (by omega) (by omega)]at hb;refine⟨⟨by omega,fun s t h2 h3 h4=> ?_⟩,by omega⟩;by_cases ht:t=k.toNat
     . by_cases hs:s=(k-1).toNat
       . rw[ht,hs];omega
       . have:=h1 s (k-1).toNat (by omega) (by omega) (by omega);rw[ht];omega
     . exact h1 s t h2 (by omega) h4
 . have h:=of_decide_eq_false h;refine(decide_eq_true ?_).symm;unfold asc;rw[List.pairwise_iff_getElem];intro i j hi hj hij;have:=h1 i j hij (by omega) hj;rw[List.getD_eq_getElem?_getD,List.getElem?_eq_getElem hi,List.getD_eq_getElem?_getD,List.getElem?_eq_getElem hj]at this;exact this
theorem B5i (x:A6 I0.args) (hw:awf I0.args x) (hp:I0.pre x):A2t x:=by
 obtain⟨l,_⟩:=x;have ha:asc l:=hp;simp only[A2t];refine⟨trivial, ?_⟩;rintro⟨r,_⟩ _ hr;simp only at hr⊢;refine⟨fun _=>trivial,fun h=> ?_⟩;rw[hr,decide_eq_true ha]at h;cases h
theorem F9l {α:Type} (e:α) (a:List α):List.drop (Int.toNat 1) (List.take (((e::a).length:Int)).toNat (e::a))=a:=by
 rw[Int.toNat_natCast,List.take_length];rfl
theorem C2a (x:A6 L7.args) (hw:awf L7.args x) (hp:L7.pre x):A5o x:=by
 obtain⟨A,B,⟨ok,φ⟩,_⟩:=x;change List Ent at A B;obtain⟨hA,hB,hok⟩:A.length<=100000/\B.length<=100000/\∀u v:N8,(u=zr\/∃e∈A,e.2=u)->(v=zr\/∃e∈B,e.2=v)->ok (u,v,()):=hp;simp only[A5o];have e0:List.replicate (Int.toNat 0) dEE= []:=rfl;rw[e0];refine⟨⟨Int.le_refl _,by omega,by omega,by omega⟩, ?_⟩;refine⟨fun p=>(∀e∈p.1,e∈A)/\(∀e∈p.2.1,e∈B)/\p.2.2.1++L4 φ p.1 p.2.1=L4 φ A B/\p.2.2.1.length+(p.1.length+p.2.1.length)<=A.length+B.length,fun p=>p.1.length+p.2.1.length,⟨fun _ h=>h,fun _ h=>h,rfl,by simp⟩, ?_⟩;rintro⟨a,b,res,_⟩ _ ⟨ha,hb,hm,hl⟩;change List Ent at a b res;simp only at ha hb hm hl⊢;refine⟨fun hc=> ?_,fun hc=> ?_⟩
 . refine⟨fun q=>(q.1.length+q.2.1.length<a.length+b.length)/\(∀e∈q.1,e∈A)/\(∀e∈q.2.1,e∈B)/\(((q.2.2.2.1,q.2.2.2.2.1),q.2.2.2.2.2.1)=zr\/∃e∈A,e.2=((q.2.2.2.1,q.2.2.2.2.1),q.2.2.2.2.2.1))/\(((q.2.2.2.2.2.2.1,q.2.2.2.2.2.2.2.1),q.2.2.2.2.2.2.2.2.1)=zr\/∃e∈B,e.2=((q.2.2.2.2.2.2.1,q.2.2.2.2.2.2.2.1),q.2.2.2.2.2.2.2.2.1))/\L4 φ a b=put q.2.2.1 (φ (((q.2.2.2.1,q.2.2.2.2.1),q.2.2.2.2.2.1),((q.2.2.2.2.2.2.1,q.2.2.2.2.2.2.2.1),q.2.2.2.2.2.2.2.2.1),())) (L4 φ q.1 q.2.1),⟨fun h=>⟨Int.le_refl _,of_decide_eq_true h.1⟩,fun h=>⟨Int.le_refl _,by have:=of_decide_eq_false h.2;omega⟩,fun h=> ?_,fun h=> ?_⟩, ?_⟩
   . cases a with
     |nil=>
      cases b with
      |nil=>simp[sel]at hc
      |cons f b=>simp[sel]at h;omega
     |cons e a=>
      have hin:e∈A:=ha e (List.mem_cons_self ..);have ha':∀z∈a,z∈A:=fun z hz=>ha z (List.mem_cons_of_mem _ hz)
      have hl1:(0:Int)<((e::a).length:Int):=by simp only[List.length_cons];omega
      rw[F9l];refine⟨⟨Int.le_refl _,hl1⟩,⟨Int.le_refl _,hl1⟩,⟨by omega,by simp only[List.length_cons];omega,Int.le_refl _⟩,fun h=>⟨Int.le_refl _,of_decide_eq_true h⟩,fun h2=> ?_,fun h2=> ?_⟩
      . cases b with
        |nil=>simp[sel]at h2
        |cons f b=>
         rw[F9l];have hl2:(0:Int)<((f::b).length:Int):=by simp only[List.length_cons];omega
         refine⟨⟨Int.le_refl _,hl2⟩,⟨by omega,by simp only[List.length_cons];omega,Int.le_refl _⟩,by simp only[List.length_cons];omega,ha',fun z hz=>hb z (List.mem_cons_of_mem _ hz), .inr ⟨e,hin,rfl⟩, .inr ⟨f,hb f (List.mem_cons_self ..),rfl⟩, ?_⟩;rw[O1,Bool.and_eq_true,decide_eq_true_eq,decide_eq_true_eq]at h2;have h3:f.1=e.1:=h2.2;show L4 φ (e::a) (f::b)=put e.1 (φ (e.2,f.2,())) (L4 φ a b);rw[L4,if_neg (by omega),if_pos h3.symm]
      . refine⟨by simp only[List.length_cons];omega,ha',hb, .inr ⟨e,hin,rfl⟩, .inl rfl, ?_⟩;show L4 φ (e::a) b=put e.1 (φ (e.2,zr,())) (L4 φ a b);cases b with
        |nil=>rw[L4]
        |cons f b=>
         have h3:¬f.1=e.1:=by
          have:decide ((gx dEE (f::b) 0).1=(gx dEE (e::a) 0).1)=false:=by simpa[sel]using h2
          exact of_decide_eq_false this
         have h4:e.1<=f.1:=by
          have:decide ((gx dEE (e::a) 0).1<=(gx dEE (f::b) 0).1)=true:=by
           rw[N4,O1]at h;simp only[List.length_cons,Bool.or_eq_true,Bool.and_eq_true,decide_eq_true_eq]at h;rcases h with h|h
           . omega
           . exact decide_eq_true h.2
          exact of_decide_eq_true this
         rw[L4,if_pos (by omega)]
   . rw[N4,O1]at h;simp only[Bool.or_eq_false_iff,Bool.and_eq_false_iff,decide_eq_false_iff_not]at h;obtain⟨hb0,h⟩:=h;cases b with
     |nil=>simp at hb0
     |cons f b=>
      have hl2:(0:Int)<((f::b).length:Int):=by simp only[List.length_cons];omega
      rw[F9l];refine⟨⟨Int.le_refl _,hl2⟩,⟨Int.le_refl _,hl2⟩,⟨by omega,by simp only[List.length_cons];omega,Int.le_refl _⟩,by simp only[List.length_cons];omega,ha,fun z hz=>hb z (List.mem_cons_of_mem _ hz), .inl rfl, .inr ⟨f,hb f (List.mem_cons_self ..),rfl⟩, ?_⟩;show L4 φ a (f::b)=put f.1 (φ (zr,f.2,())) (L4 φ a b);cases a with
      |nil=>rw[L4]
      |cons e a=>
       have h3:¬e.1<=f.1:=by
        rcases h with h|h
        . simp at h
        . exact h
       rw[L4,if_neg (by omega),if_neg (by omega)]
   . rintro⟨a',b',i,u1,u2,u3,v1,v2,v3,_⟩ _ ⟨j1,j2,j3,j4,j5,j6⟩;change Int at i;simp only at j1 j2 j3 j4 j5 j6⊢;refine⟨by trivial,hok _ _ j4 j5,fun _=>⟨trivial, ?_⟩⟩;rintro⟨s,_⟩ _ hs;simp only at hs⊢;generalize φ (((u1,u2),u3),((v1,v2),v3),())=z at*;have hlen:∀(α:Type) (l:List α) (y:α),(l++ [y]).length=l.length+1:=fun α l y=>by simp
     refine⟨fun h=>⟨⟨by simp only[List.length_singleton];omega,by simp only[List.length_singleton];omega⟩,⟨j2,j3, ?_, ?_⟩,j1⟩,fun h=>⟨⟨j2,j3, ?_,by omega⟩,j1⟩⟩
     . have h:=of_decide_eq_true h;have hz:¬rv z=0:=fun h0=>h (by rw[hs,h0];rfl)
       rw[<-hm,j6,put,if_neg hz,List.append_assoc];rfl
     . show(res++ [(i,z)]).length+ _ <= _;rw[hlen];omega
     . have h:=of_decide_eq_false h;have hz:rv z=0:=D5q (by rw[<-hs];exact Decidable.not_not.1 h);rw[<-hm,j6,put,if_pos hz]
 . rw[N4]at hc;simp only[Bool.or_eq_false_iff,decide_eq_false_iff_not]at hc;have h1:a= []:=List.eq_nil_of_length_eq_zero (by omega);have h2:b= []:=List.eq_nil_of_length_eq_zero (by omega);subst h1 h2;rw[L4,List.append_nil]at hm;exact hm
theorem C1z (x:A6 O8.args) (hw:awf O8.args x) (_:O8.pre x):A4u x:=by
 obtain⟨l,n,_⟩:=x;have hl:l.length<=9223372036854775807:=hw.1.1;change List Ent at l;change Int at n;simp only[A4u];refine⟨trivial, ?_⟩;rintro⟨r,_⟩ _ hr;simp only at hr⊢;refine⟨fun h=> ?_,fun h=> ?_⟩
 . have:¬asc l:=by
    rw[hr]at h;simpa using h
   exact(decide_eq_false fun hv=>this hv.1).symm
 have ha:asc l:=by
  rw[hr]at h;simpa using h
 refine⟨fun p=>0<=p.1/\∀e∈l.take p.1.toNat,0<=e.1/\e.1<n/\rv e.2≠0,fun p=>((l.length:Int)-p.1).toNat,⟨Int.le_refl _,by simp⟩, ?_⟩;rintro⟨i,_⟩ _ ⟨h0,h1⟩;change Int at i;simp only at h0 h1⊢;refine⟨fun hi=> ?_,fun hi=> ?_⟩
 . have hi:=of_decide_eq_true hi;refine⟨⟨h0,hi⟩,fun _=>trivial, ?_⟩;rintro⟨s,_⟩ hs;simp only at hs⊢;simp only[N4]at hs⊢;have hme:gx dEE l i∈l:=N0 h0 hi;refine⟨fun hb=> ?_,fun hb=> ?_⟩
   . refine(decide_eq_false fun hv=> ?_).symm;have:=hv.2 _ hme;simp only[Bool.or_eq_true,decide_eq_true_eq]at hb;rcases hb with(hb|hb) |hb
     . omega
     . omega
     . have h2:=(hs (by simp only[Bool.or_eq_false_iff,decide_eq_false_iff_not];omega)).2;exact this.2.2 (D5q (by rw[<-h2];exact hb))
   . simp only[Bool.or_eq_false_iff,decide_eq_false_iff_not]at hb;have h2:=(hs (by simp only[Bool.or_eq_false_iff,decide_eq_false_iff_not];exact hb.1)).2;rw[wr (by omega) (by omega)];refine⟨⟨by omega,A0f (d:=dEE) (q:=fun e=>0<=e.1/\e.1<n/\rv e.2≠0) h0 hi h1 ⟨by omega,by omega,fun h3=>hb.2 (by rw[h2,h3];rfl)⟩⟩,by omega⟩
 . have hi:=of_decide_eq_false hi;rw[E2 (by omega)]at h1;exact(decide_eq_true ⟨ha,h1⟩).symm
theorem B7l (x:A6 M0.args) (hw:awf M0.args x) (hp:M0.pre x):A3u x:=by
 simp only[A3u];exact⟨hp,fun r _ h=>h⟩
theorem F6k {k:Nat} {v:List Ent} (h:szV k v) {u:N8} (hu:u=zr\/∃e∈v,e.2=u):sz k u:=by
 rcases hu with rfl| ⟨e,he,rfl⟩
 . exact⟨Nat.zero_le _,Nat.zero_le _⟩
 . exact h e he
theorem C4t (x:A6 R5.args) (hw:awf R5.args x) (hp:R5.pre x):A7g x:=by
 obtain⟨l,_⟩:=x;change List Ent at l;obtain⟨ha,hs,hl⟩:okV K1 l:=hp;simp only[A7g];refine⟨ha, ?_⟩;rintro⟨r,_⟩ _ hr;simp only at hr⊢;subst hr;refine⟨fun y=>sz K1 y.1,fun y=>rc (rv y.1), ?_,⟨hl,by omega,fun u v hu _=>F6k hs hu⟩, ?_⟩
 . rintro⟨u,v,_⟩ _ hu;exact⟨A6n (k:=K1) hu (by decide),fun z _ hz=>⟨by trivial,hz⟩⟩
 . rintro⟨r,_⟩ _ hr;simp only at hr⊢;rw[hr];exact F6q ha
theorem C9p (x:A6 T8.args) (hw:awf T8.args x) (hp:T8.pre x):A9s x:=by
 obtain⟨v,k,_⟩:=x;have hlv:F7q v:=C5r hw.1.2;have hll:v.length<=9223372036854775807:=hw.1.1;change List Ent at v;change Int at k;obtain⟨ha,hs,hl⟩:okV K1 v:=hp;simp only[A9s];refine⟨trivial, ?_⟩;rintro⟨z,_⟩ _ hz;simp only at hz⊢;have hz:z=rc 0:=by rw[hz, <-D7v];rfl
 refine⟨fun p=>0<=p.1/\p.1<=(v.length:Int)/\((p.2.1,p.2.2.1),p.2.2.2.1)=rc (D5 (v.take p.1.toNat) k),fun p=>((v.length:Int)-p.1).toNat,⟨Int.le_refl _,Int.natCast_nonneg _,by rw[hz];rfl⟩, ?_⟩;rintro⟨i,b,m,d,_⟩ _ ⟨h0,h1,h2⟩;change Int at i;simp only at h0 h1 h2⊢;refine⟨fun h=> ?_,fun h=> ?_⟩
 . have h:=of_decide_eq_true h;have hme:gx dEE v i∈v:=N0 h0 h;have hts:v.take (i+1).toNat=v.take i.toNat++ [gx dEE v i]:=by
    rw[show(i+1).toNat=i.toNat+1 from by omega,List.take_add_one,K9 (d:=dEE) h0 h];rfl
   have hq:=B4a (v:=v.take i.toNat) (k:=K1) (ha.take) (fun e he=>hlv e (List.mem_of_mem_take he)) (fun e he=>hs e (List.mem_of_mem_take he)) (by decide) k;have hse:=hs _ hme;have hct:D5 (v.take (i+1).toNat) k=D5 (v.take i.toNat) k+if(gx dEE v i).1=k then rv (gx dEE v i).2 else 0:=by
    rw[hts,A5q];simp only[D5,Rat.add_zero]
   generalize gx dEE v i=e at*;refine⟨fun p=>((p.1,p.2.1),p.2.2.1)=rc (D5 (v.take (i+1).toNat) k),⟨⟨h0,h⟩,fun he=>⟨⟨?_,A6n (k:=K1) hse (by decide)⟩, ?_⟩,fun he=> ?_⟩, ?_⟩
   . rw[h2];exact A8v hq (by decide)
   . have he:=of_decide_eq_true he;rintro⟨r,_⟩ _ hr;simp only at hr⊢;show r= _;rw[hr,h2,A0t,hct,if_pos he]
   . have he:=of_decide_eq_false he;show((b,m),d)= _;rw[h2,hct,if_neg he,Rat.add_zero]
   . rintro⟨b',m',d',_⟩ _ hr;simp only at hr⊢;rw[wr (by omega) (by omega)];exact⟨⟨by omega,by omega,hr⟩,by omega⟩
 . have h:=of_decide_eq_false h;rw[E2 (by omega)]at h2;exact h2
end Go.Proofs.YtkdmjgcjpmcjjaaGreat
