/- Part. -/
import Derived.Shelf.SlSortCmp.NoneTotal
import Derived.Lib.QuietBelow
import Derived.Shelf.SlGeneric
import Derived.Shelf.SlIterI.Sorted
import Derived.Shelf.SortM.Plain
import Derived.Shelf.SortM.SortNone
import Derived.Shelf.SlicesG.Cmp
import Derived.Ground.GgzProg
import Derived.Ground.SlsfProg
import Derived.Ground.SlgmProg
import Derived.Ground.SlgcProg
import Derived.Test.YtkdmjgcjpmcjjaaGreatProg
import Derived.Test.YtkdmjgcjpmcjjaaGreatK38G
namespace Go.Proofs.YtkdmjgcjpmcjjaaGreat
open Go.Vc Go.Gw
def E5s:An:= {loop:= [(4,⟨[1],[0],[(3,false,[.val (.int .i64)])],[],[]⟩)],plan:= [(6,[1,4,6],[],true,(.p 0 (.q 1 (.p 2 (.p 3 (.q 4 (.p 5 (.q 6 (.e 7 (.p 8 .done))))))))))]}
def C8r:B4:= [(104,W5)]
def E9i:An:= {loop:= [(3,⟨[0,4,5],[0],[(6,false,[.val (.int .i64)])],[(1,24,[.val (.int .i64), .val (.int .i64), .own (.sl tE) 92])],[]⟩)],plan:= [(5,[1,5],[8,10],false,(.p 0 (.q 1 (.p 2 (.p 3 (.p 4 (.q 5 (.e 6 (.e 7 (.e 8 (.p 9 (.e 10 .done))))))))))))]}
def D3l:B4:= [(105,N9)]
def D5j:An:= {loop:= [(3,⟨[1,3],[0],[(4,false,[.val (.int .i64)])],[],[(1, .row (.sl tQ) 56)]⟩)],plan:= [(5,[3,6,8],[14],true,(.p 0 (.p 1 (.p 2 (.q 3 (.p 4 (.p 5 (.q 6 (.p 7 (.q 8 (.e 9 (.p 10 (.p 11 (.p 12 (.p 13 (.e 14 .done))))))))))))))))]}
def B3g:B4:= [(131,Y5)]
def C9v:An:= {loop:= [(4,⟨[2,3],[0,1],[(5,false,[.val (.int .i64)])],[],[]⟩)],plan:= [(6,[1,4,6,9],[],true,(.p 0 (.q 1 (.p 2 (.p 3 (.q 4 (.p 5 (.q 6 (.p 7 (.p 8 (.q 9 (.e 10 (.p 11 .done)))))))))))))]}
def B1r:B4:= [(126,N8)]
def F8b:An:= {}
def E5g:B4:= [(41,O5),(75,Q7),(120,A0q)]
def B2x:A7 O5.args->Prop:=fun(x:MM×Unit)=>(sel (sel (sel (sel (decide (x.1.1<0)) true (decide (16384<x.1.1))) true (decide (x.1.2.1<0))) true (decide (16384<x.1.2.1))) true (decide ((x.1.2.2.length:Int)≠x.1.1))=true->false=decide (A5 x.1))/\(sel (sel (sel (sel (decide (x.1.1<0)) true (decide (16384<x.1.1))) true (decide (x.1.2.1<0))) true (decide (16384<x.1.2.1))) true (decide ((x.1.2.2.length:Int)≠x.1.1))=false->∃(I:Int×Unit->Prop),∃(μ:Int×Unit->Nat),I ((0:Int),())/\∀(p:Int×Unit),D5 p.1/\True->I p->(decide (p.1<x.1.1)=true->(0<=p.1/\p.1<(x.1.2.2.length:Int))/\szV K1 (gx [] x.1.2.2 p.1)/\∀(r:Bool×Unit),True/\True->r.1=decide (J4 (gx [] x.1.2.2 p.1) x.1.2.1)->((!r.1)=true->false=decide (A5 x.1))/\((!r.1)=false->I (IntKind.i64.wrap (p.1+1),())/\μ (IntKind.i64.wrap (p.1+1),())<μ p))/\(decide (p.1<x.1.1)=false->true=decide (A5 x.1)))
theorem D3s (x:A7 O5.args):H4 Tryz.prog tys C8r E5s O5 Tryz.f41 x=B2x x:=by kernel_rfl
def C0i:A7 T7.args->Prop:=fun(x:List (List QQ)×Int×Unit)=>∃(I:Int×Int×Int×List (List EE)×Unit->Prop),∃(μ:Int×Int×Int×List (List EE)×Unit->Nat),I ((0:Int),(x.1.length:Int),x.2.1,[],())/\∀(p:Int×Int×Int×List (List EE)×Unit),D5 p.1/\D5 p.2.1/\D5 p.2.2.1/\G4j p.2.2.2.1/\True->I p->(decide (p.1<(x.1.length:Int))=true->(0<=p.1/\p.1<(x.1.length:Int))/\((gx [] x.1 p.1).length<=(100000:Nat)/\szL K1 (gx [] x.1 p.1))/\∀(r:List EE×Unit),C1l r.1/\True->isV (gx [] x.1 p.1).length (fun(j:Nat)=>rv ((gx [] x.1 p.1).getD j zr)) r.1->((List.length p.2.2.2.1+ [r.1].length)*(24:Nat)<=(140737488355328:Nat)/\List.length p.2.2.2.1+ [r.1].length<=9223372036854775807)/\I (IntKind.i64.wrap (p.1+1),p.2.1,p.2.2.1,p.2.2.2.1++ [r.1],())/\μ (IntKind.i64.wrap (p.1+1),p.2.1,p.2.2.1,p.2.2.2.1++ [r.1],())<μ p)/\(decide (p.1<(x.1.length:Int))=false->p.2.1=(↑x.1.length:Int)/\p.2.2.1=(↑x.2.1.toNat:Int)/\List.length p.2.2.2.1=x.1.length/\∀(i:Nat),i<x.1.length->C8p (List.getD p.2.2.2.1 i [])/\(∀(e:Ent),e∈List.getD p.2.2.2.1 i []->0<=e.1/\e.1<(↑x.2.1.toNat:Int))/\∀(j:Nat),j<x.2.1.toNat->E2 (List.getD p.2.2.2.1 i []) (↑j:Int)=rv ((x.1.getD i []).getD j zr))
theorem D7v (x:A7 T7.args):H4 Tryz.prog tys D3l E9i T7 Tryz.f78 x=C0i x:=by kernel_rfl
def A6i:A7 J6.args->Prop:=fun(x:MM×Unit)=>(0<=x.1.1/\x.1.1<=x.1.1/\(↑(24:Nat):Int)*x.1.1<=281474976710656/\x.1.1<=9223372036854775807)/\∃(I:Int×List (List QQ)×Unit->Prop),∃(μ:Int×List (List QQ)×Unit->Nat),I ((0:Int),List.replicate (Int.toNat x.1.1) [],())/\∀(p:Int×List (List QQ)×Unit),D5 p.1/\G0p p.2.1/\True->I p->(decide (p.1<x.1.1)=true->(0<=p.1/\p.1<(x.1.2.2.length:Int))/\(okV K1 (gx [] x.1.2.2 p.1)/\J4 (gx [] x.1.2.2 p.1) x.1.2.1/\0<=x.1.2.1/\x.1.2.1<=16384)/\∀(r:List QQ×Bool×Unit),WfL r.1/\True/\True->r.1=dl x.1.2.1 (E2 (gx [] x.1.2.2 p.1))/\r.2.1=true->(0<=p.1/\p.1<(p.2.1.length:Int))/\I (IntKind.i64.wrap (p.1+1),List.set p.2.1 (Int.toNat p.1) r.1,())/\μ (IntKind.i64.wrap (p.1+1),List.set p.2.1 (Int.toNat p.1) r.1,())<μ p)/\(decide (p.1<x.1.1)=false->p.2.1=els x.1)
theorem C2n (x:A7 J6.args):H4 Tryz.prog tys B3g D5j J6 Tryz.f65 x=A6i x:=by kernel_rfl
def A4n:A7 K4.args->Prop:=fun(x:MM×MM×Unit)=>(sel (sel (decide (x.1.1≠x.2.1.1)) true (decide (x.1.2.1≠x.2.1.2.1))) true (decide ((x.1.2.2.length:Int)≠(x.2.1.2.2.length:Int)))=true->(false=true↔x.1=x.2.1/\∀(v:List EE),v∈x.1.2.2->∀(e:EE),e∈v->e.2=rc (rv e.2)))/\(sel (sel (decide (x.1.1≠x.2.1.1)) true (decide (x.1.2.1≠x.2.1.2.1))) true (decide ((x.1.2.2.length:Int)≠(x.2.1.2.2.length:Int)))=false->∃(I:Int×Unit->Prop),∃(μ:Int×Unit->Nat),I ((0:Int),())/\∀(p:Int×Unit),D5 p.1/\True->I p->(decide (p.1<(x.1.2.2.length:Int))=true->(0<=p.1/\p.1<(x.1.2.2.length:Int))/\(0<=p.1/\p.1<(x.2.1.2.2.length:Int))/\szV K1 (gx [] x.1.2.2 p.1)/\∀(r:Bool×Unit),True/\True->r.1=decide (gx [] x.1.2.2 p.1=gx [] x.2.1.2.2 p.1/\∀(e:EE),e∈gx [] x.1.2.2 p.1->e.2=rc (rv e.2))->((!r.1)=true->(false=true↔x.1=x.2.1/\∀(v:List EE),v∈x.1.2.2->∀(e:EE),e∈v->e.2=rc (rv e.2)))/\((!r.1)=false->I (IntKind.i64.wrap (p.1+1),())/\μ (IntKind.i64.wrap (p.1+1),())<μ p))/\(decide (p.1<(x.1.2.2.length:Int))=false->(true=true↔x.1=x.2.1/\∀(v:List EE),v∈x.1.2.2->∀(e:EE),e∈v->e.2=rc (rv e.2))))
theorem B8g (x:A7 K4.args):H4 Tryz.prog tys B1r C9v K4 Tryz.f58 x=A4n x:=by kernel_rfl
def D2n:A7 A7d.args->Prop:=fun(x:MM×Int×Int×Unit)=>okM K1 x.1/\∀(r:Bool×Unit),True/\True->r.1=decide (A5 x.1)->(sel (sel (sel (sel (!r.1) true (decide (x.2.1<0))) true (decide (x.1.1<=x.2.1))) true (decide (x.2.2.1<0))) true (decide (x.1.2.1<=x.2.2.1))=true->True/\∀(r:QQ×Unit),WfQ r.1/\True->r.1=rc (0:Rat)->r.1=rc (if A5 x.1/\0<=x.2.1/\x.2.1<x.1.1/\0<=x.2.2.1/\x.2.2.1<x.1.2.1 then el x.1 x.2.1.toNat x.2.2.1.toNat else(0:Rat)))/\(sel (sel (sel (sel (!r.1) true (decide (x.2.1<0))) true (decide (x.1.1<=x.2.1))) true (decide (x.2.2.1<0))) true (decide (x.1.2.1<=x.2.2.1))=false->(0<=x.2.1/\x.2.1<(x.1.2.2.length:Int))/\okV K1 (gx [] x.1.2.2 x.2.1)/\∀(r:QQ×Unit),WfQ r.1/\True->r.1=rc (E2 (gx [] x.1.2.2 x.2.1) x.2.2.1)->r.1=rc (if A5 x.1/\0<=x.2.1/\x.2.1<x.1.1/\0<=x.2.2.1/\x.2.2.1<x.1.2.1 then el x.1 x.2.1.toNat x.2.2.1.toNat else(0:Rat)))
theorem E7f (x:A7 A7d.args):H4 Tryz.prog tys E5g F8b A7d Tryz.f51 x=D2n x:=by kernel_rfl
theorem D3e (x:A7 O5.args) (hw:awf O5.args x) (hp:O5.pre x):B2x x:=by
 obtain⟨⟨R,C,D⟩,_⟩:=x;have hD:D.length<=9223372036854775807:=hw.1.2.2.1;change Int at R C;change List (List Ent)at D;have hs:okM K1 (R,C,D):=hp;simp only[B2x];simp only[Q0];refine⟨fun h=> ?_,fun h=> ?_⟩
 . refine(decide_eq_false fun hv=> ?_).symm;obtain⟨v1,v2,v3,v4,v5,_⟩:=hv;simp only at v1 v2 v3 v4 v5;simp only[Bool.or_eq_true,decide_eq_true_eq]at h;omega
 . simp only[Bool.or_eq_false_iff,decide_eq_false_iff_not,Decidable.not_not]at h;obtain⟨⟨⟨⟨a,b⟩,c⟩,d⟩,e⟩:=h;refine⟨fun p=>0<=p.1/\∀v∈D.take p.1.toNat,J4 v C,fun p=>(R-p.1).toNat,⟨Int.le_refl _,by simp⟩, ?_⟩;rintro⟨i,_⟩ _ ⟨h0,h1⟩;change Int at i;simp only at h0 h1⊢;refine⟨fun hi=> ?_,fun hi=> ?_⟩
   . have hi:=of_decide_eq_true hi;have hiD:i<(D.length:Int):=by omega
     have hme:=L3 (d:=([]:List Ent)) h0 hiD;refine⟨⟨h0,hiD⟩,hs _ hme, ?_⟩;rintro⟨q,_⟩ _ hq;simp only at hq⊢;refine⟨fun h2=> ?_,fun h2=> ?_⟩
     . refine(decide_eq_false fun hv=> ?_).symm;rw[hq,decide_eq_true (hv.2.2.2.2.2 _ hme)]at h2;cases h2
     . rw[hq]at h2;have h2:decide (J4 (gx [] D i) C)=true:=by simpa using h2
       rw[wr (by omega) (by omega)];exact⟨⟨by omega,A2r (d:=([]:List Ent)) (q:=fun v=>J4 v C) h0 hiD h1 (of_decide_eq_true h2)⟩,by omega⟩
   . have hi:=of_decide_eq_false hi;rw[D7 (by omega)]at h1;exact(decide_eq_true (show A5 (R,C,D)from⟨by show 0<=R;omega,by show R<= _;omega,by show 0<=C;omega,by show C<= _;omega,e,h1⟩)).symm
theorem D6t (x:A7 T7.args) (hw:awf T7.args x) (hp:T7.pre x):C0i x:=by
 obtain⟨D,C,_⟩:=x;change List (List L5)at D;change Int at C;obtain⟨hs,c0,c1,hl⟩:(∀l∈D,szL K1 l/\(l.length:Int)=C)/\0<=C/\C<=16384/\D.length<=16384:=hp;simp only[C0i];refine⟨fun p=>0<=p.1/\p.1<=(D.length:Int)/\p.2.1=(D.length:Int)/\p.2.2.1=C/\p.2.2.2.1.length=p.1.toNat/\∀i,i<p.1.toNat->isV C.toNat (fun j=>rv ((D.getD i []).getD j zr)) (p.2.2.2.1.getD i []),fun p=>((D.length:Int)-p.1).toNat,⟨Int.le_refl _,Int.natCast_nonneg _,rfl,rfl,rfl,fun i hi=>by simp at hi⟩, ?_⟩;rintro⟨i,a,b,rows,_⟩ _ ⟨i0,i1,ha,hb,hrl,hf⟩;change Int at i a b;change List (List Ent)at rows;simp only at i0 i1 ha hb hrl hf⊢;refine⟨fun h=> ?_,fun h=> ?_⟩
 . have h:=of_decide_eq_true h;have hme:=L3 (d:=([]:List L5)) i0 h;obtain⟨h1,h2⟩:=hs _ hme;refine⟨⟨i0,h⟩,⟨by omega,h1⟩, ?_⟩;rintro⟨v,_⟩ _ hv;simp only at hv⊢;rw[wr (by omega) (by omega)];rw[show(gx [] D i).length=C.toNat from by omega,W9 i0 h]at hv;refine⟨⟨by simp only[List.length_singleton];omega,by simp only[List.length_singleton];omega⟩,⟨by omega,by omega,ha,hb,by rw[List.length_append,List.length_singleton];omega,fun k hk=> ?_⟩,by omega⟩;show isV _ _ ((rows++ [v]).getD k []);by_cases hk2:k<rows.length
   . have h9:(rows++ [v]).getD k []=rows.getD k []:=by
      rw[List.getD_eq_getElem?_getD,List.getElem?_append_left hk2, <-List.getD_eq_getElem?_getD]
     rw[h9];exact hf k (by omega)
   . have hk3:k=i.toNat:=by omega
     have h9:(rows++ [v]).getD k []=v:=by
      rw[List.getD_eq_getElem?_getD,List.getElem?_append_right (by omega),show k-rows.length=0 from by omega];rfl
     rw[h9,hk3];exact hv
 . have h:=of_decide_eq_false h;exact⟨ha,by omega,by omega,fun k hk=>hf k (by omega)⟩
theorem C2e (x:A7 J6.args) (hw:awf J6.args x) (hp:J6.pre x):A6i x:=by
 obtain⟨⟨R,C,D⟩,_⟩:=x;change Int at R C;change List (List Ent)at D;obtain⟨hs,hv⟩:okM K1 (R,C,D)/\A5 (R,C,D):=hp;obtain⟨v1,v2,v3,v4,_,_⟩:=id hv;have v5:(D.length:Int)=R:=hv.2.2.2.2.1;have v6:∀w∈D,J4 w C:=hv.2.2.2.2.2;simp only at v1 v2 v3 v4;simp only[A6i];refine⟨⟨v1,Int.le_refl _,by omega,by omega⟩,fun p=>0<=p.1/\p.1<=R/\fill R.toNat p.1.toNat (fun i=>dl C (E2 (D.getD i []))) p.2.1,fun p=>(R-p.1).toNat,⟨Int.le_refl _,v1,G2o List.length_replicate⟩, ?_⟩;rintro⟨k,rows,_⟩ _ ⟨k0,k1,hf⟩;change Int at k;change List (List L5)at rows;simp only at k0 k1 hf⊢;have:=hf.1;refine⟨fun h=> ?_,fun h=> ?_⟩
 . have h:=of_decide_eq_true h;have hkD:k<(D.length:Int):=by omega
   have hme:=L3 (d:=([]:List Ent)) k0 hkD;refine⟨⟨k0,hkD⟩,⟨B1p hv hs hme,v6 _ hme,v3,v4⟩, ?_⟩;rintro⟨l,b,_⟩ _ ⟨hl,_⟩;simp only at hl⊢;rw[wr (by omega) (by omega)];refine⟨⟨k0,by omega⟩,⟨by omega,by omega,E1l hf k0 (by omega) ?_⟩,by omega⟩;rw[hl,B4s k0 hkD]
 . have h:=of_decide_eq_false h;exact C1n hf (by omega)
theorem C0h (x:A7 K4.args) (hw:awf K4.args x) (hp:K4.pre x):A4n x:=by
 obtain⟨⟨R,C,D⟩,⟨R',C',D'⟩,_⟩:=x;have hDl:D.length<=9223372036854775807:=hw.1.2.2.1;change Int at R C R' C';change List (List Ent)at D D';have hs:okM K1 (R,C,D):=hp;simp only[A4n];simp only[Q0];refine⟨fun h=> ?_,fun h=> ?_⟩
 . simp only[Bool.or_eq_true,decide_eq_true_eq]at h;refine⟨fun h2=>(by cases h2),fun h2=> ?_⟩;have h3:=h2.1;simp only[Prod.mk.injEq]at h3;obtain⟨rfl,rfl,rfl⟩:=h3;simp at h
 . simp only[Bool.or_eq_false_iff,decide_eq_false_iff_not,Decidable.not_not]at h;obtain⟨⟨rfl,rfl⟩,hlen⟩:=h;refine⟨fun p=>0<=p.1/\p.1<=(D.length:Int)/\D.take p.1.toNat=D'.take p.1.toNat/\∀v∈D.take p.1.toNat,∀e∈v,e.2=rc (rv e.2),fun p=>((D.length:Int)-p.1).toNat,⟨Int.le_refl _,Int.natCast_nonneg _,by simp,by simp⟩, ?_⟩;rintro⟨i,_⟩ _ ⟨h0,h1,h2,h3⟩;change Int at i;simp only at h0 h1 h2 h3⊢;refine⟨fun h=> ?_,fun h=> ?_⟩
   . have h:=of_decide_eq_true h;have hme:=L3 (d:=([]:List Ent)) h0 h;have ga:=K5 (d:=([]:List Ent)) h0 h;have gb:=K5 (d:=([]:List Ent)) (l:=D') h0 (by omega);have hta:D.take (i+1).toNat=D.take i.toNat++ [gx [] D i]:=by
      rw[show(i+1).toNat=i.toNat+1 from by omega,List.take_add_one,ga];rfl
     have htb:D'.take (i+1).toNat=D'.take i.toNat++ [gx [] D' i]:=by
      rw[show(i+1).toNat=i.toNat+1 from by omega,List.take_add_one,gb];rfl
     refine⟨⟨h0,h⟩,⟨h0,by omega⟩,hs _ hme, ?_⟩;rintro⟨q,_⟩ _ hq;simp only at hq⊢;refine⟨fun h4=>⟨fun h5=>(by cases h5),fun h5=> ?_⟩,fun h4=> ?_⟩
     . obtain⟨h6,h7⟩:=h5;simp only[Prod.mk.injEq,true_and]at h6;subst h6;rw[hq,decide_eq_true (⟨rfl,h7 _ hme⟩: _ /\ _)]at h4;cases h4
     . rw[hq]at h4;have h4:gx [] D i=gx [] D' i/\∀e∈gx [] D i,e.2=rc (rv e.2):=of_decide_eq_true (by simpa using h4);rw[wr (by omega) (by omega)];refine⟨⟨by omega,by omega,by rw[hta,htb,h2,h4.1],fun v hv=> ?_⟩,by omega⟩;rw[hta]at hv;rcases List.mem_append.1 hv with hv|hv
       . exact h3 v hv
       . rw[List.mem_singleton.1 hv];exact h4.2
   . have h:=of_decide_eq_false h;rw[D7 (by omega),D7 (by omega)]at h2;rw[D7 (by omega)]at h3;subst h2;exact⟨fun _=>⟨rfl,h3⟩,fun _=>by trivial⟩
theorem E4v (x:A7 A7d.args) (hw:awf A7d.args x) (hp:A7d.pre x):D2n x:=by
 obtain⟨⟨R,C,D⟩,i,j,_⟩:=x;change Int at R C i j;change List (List Ent)at D;have hs:okM K1 (R,C,D):=hp;simp only[D2n];refine⟨hs, ?_⟩;rintro⟨r,_⟩ _ hr;simp only at hr⊢;simp only[Q0];have hc:(!r||decide (i<0) ||decide (R<=i) ||decide (j<0) ||decide (C<=j))=false↔(A5 (R,C,D)/\0<=i/\i<R/\0<=j/\j<C):=by
  rw[hr];simp only[Bool.or_eq_false_iff,Bool.not_eq_false',decide_eq_true_eq,decide_eq_false_iff_not];constructor
  . rintro⟨⟨⟨⟨a,b⟩,c⟩,d⟩,e⟩;exact⟨a,by omega,by omega,by omega,by omega⟩
  . rintro⟨a,b,c,d,e⟩;exact⟨⟨⟨⟨a,by omega⟩,by omega⟩,by omega⟩,by omega⟩
 refine⟨fun h=>⟨trivial, ?_⟩,fun h=> ?_⟩
 . rintro⟨q,_⟩ _ hq;simp only at hq⊢;rw[if_neg fun h2=>(by rw[hc.2 h2]at h;cases h),hq]
 . have h2:=hc.1 h;obtain⟨hv,i0,i1,j0,j1⟩:=id h2;have hl:(D.length:Int)=R:=hv.2.2.2.2.1;refine⟨⟨i0,by omega⟩,B1p hv hs (L3 (d:=([]:List Ent)) (l:=D) i0 (by omega)), ?_⟩;rintro⟨q,_⟩ _ hq;simp only at hq⊢;rw[if_pos h2,hq,B4s (D:=D) i0 (by omega)];unfold el;rw[show((j.toNat:Nat):Int)=j from by omega]
def D0y:An:= {loop:= [(9,⟨[1,2,4,5,6],[0,1],[(7,false,[.val (.int .i64)])],[],[(2, .rows tQ 56 31)]⟩),(6,⟨[1,2,4,5],[0,1],[(6,false,[.val (.int .i64)])],[],[(2, .rows tQ 56 31)]⟩)],plan:= [(11,[5,9,12],[14,16],false,(.p 0 (.p 1 (.p 2 (.p 3 (.p 4 (.q 5 (.p 6 (.p 7 (.p 8 (.q 9 (.p 10 (.p 11 (.q 12 (.e 13 (.e 14 (.p 15 (.e 16 .done))))))))))))))))))]}
def B1k:B4:= [(41,O5),(65,J6),(78,T7)]
def E7l:An:= {loop:= [(8,⟨[1,2,7],[0],[(6,false,[.own tQ 31]),(8,false,[.val (.int .i64)])],[],[]⟩)]}
def C8u:B4:= [(41,O5),(65,J6),(101,A4e)]
def E1w:An:= {}
def C2f:B4:= [(22,K2),(36,W3)]
def E7m:An:= {join:= [(17,⟨[1,2,3,6,8,9,10,11,13],[0,1,2,3],[(12,false,[.own tQ 31])],[],[]⟩),(12,⟨[1,2,3,6,8,9,11],[0,1,2],[(10,false,[.own (.sl tQ) 56])],[],[]⟩)],loop:= [(16,⟨[1,2,3,6,8,9,10,11],[0,1,2,3],[(12,false,[.own tQ 31]),(13,false,[.val (.int .i64)])],[],[]⟩),(11,⟨[1,2,3,6,8,9],[0,1,2],[(10,false,[.own (.sl tQ) 56]),(11,false,[.val (.int .i64)])],[],[]⟩)],plan:= [(19,[4,7,11,14,18,21,23],[27],false,(.p 0 (.p 1 (.p 2 (.p 3 (.q 4 (.p 5 (.p 6 (.q 7 (.p 8 (.p 9 (.p 10 (.q 11 (.p 12 (.p 13 (.q 14 (.p 15 (.p 16 (.p 17 (.q 18 (.p 19 (.p 20 (.q 21 (.q 23 (.e 22 (.e 24 (.e 25 (.e 26 (.e 27 (.p 28 .done))))))))))))))))))))))))))))))]}
def C8x:B4:= [(24,A2f),(29,U8),(41,O5),(53,A4f),(54,A1d),(65,J6),(78,T7)]
def A4q:A7 K2.args->Prop:=fun(x:MM×Unit)=>okM K1 x.1/\∀(r:Bool×Unit),True/\True->r.1=decide (A5 x.1)->((!r.1)=true->(¬A5 x.1->((0:Int),(0:Int),[])=zm/\(1:Int)=(1:Int))/\(A5 x.1->isM x.1.2.1.toNat x.1.1.toNat (fun(i j:Nat)=>el x.1 j i) ((0:Int),(0:Int),[])/\(1:Int)=(0:Int)))/\((!r.1)=false->(okM K1 x.1/\A5 x.1)/\∀(r:List (List QQ)×Unit),G0p r.1/\True->r.1=els x.1->(0<=x.1.2.1/\x.1.2.1<=x.1.2.1/\(↑(24:Nat):Int)*x.1.2.1<=281474976710656/\x.1.2.1<=9223372036854775807)/\∃(I:Int×List (List QQ)×Unit->Prop),∃(μ:Int×List (List QQ)×Unit->Nat),I ((0:Int),List.replicate (Int.toNat x.1.2.1) [],())/\∀(p:Int×List (List QQ)×Unit),D5 p.1/\G0p p.2.1/\True->I p->(decide (p.1<x.1.2.1)=true->∃(I_1:Int×List (List QQ)×Unit->Prop),∃(μ_1:Int×List (List QQ)×Unit->Nat),I_1 ((0:Int),p.2.1,())/\∀(a:Int×List (List QQ)×Unit),D5 a.1/\G0p a.2.1/\True->I_1 a->(decide (a.1<x.1.1)=true->(0<=p.1/\p.1<(a.2.1.length:Int))/\(0<=a.1/\a.1<(r.1.length:Int))/\(0<=p.1/\p.1<(↑(gx [] r.1 a.1).length:Int))/\(((List.getD a.2.1 (Int.toNat p.1) []).length+ [gx dQ (gx [] r.1 a.1) p.1].length)*(56:Nat)<=(140737488355328:Nat)/\(List.getD a.2.1 (Int.toNat p.1) []).length+ [gx dQ (gx [] r.1 a.1) p.1].length<=9223372036854775807)/\(0<=p.1/\p.1<(a.2.1.length:Int))/\Int.toNat p.1=Int.toNat p.1/\I_1 (IntKind.i64.wrap (a.1+1),List.set a.2.1 (Int.toNat p.1) (List.getD a.2.1 (Int.toNat p.1) []++ [gx dQ (gx [] r.1 a.1) p.1]),())/\μ_1 (IntKind.i64.wrap (a.1+1),List.set a.2.1 (Int.toNat p.1) (List.getD a.2.1 (Int.toNat p.1) []++ [gx dQ (gx [] r.1 a.1) p.1]),())<μ_1 a)/\(decide (a.1<x.1.1)=false->I (IntKind.i64.wrap (p.1+1),a.2.1,())/\μ (IntKind.i64.wrap (p.1+1),a.2.1,())<μ p))/\(decide (p.1<x.1.2.1)=false->((∀(l:List QQ),l∈p.2.1->szL K1 l/\(↑l.length:Int)=x.1.1)/\0<=x.1.1/\x.1.1<=16384/\List.length p.2.1<=16384)/\∀(r:MM×Unit),WfM r.1/\True->isM (List.length p.2.1) (Int.toNat x.1.1) (fun(i j:Nat)=>rv ((List.getD p.2.1 i []).getD j zr)) r.1->(¬A5 x.1->r.1=zm/\(0:Int)=(1:Int))/\(A5 x.1->isM x.1.2.1.toNat x.1.1.toNat (fun(i j:Nat)=>el x.1 j i) r.1/\(0:Int)=(0:Int))))
theorem B8o (x:A7 K2.args):H4 Tryz.prog G3r B1k D0y K2 Tryz.f22 x=A4q x:=by kernel_rfl
def B2y:A7 W3.args->Prop:=fun(x:MM×List QQ×Unit)=>okM K1 x.1/\∀(r:Bool×Unit),True/\True->r.1=decide (A5 x.1)->((!r.1)=true->(¬A5 x.1->B0o QQ= []/\(1:Int)=(1:Int))/\(A5 x.1->((↑x.2.1.length:Int)≠x.1.2.1->B0o QQ= []/\(1:Int)=(4:Int))/\((↑x.2.1.length:Int)=x.1.2.1->B0o QQ=List.map (fun(i:Nat)=>rc (Y8 x.2.1.length fun(j:Nat)=>el x.1 i j*rv (x.2.1.getD j zr))) (List.range x.1.1.toNat)/\(1:Int)=(0:Int))))/\((!r.1)=false->(decide ((x.2.1.length:Int)≠x.1.2.1)=true->(¬A5 x.1->B0o QQ= []/\(4:Int)=(1:Int))/\(A5 x.1->((↑x.2.1.length:Int)≠x.1.2.1->B0o QQ= []/\(4:Int)=(4:Int))/\((↑x.2.1.length:Int)=x.1.2.1->B0o QQ=List.map (fun(i:Nat)=>rc (Y8 x.2.1.length fun(j:Nat)=>el x.1 i j*rv (x.2.1.getD j zr))) (List.range x.1.1.toNat)/\(4:Int)=(0:Int))))/\(decide ((x.2.1.length:Int)≠x.1.2.1)=false->(okM K1 x.1/\A5 x.1)/\∀(r:List (List QQ)×Unit),G0p r.1/\True->r.1=els x.1->∃(I:List QQ×Int×Unit->Prop),∃(μ:List QQ×Int×Unit->Nat),I ([],(0:Int),())/\∀(p:List QQ×Int×Unit),WfL p.1/\D5 p.2.1/\True->I p->(decide (p.2.1<x.1.1)=true->(0<=p.2.1/\p.2.1<(r.1.length:Int))/\(szL K0 (gx [] r.1 p.2.1)/\szL K0 x.2.1/\(gx [] r.1 p.2.1).length<=(1000:Nat))/\∀(a:QQ×Bool×Unit),WfQ a.1/\True/\True->((gx [] r.1 p.2.1).length=List.length x.2.1->a.1=rc (Y8 (gx [] r.1 p.2.1).length fun(i:Nat)=>rv ((gx [] r.1 p.2.1).getD i zr)*rv (List.getD x.2.1 i zr))/\a.2.1=true)->((List.length p.1+ [a.1].length)*(56:Nat)<=(140737488355328:Nat)/\List.length p.1+ [a.1].length<=9223372036854775807)/\I (p.1++ [a.1],IntKind.i64.wrap (p.2.1+1),())/\μ (p.1++ [a.1],IntKind.i64.wrap (p.2.1+1),())<μ p)/\(decide (p.2.1<x.1.1)=false->(¬A5 x.1->p.1= []/\(0:Int)=(1:Int))/\(A5 x.1->((↑x.2.1.length:Int)≠x.1.2.1->p.1= []/\(0:Int)=(4:Int))/\((↑x.2.1.length:Int)=x.1.2.1->p.1=List.map (fun(i:Nat)=>rc (Y8 x.2.1.length fun(j:Nat)=>el x.1 i j*rv (x.2.1.getD j zr))) (List.range x.1.1.toNat)/\(0:Int)=(0:Int))))))
theorem D3j (x:A7 W3.args):H4 Tryz.prog tys C8u E7l W3 Tryz.f36 x=B2y x:=by kernel_rfl
def B0w:A7 V9.args->Prop:=fun(x:MM×List QQ×Unit)=>okM K1 x.1/\∀(r:MM×Int×Unit),WfM r.1/\D5 r.2.1/\True->(¬A5 x.1->r.1=zm/\r.2.1=1)/\(A5 x.1->isM (Int.toNat x.1.2.1) (Int.toNat x.1.1) (fun(i j:Nat)=>el x.1 j i) r.1/\r.2.1=0)->(decide (r.2.1≠0)=true->(¬A5 x.1->B0o QQ= []/\r.2.1=1)/\(A5 x.1->((↑x.2.1.length:Int)≠x.1.1->B0o QQ= []/\r.2.1=4)/\((↑x.2.1.length:Int)=x.1.1->B0o QQ=List.map (fun(j:Nat)=>rc (Y8 x.2.1.length fun(i:Nat)=>el x.1 i j*rv (x.2.1.getD i zr))) (List.range x.1.2.1.toNat)/\r.2.1=0)))/\(decide (r.2.1≠0)=false->(okM K0 r.1/\szL K0 x.2.1/\r.1.2.1<=1000)/\∀(a:List QQ×Int×Unit),WfL a.1/\D5 a.2.1/\True->(¬A5 r.1->a.1= []/\a.2.1=1)/\(A5 r.1->((x.2.1.length:Int)≠r.1.2.1->a.1= []/\a.2.1=4)/\((x.2.1.length:Int)=r.1.2.1->a.1=List.map (fun(i:Nat)=>rc (Y8 (List.length x.2.1) fun(j:Nat)=>el r.1 i j*rv (List.getD x.2.1 j zr))) (List.range (Int.toNat r.1.1))/\a.2.1=0))->(¬A5 x.1->a.1= []/\a.2.1=1)/\(A5 x.1->((↑x.2.1.length:Int)≠x.1.1->a.1= []/\a.2.1=4)/\((↑x.2.1.length:Int)=x.1.1->a.1=List.map (fun(j:Nat)=>rc (Y8 x.2.1.length fun(i:Nat)=>el x.1 i j*rv (x.2.1.getD i zr))) (List.range x.1.2.1.toNat)/\a.2.1=0)))
theorem D1a (x:A7 V9.args):H4 Tryz.prog tys C2f E1w V9 Tryz.f37 x=B0w x:=by kernel_rfl
def B2v:A7 Y4.args->Prop:=fun(x:MM×Int×Int×Unit)=>okM K1 x.1/\∀(r:Bool×Unit),True/\True->r.1=decide (A5 x.1)->((!r.1)=true->(¬A5 x.1->((0:Int),(0:Int),[])=zm/\(1:Int)=(1:Int))/\(A5 x.1->(¬(0<=x.2.1/\x.2.1<x.1.1/\0<=x.2.2.1/\x.2.2.1<x.1.2.1)->((0:Int),(0:Int),[])=zm/\(1:Int)=(3:Int))/\(0<=x.2.1/\x.2.1<x.1.1/\0<=x.2.2.1/\x.2.2.1<x.1.2.1->(el x.1 x.2.1.toNat x.2.2.1.toNat=(0:Rat)->((0:Int),(0:Int),[])=zm/\(1:Int)=(5:Int))/\(el x.1 x.2.1.toNat x.2.2.1.toNat≠(0:Rat)->isM (x.1.1-1).toNat (x.1.2.1-1).toNat (C8y x.1 x.2.1.toNat x.2.2.1.toNat) ((0:Int),(0:Int),[])/\(1:Int)=(0:Int)))))/\((!r.1)=false->(sel (sel (sel (decide (x.2.1<0)) true (decide (x.1.1<=x.2.1))) true (decide (x.2.2.1<0))) true (decide (x.1.2.1<=x.2.2.1))=true->(¬A5 x.1->((0:Int),(0:Int),[])=zm/\(3:Int)=(1:Int))/\(A5 x.1->(¬(0<=x.2.1/\x.2.1<x.1.1/\0<=x.2.2.1/\x.2.2.1<x.1.2.1)->((0:Int),(0:Int),[])=zm/\(3:Int)=(3:Int))/\(0<=x.2.1/\x.2.1<x.1.1/\0<=x.2.2.1/\x.2.2.1<x.1.2.1->(el x.1 x.2.1.toNat x.2.2.1.toNat=(0:Rat)->((0:Int),(0:Int),[])=zm/\(3:Int)=(5:Int))/\(el x.1 x.2.1.toNat x.2.2.1.toNat≠(0:Rat)->isM (x.1.1-1).toNat (x.1.2.1-1).toNat (C8y x.1 x.2.1.toNat x.2.2.1.toNat) ((0:Int),(0:Int),[])/\(3:Int)=(0:Int)))))/\(sel (sel (sel (decide (x.2.1<0)) true (decide (x.1.1<=x.2.1))) true (decide (x.2.2.1<0))) true (decide (x.1.2.1<=x.2.2.1))=false->(okM K1 x.1/\A5 x.1)/\∀(r:List (List QQ)×Unit),G0p r.1/\True->r.1=els x.1->(0<=x.2.1/\x.2.1<(r.1.length:Int))/\(0<=x.2.2.1/\x.2.2.1<(↑(gx [] r.1 x.2.1).length:Int))/\sh3 (gx dQ (gx [] r.1 x.2.1) x.2.2.1)/\∀(c:Int×Unit),D5 c.1/\True->c.1=(rv (gx dQ (gx [] r.1 x.2.1) x.2.2.1)).num.sign->(decide (c.1=0)=true->(¬A5 x.1->((0:Int),(0:Int),[])=zm/\(5:Int)=(1:Int))/\(A5 x.1->(¬(0<=x.2.1/\x.2.1<x.1.1/\0<=x.2.2.1/\x.2.2.1<x.1.2.1)->((0:Int),(0:Int),[])=zm/\(5:Int)=(3:Int))/\(0<=x.2.1/\x.2.1<x.1.1/\0<=x.2.2.1/\x.2.2.1<x.1.2.1->(el x.1 x.2.1.toNat x.2.2.1.toNat=(0:Rat)->((0:Int),(0:Int),[])=zm/\(5:Int)=(5:Int))/\(el x.1 x.2.1.toNat x.2.2.1.toNat≠(0:Rat)->isM (x.1.1-1).toNat (x.1.2.1-1).toNat (C8y x.1 x.2.1.toNat x.2.2.1.toNat) ((0:Int),(0:Int),[])/\(5:Int)=(0:Int)))))/\(decide (c.1=0)=false->∃(I:List (List QQ)×Int×Unit->Prop),∃(μ:List (List QQ)×Int×Unit->Nat),I ([],(0:Int),())/\∀(p:List (List QQ)×Int×Unit),G0p p.1/\D5 p.2.1/\True->I p->(decide (p.2.1<x.1.1)=true->∃(J:List (List QQ)×Unit->Prop),((decide (p.2.1=x.2.1)=true->J (p.1,()))/\(decide (p.2.1=x.2.1)=false->∃(I:List QQ×Int×Unit->Prop),∃(μ:List QQ×Int×Unit->Nat),I ([],(0:Int),())/\∀(a:List QQ×Int×Unit),WfL a.1/\D5 a.2.1/\True->I a->(decide (a.2.1<x.1.2.1)=true->∃(J:List QQ×Unit->Prop),((decide (a.2.1≠x.2.2.1)=true->(0<=p.2.1/\p.2.1<(r.1.length:Int))/\(0<=a.2.1/\a.2.1<(↑(gx [] r.1 p.2.1).length:Int))/\(0<=p.2.1/\p.2.1<(r.1.length:Int))/\(0<=x.2.2.1/\x.2.2.1<(↑(gx [] r.1 p.2.1).length:Int))/\(0<=x.2.1/\x.2.1<(r.1.length:Int))/\(0<=a.2.1/\a.2.1<(↑(gx [] r.1 x.2.1).length:Int))/\(sh3 (gx dQ (gx [] r.1 p.2.1) x.2.2.1)/\sh3 (gx dQ (gx [] r.1 x.2.1) a.2.1))/\∀(d:QQ×Unit),WfQ d.1/\True->d.1=rc (rv (gx dQ (gx [] r.1 p.2.1) x.2.2.1)*rv (gx dQ (gx [] r.1 x.2.1) a.2.1))->(sh3 d.1/\sh3 (gx dQ (gx [] r.1 x.2.1) x.2.2.1))/\∀(e:QQ×Unit),WfQ e.1/\True->(rv (gx dQ (gx [] r.1 x.2.1) x.2.2.1)≠(0:Rat)->e.1=rc (rv d.1/rv (gx dQ (gx [] r.1 x.2.1) x.2.2.1)))->(sh3 (gx dQ (gx [] r.1 p.2.1) a.2.1)/\sh3 e.1)/\∀(b:QQ×Unit),WfQ b.1/\True->b.1=rc (rv (gx dQ (gx [] r.1 p.2.1) a.2.1)-rv e.1)->((List.length a.1+ [b.1].length)*(56:Nat)<=(140737488355328:Nat)/\List.length a.1+ [b.1].length<=9223372036854775807)/\J (a.1++ [b.1],()))/\(decide (a.2.1≠x.2.2.1)=false->J (a.1,())))/\∀(p:List QQ×Unit),WfL p.1/\True->J p->I (p.1,IntKind.i64.wrap (a.2.1+1),())/\μ (p.1,IntKind.i64.wrap (a.2.1+1),())<μ a)/\(decide (a.2.1<x.1.2.1)=false->((List.length p.1+ [a.1].length)*(24:Nat)<=(140737488355328:Nat)/\List.length p.1+ [a.1].length<=9223372036854775807)/\J (p.1++ [a.1],()))))/\∀(a:List (List QQ)×Unit),G0p a.1/\True->J a->I (a.1,IntKind.i64.wrap (p.2.1+1),())/\μ (a.1,IntKind.i64.wrap (p.2.1+1),())<μ p)/\(decide (p.2.1<x.1.1)=false->((∀(l:List QQ),l∈p.1->szL K1 l/\(↑l.length:Int)=IntKind.i64.wrap (x.1.2.1-1))/\(0:Int)<=IntKind.i64.wrap (x.1.2.1-1)/\IntKind.i64.wrap (x.1.2.1-1)<=(16384:Int)/\List.length p.1<=16384)/\∀(r:MM×Unit),WfM r.1/\True->isM (List.length p.1) (IntKind.i64.wrap (x.1.2.1-1)).toNat (fun(i j:Nat)=>rv ((List.getD p.1 i []).getD j zr)) r.1->(¬A5 x.1->r.1=zm/\(0:Int)=(1:Int))/\(A5 x.1->(¬(0<=x.2.1/\x.2.1<x.1.1/\0<=x.2.2.1/\x.2.2.1<x.1.2.1)->r.1=zm/\(0:Int)=(3:Int))/\(0<=x.2.1/\x.2.1<x.1.1/\0<=x.2.2.1/\x.2.2.1<x.1.2.1->(el x.1 x.2.1.toNat x.2.2.1.toNat=(0:Rat)->r.1=zm/\(0:Int)=(5:Int))/\(el x.1 x.2.1.toNat x.2.2.1.toNat≠(0:Rat)->isM (x.1.1-1).toNat (x.1.2.1-1).toNat (C8y x.1 x.2.1.toNat x.2.2.1.toNat) r.1/\(0:Int)=(0:Int))))))))
theorem D2b (x:A7 Y4.args):H4 Tryz.prog tys C8x E7m Y4 Tryz.f128 x=B2v x:=by kernel_rfl
def grown (n m i j:Nat) (f:Nat->Nat->Rat) (rows:List (List L5)):Prop:=rows.length=n/\∀k,k<n->rows.getD k []=(List.range (if k<i then m else if k=i then j else 0)).map fun l=>rc (f k l)
theorem G8a {n m:Nat} {f:Nat->Nat->Rat} :grown n m 0 0 f (List.replicate n []):=⟨List.length_replicate,fun k hk=>by
 rw[List.getD_eq_getElem?_getD,List.getElem?_replicate,if_pos hk,if_neg (by omega)];by_cases h:k=0
 . rw[if_pos h];rfl
 . rw[if_neg h];rfl⟩
theorem F3q {n m i j:Nat} {f:Nat->Nat->Rat} {rows:List (List L5)} {v:L5} (h:grown n m i j f rows) (hi:i<n) (hv:v=rc (f i j)):grown n m i (j+1) f (rows.set i (rows.getD i []++ [v])):=⟨by rw[List.length_set];exact h.1,fun k hk=>by
 rw[List.getD_eq_getElem?_getD,List.getElem?_set];by_cases he:i=k
 . subst he;rw[if_pos rfl,if_pos (by rw[h.1];exact hk)];show rows.getD i []++ [v]= _;rw[h.2 i hk,if_neg (by omega),if_pos rfl,if_neg (by omega),if_pos rfl,List.range_succ,List.map_append,hv];rfl
 . rw[if_neg he, <-List.getD_eq_getElem?_getD,h.2 k hk,if_neg (fun e:k=i=>he e.symm),if_neg (fun e:k=i=>he e.symm)]⟩
theorem F5j {n m i:Nat} {f:Nat->Nat->Rat} {rows:List (List L5)} (h:grown n m i m f rows):grown n m (i+1) 0 f rows:=⟨h.1,fun k hk=>by
 rw[h.2 k hk];have e:(if k<i then m else if k=i then m else 0)=(if k<i+1 then m else if k=i+1 then 0 else 0):=by
  by_cases h1:k<i
  . rw[if_pos h1,if_pos (by omega)]
  . rw[if_neg h1];by_cases h2:k=i
    . rw[if_pos h2,if_pos (by omega)]
    . rw[if_neg h2,if_neg (by omega)];split<;>rfl
 rw[e]⟩
theorem F9l {n m i j:Nat} {f:Nat->Nat->Rat} {rows:List (List L5)} (h:grown n m i j f rows) (hi:i<n):(rows.getD i []).length=j:=by
 rw[h.2 i hi,if_neg (by omega),if_pos rfl];simp
theorem F3b {n m:Nat} {f:Nat->Nat->Rat} {rows:List (List L5)} (h:grown n m n 0 f rows) {k:Nat} (hk:k<n):rows.getD k []=(List.range m).map fun l=>rc (f k l):=by
 rw[h.2 k hk,if_pos hk]
theorem F3n {n m:Nat} {f:Nat->Nat->Rat} {rows:List (List L5)} (h:grown n m n 0 f rows) (hq:∀i j,i<n->j<m->qs K1 (f i j)):∀l∈rows,szL K1 l/\(l.length:Int)=(m:Int):=fun l hl=>by
 obtain⟨k,hk,rfl⟩:=C4a [] hl;rw[h.1]at hk;rw[F3b h hk];refine⟨fun x hx=> ?_,by simp⟩;obtain⟨c,hc,rfl⟩:=List.mem_map.1 hx;exact hq k c hk (List.mem_range.1 hc)
theorem F7j {n m:Nat} {f:Nat->Nat->Rat} {rows:List (List L5)} (h:grown n m n 0 f rows) {i j:Nat} (hi:i<n) (hj:j<m):rv ((rows.getD i []).getD j zr)=f i j:=by
 rw[F3b h hi,List.getD_eq_getElem?_getD,List.getElem?_map,List.getElem?_range hj];exact U4 _
theorem F9w {m:A8b} (i:Int) (h0:0<=i) (h1:i<m.1):gx [] (els m) i=dl m.2.1 (E2 (m.2.2.getD i.toNat [])):=by
 rw[W9 h0 (by rw[E1y];omega),G0x (by omega)]
theorem E9b {m:A8b} {i:Int} (h0:0<=i) (h1:i<m.1):(gx [] (els m) i).length=m.2.1.toNat:=by rw[F9w i h0 h1,G4h]
theorem F9f {m:A8b} {i j:Int} (h0:0<=i) (h1:i<m.1) (j0:0<=j) (j1:j<m.2.1):gx dQ (gx [] (els m) i) j=rc (el m i.toNat j.toNat):=by
 rw[F9w i h0 h1,W9 j0 (by rw[G4h];omega),F9j _ (by omega)];rfl
theorem B9v (x:A7 K2.args) (hw:awf K2.args x) (hp:K2.pre x):A4q x:=by
 obtain⟨⟨R,C,D⟩,_⟩:=x;have hlm:E0x (R,C,D):=A7v hw.1.2.2.2;change Int at R C;change List (List Ent)at D;have hs:okM K1 (R,C,D):=hp;simp only[A4q];refine⟨hs, ?_⟩;rintro⟨r,_⟩ _ hr;simp only at hr⊢;refine⟨fun h=> ?_,fun h=> ?_⟩
 . have hv:¬A5 (R,C,D):=fun hv=>by rw[hr,decide_eq_true hv]at h;cases h
   exact⟨fun _=>⟨rfl,by trivial⟩,fun h2=>absurd h2 hv⟩
 have hv:A5 (R,C,D):=Decidable.byContradiction fun hv=>by rw[hr,decide_eq_false hv]at h;cases h
 obtain⟨v1,v2,v3,v4,_,_⟩:=id hv;simp only at v1 v2 v3 v4;refine⟨⟨hs,hv⟩, ?_⟩;rintro⟨e,_⟩ _ he;simp only at he⊢;have hel:e.length=R.toNat:=by rw[he];exact E1y _
 refine⟨⟨v3,Int.le_refl _,by omega,by omega⟩, ?_⟩
 let f:Nat->Nat->Rat:=fun i j=>el (R,C,D) j i
 refine⟨fun p=>0<=p.1/\p.1<=C/\grown C.toNat R.toNat p.1.toNat 0 f p.2.1,fun p=>(C-p.1).toNat,⟨Int.le_refl _,v3,G8a⟩, ?_⟩;rintro⟨i,rows,_⟩ _ ⟨i0,i1,hg⟩;change Int at i;change List (List L5)at rows;simp only at i0 i1 hg⊢;refine⟨fun h1=> ?_,fun h1=> ?_⟩
 . have h1:=of_decide_eq_true h1;refine⟨fun p=>0<=p.1/\p.1<=R/\grown C.toNat R.toNat i.toNat p.1.toNat f p.2.1,fun p=>(R-p.1).toNat,⟨Int.le_refl _,v1,hg⟩, ?_⟩;rintro⟨j,rows,_⟩ _ ⟨j0,j1,hg⟩;change Int at j;change List (List L5)at rows;simp only at j0 j1 hg⊢;have hl:=hg.1;have hlen:=F9l hg (by omega);refine⟨fun h2=> ?_,fun h2=> ?_⟩
   . have h2:=of_decide_eq_true h2;have hrow:(gx [] e j).length=C.toNat:=by rw[he];exact E9b j0 h2
     have hval:gx dQ (gx [] e j) i=rc (f i.toNat j.toNat):=by rw[he];exact F9f j0 h2 i0 h1
     rw[wr (by omega) (by omega)];refine⟨⟨i0,by omega⟩,⟨j0,by omega⟩,⟨i0,by omega⟩,⟨by rw[hlen,List.length_singleton];omega,by rw[hlen,List.length_singleton];omega⟩,⟨i0,by omega⟩,by trivial,⟨by omega,by omega, ?_⟩,by omega⟩;rw[show(j+1).toNat=j.toNat+1 from by omega];exact F3q hg (by omega) hval
   . have h2:=of_decide_eq_false h2;rw[wr (by omega) (by omega),show(i+1).toNat=i.toNat+1 from by omega];rw[show j.toNat=R.toNat from by omega]at hg;exact⟨⟨by omega,by omega,F5j hg⟩,by omega⟩
 . have h1:=of_decide_eq_false h1;rw[show i.toNat=C.toNat from by omega]at hg;have hl:=hg.1;refine⟨⟨fun l hl=> ?_,v1,v2,by omega⟩, ?_⟩
   . have:=F3n hg (fun i j _ _=>D0v hv hlm hs (by decide) j i) l hl;exact⟨this.1,by omega⟩
   . rintro⟨m,_⟩ _ hm;simp only at hm⊢;rw[hl]at hm;exact⟨fun h=>absurd hv h,fun _=>⟨A8q hm fun i j hi hj=>F7j hg hi hj,by trivial⟩⟩
theorem D2r (x:A7 W3.args) (hw:awf W3.args x) (hp:W3.pre x):B2y x:=by
 obtain⟨⟨R,C,D⟩,X,_⟩:=x;have hlm:E0x (R,C,D):=A7v hw.1.2.2.2;change Int at R C;change List (List Ent)at D;change List L5 at X;obtain⟨hs,hx,hC⟩:okM K0 (R,C,D)/\szL K0 X/\C<=1000:=hp;have hs1:=B0d hs (show K0<=K1 from by decide);simp only[B2y];refine⟨hs1, ?_⟩;rintro⟨r,_⟩ _ hr;simp only at hr⊢;by_cases hv:A5 (R,C,D)
 case neg=>
  have hr:r=false:=by rw[hr];exact decide_eq_false hv
  rw[hr];exact⟨fun _=>⟨fun _=>⟨by trivial,by trivial⟩,fun h=>absurd h hv⟩,fun h=>(by cases h)⟩
 have hr:r=true:=by rw[hr];exact decide_eq_true hv
 rw[hr];obtain⟨v1,v2,v3,v4,_,_⟩:=id hv;simp only at v1 v2 v3 v4;refine⟨fun h=>(by cases h),fun _=>⟨fun h=> ?_,fun h=> ?_⟩⟩
 . have h:=of_decide_eq_true h;exact⟨fun h2=>absurd hv h2,fun _=>⟨fun _=>⟨by trivial,by trivial⟩,fun h2=>absurd h2 h⟩⟩
 have hXC:=Decidable.not_not.1 (of_decide_eq_false h);refine⟨⟨hs1,hv⟩, ?_⟩;rintro⟨e,_⟩ _ he;simp only at he⊢;have hel:e.length=R.toNat:=by rw[he];exact E1y _
 let F:Nat->L5:=fun i=>rc (Y8 X.length fun j=>el (R,C,D) i j*rv (X.getD j zr))
 refine⟨fun p=>0<=p.2.1/\p.2.1<=R/\p.1=(List.range p.2.1.toNat).map F,fun p=>(R-p.2.1).toNat,⟨Int.le_refl _,v1,rfl⟩, ?_⟩;rintro⟨o,i,_⟩ _ ⟨i0,i1,ho⟩;change Int at i;change List L5 at o;simp only at i0 i1 ho⊢;refine⟨fun h1=> ?_,fun h1=> ?_⟩
 . have h1:=of_decide_eq_true h1;have hrow:(gx [] e i).length=X.length:=by
    have:(gx [] e i).length=C.toNat:=by rw[he];exact E9b i0 h1
    omega
   refine⟨⟨i0,by omega⟩,⟨?_,hx,by omega⟩, ?_⟩
   . exact G9o hv hlm hs (by decide) _ (by rw[<-he];exact L3 (d:=([]:List L5)) i0 (by omega))
   . rintro⟨q,b,_⟩ _ hq;simp only at hq⊢;obtain⟨hq,_⟩:=hq hrow;have hol:o.length=i.toNat:=by rw[ho];simp
     rw[wr (by omega) (by omega)];refine⟨⟨by rw[List.length_singleton];omega,by rw[List.length_singleton];omega⟩,⟨by omega,by omega, ?_⟩,by omega⟩;rw[E4k F i0,ho,hq,hrow];have e2:Y8 X.length (fun j=>rv ((gx [] e i).getD j zr)*rv (X.getD j zr))=Y8 X.length fun j=>el (R,C,D) i.toNat j*rv (X.getD j zr):=A9a fun j hj=>by
      rw[he,F9w i i0 h1,F9j _ (by show(j:Int)<C;omega),U4];rfl
     rw[e2]
 . have h1:=of_decide_eq_false h1;exact⟨fun h2=>absurd hv h2,fun _=>⟨fun h2=>absurd hXC h2,fun _=>⟨by rw[ho,show i=R from by omega],by trivial⟩⟩⟩
theorem D0f (x:A7 V9.args) (hw:awf V9.args x) (hp:V9.pre x):B0w x:=by
 obtain⟨⟨R,C,D⟩,X,_⟩:=x;have hlm:E0x (R,C,D):=A7v hw.1.2.2.2;change Int at R C;change List (List Ent)at D;change List L5 at X;obtain⟨hs,hx,hC⟩:okM K0 (R,C,D)/\szL K0 X/\(A5 (R,C,D)->R<=1000):=hp;have hs1:=B0d hs (show K0<=K1 from by decide);simp only[B0w];refine⟨hs1, ?_⟩;rintro⟨m,c,_⟩ _ ⟨hn,hy⟩;change Int at c;simp only at hn hy⊢;by_cases hv:A5 (R,C,D)
 case neg=>
  obtain⟨_,rfl⟩:=hn hv;exact⟨fun _=>⟨fun _=>⟨by trivial,by trivial⟩,fun h=>absurd h hv⟩,fun h=>(by cases h)⟩
 have hC:=hC hv;obtain⟨v1,v2,v3,v4,_,_⟩:=id hv;simp only at v1 v2 v3 v4;obtain⟨hm,rfl⟩:=hy hv;have m1:m.1=(C.toNat:Int):=hm.1;have m2:m.2.1=(R.toNat:Int):=hm.2.1;have hmv:=B4z hm (by omega) (by omega);refine⟨fun h=>(by cases h),fun _=>⟨⟨F3f hm (by decide) fun i j _ _=>D0v hv hlm hs (by decide) j i,hx,by rw[m2];omega⟩, ?_⟩⟩;rintro⟨o,d,_⟩ _ ⟨_,ho⟩;change Int at d;simp only at ho⊢;have ho:=ho hmv;refine⟨fun h=>absurd hv h,fun _=>⟨fun h=>ho.1 (by rw[m2];omega),fun h=> ?_⟩⟩;obtain⟨h3,h4⟩:=ho.2 (by rw[m2];omega);refine⟨?_,h4⟩;rw[h3,m1,Int.toNat_natCast];refine List.map_congr_left fun i hi=> ?_
 rw[A9a fun j hj=>by rw[B7e hm (List.mem_range.1 hi) (by omega)]]
def C0m (t i:Int):Nat:=if t<=i then t.toNat else t.toNat-1
theorem F7f {i:Int} :C0m (i+1) i=C0m i i:=by unfold C0m;split<;>split<;>omega
theorem F7g {t i:Int} (h0:0<=t) (hi:0<=i) (h:t≠i):C0m (t+1) i=C0m t i+1:=by unfold C0m;split<;>split<;>omega
theorem E4x {t i:Int} (h0:0<=t) (hi:0<=i) (h:t≠i):(if C0m t i<i.toNat then C0m t i else C0m t i+1)=t.toNat:=by unfold C0m;split<;>split<;>omega
theorem G7l {m:A8b} {i j r c:Int} (hi:0<=i) (hj:0<=j) (hr:0<=r) (hc:0<=c) (h1:r≠i) (h2:c≠j):C8y m i.toNat j.toNat (C0m r i) (C0m c j)=el m r.toNat c.toNat-el m r.toNat j.toNat*el m i.toNat c.toNat/el m i.toNat j.toNat:=by
 unfold C8y;rw[E4x hr hi h1,E4x hc hj h2]
theorem D4k (x:A7 Y4.args) (hw:awf Y4.args x) (hp:Y4.pre x):B2v x:=by
 obtain⟨⟨R,C,D⟩,i,j,_⟩:=x;have hlm:E0x (R,C,D):=A7v hw.1.2.2.2;change Int at R C i j;change List (List Ent)at D;have hs:okM K0 (R,C,D):=hp;have hs1:=B0d hs (show K0<=K1 from by decide);simp only[B2v];refine⟨hs1, ?_⟩;rintro⟨r,_⟩ _ hr;simp only at hr⊢;by_cases hv:A5 (R,C,D)
 case neg=>
  have hr:r=false:=by rw[hr];exact decide_eq_false hv
  rw[hr];exact⟨fun _=>⟨fun _=>⟨rfl,by trivial⟩,fun h=>absurd h hv⟩,fun h=>(by cases h)⟩
 have hr:r=true:=by rw[hr];exact decide_eq_true hv
 rw[hr];obtain⟨v1,v2,v3,v4,_,_⟩:=id hv;simp only at v1 v2 v3 v4;refine⟨fun h=>(by cases h),fun _=> ?_⟩;simp only[Q0];by_cases hin:0<=i/\i<R/\0<=j/\j<C
 case neg=>
  refine⟨fun _=>⟨fun h=>absurd hv h,fun _=>⟨fun _=>⟨rfl,by trivial⟩,fun h=>absurd h hin⟩⟩,fun h=> ?_⟩;simp only[Bool.or_eq_false_iff,decide_eq_false_iff_not]at h;exact absurd ⟨by omega,by omega,by omega,by omega⟩ hin
 obtain⟨i0,i1,j0,j1⟩:=id hin;refine⟨fun h=> ?_,fun _=>⟨⟨hs1,hv⟩, ?_⟩⟩
 . simp only[Bool.or_eq_true,decide_eq_true_eq]at h;omega
 rintro⟨e,_⟩ _ he;simp only at he⊢;have hel:e.length=R.toNat:=by rw[he];exact E1y _
 have hrow:∀t:Int,0<=t->t<R->(gx [] e t).length=C.toNat:=fun t h0 h1=>by rw[he];exact E9b h0 h1
 have hval:∀t u:Int,0<=t->t<R->0<=u->u<C->gx dQ (gx [] e t) u=rc (el (R,C,D) t.toNat u.toNat):=fun t u h0 h1 h2 h3=>by rw[he];exact F9f h0 h1 h2 h3
 have hq:∀a b,qs K0 (el (R,C,D) a b):=fun a b=>D0v hv hlm hs (by decide) a b
 have hqr:∀a b,sh3 (rc (el (R,C,D) a b)):=fun a b=>A2a (hq a b) (by decide)
 have hpq:∀a b,qs K1 (C8y (R,C,D) i.toNat j.toNat a b):=fun a b=>by
  unfold C8y;exact B2s (G4i (hq _ _) (F8z (A2n (hq _ _) (hq _ _)) (hq _ _))) (by decide)
 have hpl:=hrow i i0 i1;have hpv:=hval i j i0 i1 j0 j1;rw[hpv];refine⟨⟨i0,by omega⟩,⟨j0,by omega⟩,hqr _ _, ?_⟩;rintro⟨s,_⟩ _ hsg;change Int at s;simp only at hsg⊢;rw[U4]at hsg;refine⟨fun h=> ?_,fun h=> ?_⟩
 . have h:=of_decide_eq_true h;rw[hsg]at h;exact⟨fun h=>absurd hv h,fun _=>⟨fun h=>absurd hin h,fun _=>⟨fun _=>⟨rfl,by trivial⟩,fun h2=>absurd (G9k.1 h) h2⟩⟩⟩
 have h:=of_decide_eq_false h;have hne:el (R,C,D) i.toNat j.toNat≠0:=fun h2=>h (by rw[hsg];exact G9k.2 h2)
 let G:Nat->List L5:=fun k=>(List.range (C.toNat-1)).map fun c=>rc (C8y (R,C,D) i.toNat j.toNat k c)
 refine⟨fun p=>0<=p.2.1/\p.2.1<=R/\p.1=(List.range (C0m p.2.1 i)).map G,fun p=>(R-p.2.1).toNat,⟨Int.le_refl _,v1,by unfold C0m;rw[if_pos i0];rfl⟩, ?_⟩;rintro⟨rows,t,_⟩ _ ⟨t0,t1,hrows⟩;change Int at t;change List (List L5)at rows;simp only at t0 t1 hrows⊢;have hbl:C0m t i<=16384:=by unfold C0m;split<;>omega
 refine⟨fun h1=> ?_,fun h1=> ?_⟩
 . have h1:=of_decide_eq_true h1;refine⟨fun p=>p.1=(List.range (C0m (t+1) i)).map G,⟨fun h2=> ?_,fun h2=> ?_⟩, ?_⟩
   . have h2:=of_decide_eq_true h2;subst h2;show rows= _;rw[F7f,hrows]
   . have h2:=of_decide_eq_false h2;refine⟨fun p=>0<=p.2.1/\p.2.1<=C/\p.1=(List.range (C0m p.2.1 j)).map fun c=>rc (C8y (R,C,D) i.toNat j.toNat (C0m t i) c),fun p=>(C-p.2.1).toNat,⟨Int.le_refl _,v3,by unfold C0m;rw[if_pos j0];rfl⟩, ?_⟩;rintro⟨row,u,_⟩ _ ⟨u0,u1,hrw⟩;change Int at u;change List L5 at row;simp only at u0 u1 hrw⊢;have hbu:C0m u j<=16384:=by unfold C0m;split<;>omega
     refine⟨fun h3=> ?_,fun h3=> ?_⟩
     . have h3:=of_decide_eq_true h3;refine⟨fun p=>p.1=(List.range (C0m (u+1) j)).map fun c=>rc (C8y (R,C,D) i.toNat j.toNat (C0m t i) c),⟨fun h4=> ?_,fun h4=> ?_⟩, ?_⟩
       . have h4:=of_decide_eq_true h4;have hl:=hrow t t0 h1;rw[hval t j t0 h1 j0 j1,hval i u i0 i1 u0 h3,hval t u t0 h1 u0 h3];refine⟨⟨t0,by omega⟩,⟨u0,by omega⟩,⟨t0,by omega⟩,⟨j0,by omega⟩,⟨i0,by omega⟩,⟨u0,by omega⟩,⟨hqr _ _,hqr _ _⟩, ?_⟩;rintro⟨a,_⟩ _ ha;simp only at ha⊢;rw[U4,U4]at ha;refine⟨⟨by rw[ha];exact A2a (A2n (hq _ _) (hq _ _)) (by decide),hqr _ _⟩, ?_⟩;rintro⟨b,_⟩ _ hb;simp only at hb⊢;rw[ha,U4,U4]at hb;have hb:=hb hne;refine⟨⟨hqr _ _,by rw[hb];exact A2a (F8z (A2n (hq _ _) (hq _ _)) (hq _ _)) (by decide)⟩, ?_⟩;rintro⟨c,_⟩ _ hc;simp only at hc⊢;rw[hb,U4,U4]at hc;have hrl:row.length=C0m u j:=by rw[hrw];simp
         refine⟨⟨by rw[List.length_singleton];omega,by rw[List.length_singleton];omega⟩, ?_⟩;rw[F7g u0 j0 h4,List.range_succ,List.map_append, <-hrw,hc, <-G7l i0 j0 t0 u0 h2 h4];rfl
       . have h4:=Decidable.not_not.1 (of_decide_eq_false h4);subst h4;show row= _;rw[F7f,hrw]
       . rintro⟨row2,_⟩ _ h5;simp only at h5⊢;rw[wr (by omega) (by omega)];exact⟨⟨by omega,by omega,h5⟩,by omega⟩
     . have h3:=of_decide_eq_false h3;have hrl:rows.length=C0m t i:=by rw[hrows];simp
       refine⟨⟨by rw[List.length_singleton];omega,by rw[List.length_singleton];omega⟩, ?_⟩;rw[F7g t0 i0 h2,List.range_succ,List.map_append, <-hrows,hrw];have e3:C0m u j=C.toNat-1:=by unfold C0m;split<;>omega
       rw[e3];rfl
   . rintro⟨rows2,_⟩ _ h5;simp only at h5⊢;rw[wr (by omega) (by omega)];exact⟨⟨by omega,by omega,h5⟩,by omega⟩
 . have h1:=of_decide_eq_false h1;have e3:C0m t i=R.toNat-1:=by unfold C0m;split<;>omega
   rw[e3]at hrows;have hl:rows.length=R.toNat-1:=by rw[hrows];simp
   have hat:∀k,k<R.toNat-1->rows.getD k []=G k:=fun k hk=>by
    rw[hrows,List.getD_eq_getElem?_getD,List.getElem?_map,List.getElem?_range hk];rfl
   rw[wr (by omega) (by omega)];refine⟨⟨fun l hl=> ?_,by omega,by omega,by omega⟩, ?_⟩
   . rw[hrows]at hl;obtain⟨k,_,rfl⟩:=List.mem_map.1 hl;refine⟨fun y hy=> ?_,by simp[G];omega⟩;obtain⟨c,_,rfl⟩:=List.mem_map.1 hy;exact hpq k c
   . rintro⟨m,_⟩ _ hm;simp only at hm⊢;rw[hl]at hm;refine⟨fun h=>absurd hv h,fun _=>⟨fun h=>absurd hin h,fun _=>⟨fun h=>absurd h hne,fun _=>⟨?_,by trivial⟩⟩⟩⟩;have e4:(R-1).toNat=R.toNat-1:=by omega
     rw[e4];refine A8q hm fun a b ha hb=> ?_
     rw[hat a ha];show rv (List.getD (List.map _ _) b zr)= _;rw[List.getD_eq_getElem?_getD,List.getElem?_map,List.getElem?_range (by omega)];exact U4 _
def E8v:An:= {}
def D2f:B4:= []
def E9t:An:= {}
def D3a:B4:= []
def C5r:An:= {plan:= [(1,[3,7],[],true,(.p 0 (.p 1 (.p 2 (.q 3 (.p 4 (.p 5 (.p 6 (.q 7 (.p 8 (.p 9 .done))))))))))),(4,[3,7,10],[],true,(.p 0 (.p 1 (.p 2 (.q 3 (.p 4 (.p 5 (.p 6 (.q 7 (.p 8 (.p 9 (.q 10 (.p 11 (.e 12 (.p 13 .done)))))))))))))))]}
def A8z:B4:= [(49,A0a)]
def C9n:An:= {}
def B1g:B4:= [(28,G4),(144,A6y)]
def C6x:An:= {loop:= [(3,⟨[0,1],[],[(5,false,[.own tQ 31]),(6,false,[.val (.int .i64)])],[(0,103,[.val (.sl (.int .i64)), .val (.int .i64)])],[]⟩)]}
def A9m:B4:= [(79,J8)]
def B8e:An:= {join:= [(12,⟨[0,1,2,6,7,8,9,10,11],[1,2,3],[],[(0,103,[.val (.sl (.int .i64)), .val (.int .i64)]),(4,31,[.val .bool, .val (.sl (.int .u32)), .val (.sl (.int .u32))])],[]⟩)],loop:= [(7,⟨[0,1,2,6,7,8],[1,2],[(9,false,[.own tQ 31]),(10,false,[.val (.int .i64)])],[(0,103,[.val (.sl (.int .i64)), .val (.int .i64)])],[]⟩),(3,⟨[0,1,2,6],[1],[(7,false,[.own (.sl tQ) 56]),(8,false,[.val (.int .i64)])],[(0,103,[.val (.sl (.int .i64)), .val (.int .i64)])],[]⟩)]}
def A6f:B4:= [(28,G4),(75,Q7),(78,T7),(79,J8)]
def C7q:An:= {}
def A8j:B4:= []
def B8z:A7 A0a.args->Prop:=fun(x:Int×Int×Unit)=>IntKind.u64.wrap x.2.1≠0/\(0<x.2.1->(0:Int)<=IntKind.i64.wrap ((IntKind.u64.wrap x.1).tmod (IntKind.u64.wrap x.2.1))/\IntKind.i64.wrap ((IntKind.u64.wrap x.1).tmod (IntKind.u64.wrap x.2.1))<x.2.1/\IntKind.i64.wrap ((IntKind.u64.wrap x.1).tmod (IntKind.u64.wrap x.2.1))=(IntKind.u64.wrap x.1).tmod x.2.1)
theorem D7p (x:A7 A0a.args):H4 Tryz.prog tys D2f E8v A0a Tryz.f49 x=B8z x:=by kernel_rfl
def D5q:A7 A1e.args->Prop:=fun(x:List Int×Unit)=>(x.1,(0:Int))=(x.1,(0:Int))
theorem D8o (x:A7 A1e.args):H4 Tryz.prog tys D3a E9t A1e Tryz.f18 x=D5q x:=by kernel_rfl
def A3f:A7 G4.args->Prop:=fun(x:(List Int×Int)×Int×Unit)=>(decide ((x.1.1.length:Int)<=x.1.2)=true->((0:Int)<=(0:Int)/\0<x.2.1)/\x.1.1=x.1.1/\0<=x.1.2/\x.1.2<=(↑x.1.1.length:Int))/\(decide ((x.1.1.length:Int)<=x.1.2)=false->((0:Int)<=IntKind.i64.wrap (IntKind.i64.wrap (x.1.2+1)-(1:Int))/\IntKind.i64.wrap (IntKind.i64.wrap (x.1.2+1)-(1:Int))<(x.1.1.length:Int))/\0<x.2.1/\∀(r:Int×Unit),D5 r.1/\True->(0<x.2.1->0<=r.1/\r.1<x.2.1/\r.1=(IntKind.u64.wrap (gx (0:Int) x.1.1 (IntKind.i64.wrap (IntKind.i64.wrap (x.1.2+1)-(1:Int))))).tmod x.2.1)->(0<=r.1/\r.1<x.2.1)/\x.1.1=x.1.1/\(0:Int)<=IntKind.i64.wrap (x.1.2+1)/\IntKind.i64.wrap (x.1.2+1)<=(↑x.1.1.length:Int))
theorem B6y (x:A7 G4.args):H4 Tryz.prog tys A8z C5r G4 Tryz.f28 x=A3f x:=by kernel_rfl
def A4j:A7 J8.args->Prop:=fun(x:(List Int×Int)×Unit)=>((0:Int)<(13:Int)/\0<=x.1.2/\x.1.2<=(x.1.1.length:Int))/\∀(r:Int×Unit) (o:(List Int×Int)×Unit),D5 r.1/\True->((Ty.int IntKind.i64).sl.pair (Ty.int IntKind.i64)).wf o.1/\True->0<=r.1/\r.1<13->o.1.1=x.1.1/\0<=o.1.2/\o.1.2<=(x.1.1.length:Int)->((0:Int)<(4:Int)/\0<=o.1.2/\o.1.2<=(o.1.1.length:Int))/\∀(b:Int×Unit) (a:(List Int×Int)×Unit),D5 b.1/\True->((Ty.int IntKind.i64).sl.pair (Ty.int IntKind.i64)).wf a.1/\True->0<=b.1/\b.1<4->a.1.1=o.1.1/\0<=a.1.2/\a.1.2<=(o.1.1.length:Int)->True/\∀(c:QQ×Unit),WfQ c.1/\True->c.1=rc (Rat.divInt (IntKind.i64.wrap (r.1-6)) (IntKind.i64.wrap (1+b.1)))->D6v c.1/\a.1.1=x.1.1/\0<=a.1.2/\a.1.2<=(↑x.1.1.length:Int)
theorem B9c (x:A7 J8.args):H4 Tryz.prog tys B1g C9n J8 Tryz.f79 x=A4j x:=by kernel_rfl
def A3j:A7 K6.args->Prop:=fun(x:(List Int×Int)×Int×Unit)=>∃(I:List QQ×Int×List Int×Int×Unit->Prop),∃(μ:List QQ×Int×List Int×Int×Unit->Nat),I ([],(0:Int),x.1.1,x.1.2,())/\∀(p:List QQ×Int×List Int×Int×Unit),WfL p.1/\D5 p.2.1/\WfI p.2.2.1/\D5 p.2.2.2.1/\True->I p->(decide (p.2.1<x.2.1)=true->(0<=p.2.2.2.1/\p.2.2.2.1<=(p.2.2.1.length:Int))/\∀(r:QQ×Unit) (o:(List Int×Int)×Unit),WfQ r.1/\True->((Ty.int IntKind.i64).sl.pair (Ty.int IntKind.i64)).wf o.1/\True->D6v r.1->o.1.1=p.2.2.1/\0<=o.1.2/\o.1.2<=(p.2.2.1.length:Int)->((List.length p.1+ [r.1].length)*(56:Nat)<=(140737488355328:Nat)/\List.length p.1+ [r.1].length<=9223372036854775807)/\I (p.1++ [r.1],IntKind.i64.wrap (p.2.1+1),o.1.1,o.1.2,())/\μ (p.1++ [r.1],IntKind.i64.wrap (p.2.1+1),o.1.1,o.1.2,())<μ p)/\(decide (p.2.1<x.2.1)=false->((p.1.length:Int)=Max.max x.2.1 (0:Int)/\∀(e:QQ),e∈p.1->D6v e)/\p.2.2.1=x.1.1/\0<=p.2.2.2.1/\p.2.2.2.1<=(↑x.1.1.length:Int))
theorem B6e (x:A7 K6.args):H4 Tryz.prog tys A9m C6x K6 Tryz.f31 x=A3j x:=by kernel_rfl
def A0w:A7 H2.args->Prop:=fun(x:(List Int×Int)×Int×Int×Unit)=>∃(I:List (List QQ)×Int×List Int×Int×Unit->Prop),∃(μ:List (List QQ)×Int×List Int×Int×Unit->Nat),I ([],(0:Int),x.1.1,x.1.2,())/\∀(p:List (List QQ)×Int×List Int×Int×Unit),G0p p.1/\D5 p.2.1/\WfI p.2.2.1/\D5 p.2.2.2.1/\True->I p->(decide (p.2.1<x.2.1)=true->∃(I_1:List QQ×Int×List Int×Int×Unit->Prop),∃(μ_1:List QQ×Int×List Int×Int×Unit->Nat),I_1 ([],(0:Int),p.2.2.1,p.2.2.2.1,())/\∀(a:List QQ×Int×List Int×Int×Unit),WfL a.1/\D5 a.2.1/\WfI a.2.2.1/\D5 a.2.2.2.1/\True->I_1 a->(decide (a.2.1<x.2.2.1)=true->True/\∀(r:QQ×Unit),WfQ r.1/\True->r.1=rc (0:Rat)->∃(J:List Int×Int×Bool×List Int×List Int×Unit->Prop),(((0:Int)<(3:Int)/\0<=a.2.2.2.1/\a.2.2.2.1<=(a.2.2.1.length:Int))/\∀(c:Int×Unit) (o:(List Int×Int)×Unit),D5 c.1/\True->((Ty.int IntKind.i64).sl.pair (Ty.int IntKind.i64)).wf o.1/\True->0<=c.1/\c.1<3->o.1.1=a.2.2.1/\0<=o.1.2/\o.1.2<=(a.2.2.1.length:Int)->(decide (0<c.1)=true->(0<=o.1.2/\o.1.2<=(o.1.1.length:Int))/\∀(r:QQ×Unit) (b:(List Int×Int)×Unit),WfQ r.1/\True->((Ty.int IntKind.i64).sl.pair (Ty.int IntKind.i64)).wf b.1/\True->D6v r.1->b.1.1=o.1.1/\0<=b.1.2/\b.1.2<=(o.1.1.length:Int)->J (b.1.1,b.1.2,r.1.1.1,r.1.1.2,r.1.2,()))/\(decide (0<c.1)=false->J (o.1.1,o.1.2,r.1.1.1,r.1.1.2,r.1.2,())))/\∀(p:List Int×Int×Bool×List Int×List Int×Unit),WfI p.1/\D5 p.2.1/\True/\WfU p.2.2.2.1/\WfU p.2.2.2.2.1/\True->J p->((List.length a.1+ [((p.2.2.1,p.2.2.2.1),p.2.2.2.2.1)].length)*(56:Nat)<=(140737488355328:Nat)/\List.length a.1+ [((p.2.2.1,p.2.2.2.1),p.2.2.2.2.1)].length<=9223372036854775807)/\I_1 (a.1++ [((p.2.2.1,p.2.2.2.1),p.2.2.2.2.1)],IntKind.i64.wrap (a.2.1+1),p.1,p.2.1,())/\μ_1 (a.1++ [((p.2.2.1,p.2.2.2.1),p.2.2.2.2.1)],IntKind.i64.wrap (a.2.1+1),p.1,p.2.1,())<μ_1 a)/\(decide (a.2.1<x.2.2.1)=false->((List.length p.1+ [a.1].length)*(24:Nat)<=(140737488355328:Nat)/\List.length p.1+ [a.1].length<=9223372036854775807)/\I (p.1++ [a.1],IntKind.i64.wrap (p.2.1+1),a.2.2.1,a.2.2.2.1,())/\μ (p.1++ [a.1],IntKind.i64.wrap (p.2.1+1),a.2.2.1,a.2.2.2.1,())<μ p))/\(decide (p.2.1<x.2.1)=false->((∀(l:List QQ),l∈p.1->szL K1 l/\(↑l.length:Int)=x.2.2.1)/\0<=x.2.2.1/\x.2.2.1<=16384/\List.length p.1<=16384)/\∀(r:MM×Unit),WfM r.1/\True->isM (List.length p.1) (Int.toNat x.2.2.1) (fun(i j:Nat)=>rv ((List.getD p.1 i []).getD j zr)) r.1->H0j x.2.1.toNat x.2.2.1.toNat r.1/\p.2.2.1=x.1.1/\0<=p.2.2.2.1/\p.2.2.2.1<=(↑x.1.1.length:Int))
theorem B2d (x:A7 H2.args):H4 Tryz.prog tys A6f B8e H2 Tryz.f20 x=A0w x:=by kernel_rfl
def A9q:A7 L4.args->Prop:=fun(x:List QQ×Int×Unit)=>(decide (x.2.1<(x.1.length:Int))=true->((0:Int)<=(0:Int)/\0<=x.2.1/\x.2.1<=(x.1.length:Int))/\List.drop (Int.toNat (0:Int)) (List.take (Int.toNat x.2.1) x.1)=List.take x.2.1.toNat x.1)/\(decide (x.2.1<(x.1.length:Int))=false->x.1=List.take x.2.1.toNat x.1)
theorem B6o (x:A7 L4.args):H4 Tryz.prog tys A8j C7q L4 Tryz.f61 x=A9q x:=by kernel_rfl
theorem D6y (x:A7 A1e.args) (_:awf A1e.args x) (_:A1e.pre x):D5q x:=rfl
theorem B6v (x:A7 G4.args) (hw:awf G4.args x) (hp:G4.pre x):A3f x:=by
 obtain⟨⟨l,i⟩,n,_⟩:=x;have hl:l.length<=9223372036854775807:=hw.1.1.1;change Int at i n;change List Int at l;obtain⟨p0,p1,p2⟩:0<n/\0<=i/\i<=(l.length:Int):=hp;simp only[A3f];refine⟨fun h=>⟨⟨by omega,p0⟩,by trivial,p1,p2⟩,fun h=> ?_⟩;have h:=of_decide_eq_false h;rw[wr (a:=i+1) (by omega) (by omega),wr (a:=i+1-1) (by omega) (by omega)];refine⟨⟨by omega,by omega⟩,p0, ?_⟩;rintro⟨r,_⟩ _ hr;exact⟨⟨(hr p0).1,(hr p0).2.1⟩,by trivial,by omega,by omega⟩
theorem D8j (x:A7 A0a.args) (hw:awf A0a.args x) (hp:A0a.pre x):B8z x:=by
 obtain⟨a,b,_⟩:=x;change Int at a b;have hb:0<b:=hp;have h1:inR .i64 b:=hw.2.1;unfold inR at h1;rw[show IntKind.i64.min= -9223372036854775808 from by decide,show IntKind.i64.max=9223372036854775807 from by decide]at h1;simp only[B8z];have e:IntKind.u64.wrap b=b:=by simp[IntKind.wrap,IntKind.bits,IntKind.signed];omega
 have h2:0<=IntKind.u64.wrap a:=by simp[IntKind.wrap,IntKind.bits,IntKind.signed];omega
 rw[e];have h3:0<=(IntKind.u64.wrap a).tmod b:=Int.tmod_nonneg _ h2;have h4:(IntKind.u64.wrap a).tmod b<b:=Int.tmod_lt_of_pos _ hb;rw[wr (by omega) (by omega)];exact⟨by omega,fun _=>⟨h3,h4,rfl⟩⟩
theorem G2n {α:Type} (l:List α) (n:Int) (h0:0<=n):(decide (n<(l.length:Int))=true->((0:Int)<=0/\0<=n/\n<=(l.length:Int))/\List.drop (Int.toNat 0) (List.take n.toNat l)=List.take n.toNat l)/\(decide (n<(l.length:Int))=false->l=List.take n.toNat l):=by
 refine⟨fun h=>⟨⟨Int.le_refl _,h0,Int.le_of_lt (of_decide_eq_true h)⟩,rfl⟩,fun h=> ?_⟩;have h:=of_decide_eq_false h;exact(D7 (Int.not_lt.1 h)).symm
theorem B6n (x:A7 L4.args) (_:awf L4.args x) (hp:L4.pre x):A9q x:=G2n (α:=L5) x.1 x.2.1 hp
theorem F1d {a b:Int} (ha:a.natAbs<4294967296) (h0:0<b) (hb:b.natAbs<4294967296):D6v (rc (Rat.divInt a b)):=by
 refine⟨_, ?_,rfl⟩;rw[D9h h0];exact E1q (by omega) (A6v (by simpa using ha)) (A6v (by simpa using hb))
theorem B9l (x:A7 J8.args) (hw:awf J8.args x) (hp:J8.pre x):A4j x:=by
 obtain⟨⟨l,i⟩,_⟩:=x;change Int at i;change List Int at l;obtain⟨p1,p2⟩:0<=i/\i<=(l.length:Int):=hp;simp only[A4j];refine⟨⟨by omega,p1,p2⟩, ?_⟩;rintro⟨a,_⟩ ⟨⟨l1,i1⟩,_⟩ _ _ ha ho;change Int at i1 a;change List Int at l1;simp only at ha ho⊢;obtain⟨rfl,h1,h2⟩:=ho;refine⟨⟨by omega,h1,h2⟩, ?_⟩;rintro⟨b,_⟩ ⟨⟨l2,i2⟩,_⟩ _ _ hb ho;change Int at i2 b;change List Int at l2;simp only at hb ho⊢;obtain⟨rfl,h1,h2⟩:=ho;refine⟨trivial, ?_⟩;rintro⟨q,_⟩ _ hq;simp only at hq⊢;rw[wr (by omega) (by omega),wr (by omega) (by omega)]at hq;exact⟨by rw[hq];exact F1d (by omega) (by omega) (by omega),by trivial,h1,h2⟩
theorem B6a (x:A7 K6.args) (hw:awf K6.args x) (hp:K6.pre x):A3j x:=by
 obtain⟨⟨l,i⟩,n,_⟩:=x;change Int at i n;change List Int at l;obtain⟨p0,p1,p2⟩:n<=1000/\0<=i/\i<=(l.length:Int):=hp;simp only[A3j];refine⟨fun p=>0<=p.2.1/\p.2.1<=max n 0/\(p.1.length:Int)=p.2.1/\(∀e∈p.1,D6v e)/\p.2.2.1=l/\0<=p.2.2.2.1/\p.2.2.2.1<=(l.length:Int),fun p=>(n-p.2.1).toNat,⟨Int.le_refl _,by show 0<=max n 0;omega,rfl,fun e he=>(by cases he),rfl,p1,p2⟩, ?_⟩;rintro⟨o,k,l1,i1,_⟩ _ ⟨h0,h1,h2,h3,h4,h5,h6⟩;change Int at k i1;change List Int at l1;change List L5 at o;simp only at h0 h1 h2 h3 h4 h5 h6⊢;subst h4;refine⟨fun h=> ?_,fun h=> ?_⟩
 . have h:=of_decide_eq_true h;refine⟨⟨h5,h6⟩, ?_⟩;rintro⟨q,_⟩ ⟨⟨l2,i2⟩,_⟩ _ _ hq ho;change Int at i2;change List Int at l2;simp only at hq ho⊢;obtain⟨rfl,g1,g2⟩:=ho;rw[wr (by omega) (by omega)];refine⟨⟨by rw[List.length_singleton];omega,by rw[List.length_singleton];omega⟩,⟨by omega,by omega,by rw[List.length_append,List.length_singleton];omega,fun e he=> ?_,by trivial,g1,g2⟩,by omega⟩;rcases List.mem_append.1 he with he|he
   . exact h3 e he
   . rw[List.mem_singleton.1 he];exact hq
 . have h:=of_decide_eq_false h;exact⟨⟨by omega,h3⟩,by trivial,h5,h6⟩
theorem G5a {x:L5} (h:D6v x):qs 1 (rv x):=by
 obtain⟨q,hq,rfl⟩:=h;rw[U4];exact hq
theorem F1e {x:L5} (h:D6v x) {k:Nat} (hk:1<=k):sz k x:=by
 obtain⟨q,hq,rfl⟩:=h;exact⟨Nat.le_trans hq.1 hk,Nat.le_trans hq.2 hk⟩
theorem B2j (x:A7 H2.args) (hw:awf H2.args x) (hp:H2.pre x):A0w x:=by
 obtain⟨⟨l,i⟩,R,C,_⟩:=x;change Int at i R C;change List Int at l;obtain⟨r0,r1,c0,c1,p1,p2⟩:0<=R/\R<=20/\0<=C/\C<=20/\0<=i/\i<=(l.length:Int):=hp;simp only[A0w];refine⟨fun p=>0<=p.2.1/\p.2.1<=R/\(p.1.length:Int)=p.2.1/\(∀v∈p.1,(v.length:Int)=C/\∀e∈v,D6v e)/\p.2.2.1=l/\0<=p.2.2.2.1/\p.2.2.2.1<=(l.length:Int),fun p=>(R-p.2.1).toNat,⟨Int.le_refl _,r0,rfl,fun e he=>(by cases he),rfl,p1,p2⟩, ?_⟩;rintro⟨o,k,l1,i1,_⟩ _ ⟨h0,h1,h2,h3,h4,h5,h6⟩;change Int at k i1;change List Int at l1;change List (List L5)at o;simp only at h0 h1 h2 h3 h4 h5 h6⊢;subst h4;refine⟨fun h=> ?_,fun h=> ?_⟩
 . have h:=of_decide_eq_true h;refine⟨fun p=>0<=p.2.1/\p.2.1<=C/\(p.1.length:Int)=p.2.1/\(∀e∈p.1,D6v e)/\p.2.2.1=l1/\0<=p.2.2.2.1/\p.2.2.2.1<=(l1.length:Int),fun p=>(C-p.2.1).toNat,⟨Int.le_refl _,c0,rfl,fun e he=>(by cases he),rfl,h5,h6⟩, ?_⟩;rintro⟨u,j,l2,i2,_⟩ _ ⟨g0,g1,g2,g3,g4,g5,g6⟩;change Int at j i2;change List Int at l2;change List L5 at u;simp only at g0 g1 g2 g3 g4 g5 g6⊢;subst g4;refine⟨fun h=> ?_,fun h=> ?_⟩
   . have h:=of_decide_eq_true h;refine⟨trivial, ?_⟩;rintro⟨z,_⟩ _ hz;simp only at hz⊢;refine⟨fun p=>p.1=l2/\0<=p.2.1/\p.2.1<=(l2.length:Int)/\D6v ((p.2.2.1,p.2.2.2.1),p.2.2.2.2.1),⟨⟨by omega,g5,g6⟩, ?_⟩, ?_⟩
     . rintro⟨a,_⟩ ⟨⟨l3,i3⟩,_⟩ _ _ ha ho;change Int at i3 a;change List Int at l3;simp only at ha ho⊢;obtain⟨rfl,f1,f2⟩:=ho;refine⟨fun _=>⟨⟨f1,f2⟩, ?_⟩,fun _=> ?_⟩
       . rintro⟨q,_⟩ ⟨⟨l4,i4⟩,_⟩ _ _ hq ho;change Int at i4;change List Int at l4;simp only at hq ho⊢;obtain⟨rfl,e1,e2⟩:=ho;exact⟨by trivial,e1,e2,hq⟩
       . exact⟨by trivial,f1,f2,⟨0,A7f (by decide),hz⟩⟩
     . rintro⟨l3,i3,b,m,d,_⟩ _ ⟨f1,f2,f3,f4⟩;change Int at i3;change List Int at l3;simp only at f1 f2 f3 f4⊢;subst f1;rw[wr (by omega) (by omega)];refine⟨⟨by rw[List.length_singleton];omega,by rw[List.length_singleton];omega⟩,⟨by omega,by omega,by rw[List.length_append,List.length_singleton];omega,fun e he=> ?_,by trivial,f2,f3⟩,by omega⟩;rcases List.mem_append.1 he with he|he
       . exact g3 e he
       . rw[List.mem_singleton.1 he];exact f4
   . have h:=of_decide_eq_false h;rw[wr (by omega) (by omega)];refine⟨⟨by rw[List.length_singleton];omega,by rw[List.length_singleton];omega⟩,⟨by omega,by omega,by rw[List.length_append,List.length_singleton];omega,fun e he=> ?_,by trivial,g5,g6⟩,by omega⟩;rcases List.mem_append.1 he with he|he
     . exact h3 e he
     . rw[List.mem_singleton.1 he];exact⟨by omega,g3⟩
 . have h:=of_decide_eq_false h;refine⟨⟨fun v hv=>⟨fun e he=>F1e ((h3 v hv).2 e he) (by decide),(h3 v hv).1⟩,c0,by omega,by omega⟩, ?_⟩;rintro⟨m,_⟩ _ hm;simp only at hm⊢;refine⟨⟨_,fun a b=> ?_,by rw[show R.toNat=o.length from by omega];exact hm⟩,by trivial,h5,h6⟩;by_cases ha:a<o.length
   . by_cases hb:b<(o.getD a []).length
     . exact G5a ((h3 _ (E7 ha)).2 _ (E7 hb))
     . rw[List.getD_eq_getElem?_getD (l:=o.getD a []),List.getElem?_eq_none (by omega)];exact A7f (by decide)
   . rw[List.getD_eq_getElem?_getD (l:=o),List.getElem?_eq_none (by omega)];exact A7f (by decide)
def E1i:An:= {loop:= [(7,⟨[0,2,3,9,10,11,15,16],[0,1],[(6,false,[.own tQ 31]),(17,false,[.val (.int .i64)])],[],[]⟩),(3,⟨[0,2,9,10],[0],[(3,false,[.own (.sl tQ) 56]),(11,false,[.val (.int .i64)])],[],[]⟩)]}
def C1t:B4:= [(68,R3),(78,T7)]
def D7m:An:= {plan:= [(4,[11,18,25],[],false,(.p 0 (.p 1 (.p 2 (.p 3 (.p 4 (.p 5 (.p 6 (.p 7 (.p 8 (.p 9 (.p 10 (.q 11 (.e 12 (.e 13 (.e 14 (.e 15 (.p 16 (.p 17 (.q 18 (.e 19 (.e 20 (.e 21 (.e 22 (.p 23 (.p 24 (.q 25 (.or 26 (.e 27 (.e 28 (.e 29 (.e 30 (.p 31 (.p 32 .done)))))) (.e 27 (.e 26 (.e 28 (.e 29 (.e 30 (.p 31 (.p 32 .done)))))))))))))))))))))))))))))))))))]}
def B7h:B4:= [(45,N6),(50,M8),(55,V3),(58,K4),(116,V5)]
def D7f:An:= {loop:= [(4,⟨[1],[0],[(3,false,[.val (.int .i64)])],[],[]⟩)]}
def B7v:B4:= []
def E1g:An:= {}
def C2w:B4:= [(58,K4)]
def D6k:An:= {plan:= [(9,[0,2,6,8,33,35,40,45],[],false,(.q 0 (.q 2 (.e 1 (.e 3 (.p 4 (.p 5 (.q 6 (.p 7 (.q 8 (.p 9 (.e 10 (.p 11 (.p 12 (.p 13 (.p 14 (.e 15 (.p 16 (.p 17 (.p 18 (.p 19 (.p 20 (.p 21 (.p 22 (.p 23 (.p 24 (.e 25 (.p 26 (.p 27 (.p 28 (.p 29 (.p 30 (.p 31 (.p 32 (.q 33 (.p 34 (.q 35 (.p 36 (.e 37 (.p 38 (.p 39 (.q 40 (.p 41 (.p 42 (.q 45 (.p 46 (.p 47 (.e 43 (.e 44 (.e 48 (.e 49 (.p 50 (.p 51 .done)))))))))))))))))))))))))))))))))))))))))))))))))))))]}
def B7l:B4:= [(17,Q5),(22,K2),(36,W3),(37,V9),(38,A1k),(41,O5),(48,W0),(50,M8),(51,A7d),(52,P9),(56,G9),(83,M0),(85,E1),(127,N4),(128,Y4),(129,X6)]
def B0a:A7 V5.args->Prop:=fun(x:List (List Int)×Unit)=>∃(I:List (List QQ)×Int×Unit->Prop),∃(μ:List (List QQ)×Int×Unit->Nat),I ([],(0:Int),())/\∀(p:List (List QQ)×Int×Unit),G0p p.1/\D5 p.2.1/\True->I p->(decide (p.2.1<(x.1.length:Int))=true->(0<=p.2.1/\p.2.1<(x.1.length:Int))/\∃(I_1:List QQ×Int×Unit->Prop),∃(μ_1:List QQ×Int×Unit->Nat),I_1 ([],(0:Int),())/\∀(a:List QQ×Int×Unit),WfL a.1/\D5 a.2.1/\True->I_1 a->(decide (a.2.1<(↑(gx [] x.1 p.2.1).length:Int))=true->(0<=a.2.1/\a.2.1<(↑(gx [] x.1 p.2.1).length:Int))/\True/\∀(r:QQ×Unit),WfQ r.1/\True->r.1=ri (gx (0:Int) (gx [] x.1 p.2.1) a.2.1)->((List.length a.1+ [r.1].length)*(56:Nat)<=(140737488355328:Nat)/\List.length a.1+ [r.1].length<=9223372036854775807)/\I_1 (a.1++ [r.1],IntKind.i64.wrap (a.2.1+1),())/\μ_1 (a.1++ [r.1],IntKind.i64.wrap (a.2.1+1),())<μ_1 a)/\(decide (a.2.1<(↑(gx [] x.1 p.2.1).length:Int))=false->((List.length p.1+ [a.1].length)*(24:Nat)<=(140737488355328:Nat)/\List.length p.1+ [a.1].length<=9223372036854775807)/\I (p.1++ [a.1],IntKind.i64.wrap (p.2.1+1),())/\μ (p.1++ [a.1],IntKind.i64.wrap (p.2.1+1),())<μ p))/\(decide (p.2.1<(x.1.length:Int))=false->((0:Int)<=(0:Int)/\(0:Int)<(x.1.length:Int))/\((∀(l:List QQ),l∈p.1->szL K1 l/\(↑l.length:Int)=(↑(gx [] x.1 (0:Int)).length:Int))/\(0:Int)<=(↑(gx [] x.1 (0:Int)).length:Int)/\(↑(gx [] x.1 (0:Int)).length:Int)<=(16384:Int)/\List.length p.1<=16384)/\∀(r:MM×Unit),WfM r.1/\True->isM (List.length p.1) (↑(gx [] x.1 (0:Int)).length:Int).toNat (fun(i j:Nat)=>rv ((List.getD p.1 i []).getD j zr)) r.1->r.1.1=(↑x.1.length:Int)/\r.1.2.1=(↑(x.1.getD (0:Nat) []).length:Int)/\List.length r.1.2.2=x.1.length/\∀(i:Nat),i<x.1.length->C8p (List.getD r.1.2.2 i [])/\(∀(e:Ent),e∈List.getD r.1.2.2 i []->0<=e.1/\e.1<(↑(x.1.getD (0:Nat) []).length:Int))/\∀(j:Nat),j<(x.1.getD (0:Nat) []).length->E2 (List.getD r.1.2.2 i []) (↑j:Int)=(↑((x.1.getD i []).getD j (0:Int)):Rat))
theorem D0g (x:A7 V5.args):H4 Tryz.prog tys C1t E1i V5 Tryz.f116 x=B0a x:=by kernel_rfl
def qe (r:MM×Unit) (b:MM×Int×Unit) (c:MM×Int×Unit) (a:MM×Int×Unit) (d:Bool×Unit) (f:Bool×Unit):Prop:=∀(r:MM×Unit),(sel (sel (sel (sel (decide (b.2.1=0)) (decide (c.2.1=0)) false) (decide (a.2.1=0)) false) d.1 false) f.1 false=true->(WfM r.1/\True)/\isM [[(3:Int)],[(3:Int)]].length ([[(3:Int)],[(3:Int)]].getD (0:Nat) []).length (fun(i j:Nat)=>(↑(([[(3:Int)],[(3:Int)]].getD i []).getD j (0:Int)):Rat)) r.1)->(sel (sel (sel (sel (decide (b.2.1=0)) (decide (c.2.1=0)) false) (decide (a.2.1=0)) false) d.1 false) f.1 false=true->okM K1 a.1)/\∀(h:Bool×Unit),(sel (sel (sel (sel (decide (b.2.1=0)) (decide (c.2.1=0)) false) (decide (a.2.1=0)) false) d.1 false) f.1 false=true->(True/\True)/\(h.1=true↔a.1=r.1/\∀(v:List EE),v∈a.1.2.2->∀(e:EE),e∈v->e.2=rc (rv e.2)))->sel (sel (sel (sel (sel (decide (b.2.1=0)) (decide (c.2.1=0)) false) (decide (a.2.1=0)) false) d.1 false) f.1 false) h.1 false=true
def qf:Prop:= [[(3:Int)],[(3:Int)]]≠ []/\ [[(3:Int)],[(3:Int)]].length<=(10:Nat)/\∀(l:List Int),l∈ [[(3:Int)],[(3:Int)]]->l.length=([[(3:Int)],[(3:Int)]].getD (0:Nat) []).length/\l.length<=(10:Nat)/\∀(v:Int),v∈l->v.natAbs<(4294967296:Nat)
def A7j:A7 R6.args->Prop:=fun(x:Unit)=>([[(2:Int),(1:Int)],[(4:Int),(5:Int)]]≠ []/\ [[(2:Int),(1:Int)],[(4:Int),(5:Int)]].length<=(10:Nat)/\∀(l:List Int),l∈ [[(2:Int),(1:Int)],[(4:Int),(5:Int)]]->l.length=([[(2:Int),(1:Int)],[(4:Int),(5:Int)]].getD (0:Nat) []).length/\l.length<=(10:Nat)/\∀(v:Int),v∈l->v.natAbs<(4294967296:Nat))/\∀(r:MM×Unit),WfM r.1/\True->isM [[(2:Int),(1:Int)],[(4:Int),(5:Int)]].length ([[(2:Int),(1:Int)],[(4:Int),(5:Int)]].getD (0:Nat) []).length (fun(i j:Nat)=>(↑(([[(2:Int),(1:Int)],[(4:Int),(5:Int)]].getD i []).getD j (0:Int)):Rat)) r.1->okM K0 r.1/\∀(b:MM×Int×Unit),WfM b.1/\D5 b.2.1/\True->(¬A5 r.1->b.1=zm/\b.2.1=1)/\(A5 r.1->(¬((0:Int)<=(0:Int)/\0<r.1.1/\(0:Int)<=(0:Int)/\0<r.1.2.1)->b.1=zm/\b.2.1=3)/\((0:Int)<=(0:Int)/\0<r.1.1/\(0:Int)<=(0:Int)/\0<r.1.2.1->(el r.1 (Int.toNat (0:Int)) (Int.toNat (0:Int))=(0:Rat)->b.1=zm/\b.2.1=5)/\(el r.1 (Int.toNat (0:Int)) (Int.toNat (0:Int))≠(0:Rat)->isM (r.1.1-1).toNat (r.1.2.1-1).toNat (C8y r.1 (Int.toNat (0:Int)) (Int.toNat (0:Int))) b.1/\b.2.1=0)))->([[(1:Int),(2:Int)]]≠ []/\ [[(1:Int),(2:Int)]].length<=(10:Nat)/\∀(l:List Int),l∈ [[(1:Int),(2:Int)]]->l.length=([[(1:Int),(2:Int)]].getD (0:Nat) []).length/\l.length<=(10:Nat)/\∀(v:Int),v∈l->v.natAbs<(4294967296:Nat))/\∀(r:MM×Unit),WfM r.1/\True->isM [[(1:Int),(2:Int)]].length ([[(1:Int),(2:Int)]].getD (0:Nat) []).length (fun(i j:Nat)=>(↑(([[(1:Int),(2:Int)]].getD i []).getD j (0:Int)):Rat)) r.1->([[(3:Int)],[(4:Int)]]≠ []/\ [[(3:Int)],[(4:Int)]].length<=(10:Nat)/\∀(l:List Int),l∈ [[(3:Int)],[(4:Int)]]->l.length=([[(3:Int)],[(4:Int)]].getD (0:Nat) []).length/\l.length<=(10:Nat)/\∀(v:Int),v∈l->v.natAbs<(4294967296:Nat))/\∀(g:MM×Unit),WfM g.1/\True->isM [[(3:Int)],[(4:Int)]].length ([[(3:Int)],[(4:Int)]].getD (0:Nat) []).length (fun(i j:Nat)=>(↑(([[(3:Int)],[(4:Int)]].getD i []).getD j (0:Int)):Rat)) g.1->(okM K0 r.1/\okM K0 g.1/\r.1.2.1<=1000)/\∀(c:MM×Int×Unit),WfM c.1/\D5 c.2.1/\True->(¬(A5 r.1/\A5 g.1)->c.1=zm/\c.2.1=1)/\(A5 r.1/\A5 g.1->(r.1.2.1≠g.1.1->c.1=zm/\c.2.1=4)/\(r.1.2.1=g.1.1->isM (Int.toNat r.1.1) (Int.toNat g.1.2.1) (fun(i j:Nat)=>Y8 (Int.toNat r.1.2.1) fun(k:Nat)=>el r.1 i k*el g.1 k j) c.1/\c.2.1=0))->([[(1:Int),(2:Int)],[(3:Int),(4:Int)]]≠ []/\ [[(1:Int),(2:Int)],[(3:Int),(4:Int)]].length<=(10:Nat)/\∀(l:List Int),l∈ [[(1:Int),(2:Int)],[(3:Int),(4:Int)]]->l.length=([[(1:Int),(2:Int)],[(3:Int),(4:Int)]].getD (0:Nat) []).length/\l.length<=(10:Nat)/\∀(v:Int),v∈l->v.natAbs<(4294967296:Nat))/\∀(r:MM×Unit),WfM r.1/\True->isM [[(1:Int),(2:Int)],[(3:Int),(4:Int)]].length ([[(1:Int),(2:Int)],[(3:Int),(4:Int)]].getD (0:Nat) []).length (fun(i j:Nat)=>(↑(([[(1:Int),(2:Int)],[(3:Int),(4:Int)]].getD i []).getD j (0:Int)):Rat)) r.1->(okM K1 r.1/\ [(1:Int),(1:Int)].length<=(1000:Nat)/\ [(0:Int)].length<=(1000:Nat)/\ [(0:Int)].Nodup)/\∀(a:MM×Int×Unit),WfM a.1/\D5 a.2.1/\True->(¬A5 r.1->a.1=zm/\a.2.1=1)/\(A5 r.1->(((∃(i:Int),i∈ [(1:Int),(1:Int)]/\(i<(0:Int)\/r.1.1<=i))\/∃(i:Int),i∈ [(0:Int)]/\(i<(0:Int)\/r.1.2.1<=i))->a.1=zm/\a.2.1=3)/\(¬((∃(i:Int),i∈ [(1:Int),(1:Int)]/\(i<(0:Int)\/r.1.1<=i))\/∃(i:Int),i∈ [(0:Int)]/\(i<(0:Int)\/r.1.2.1<=i))->((16384:Nat)< [(1:Int),(1:Int)].length\/(16384:Nat)< [(0:Int)].length->a.1=zm/\a.2.1=8)/\([(1:Int),(1:Int)].length<=(16384:Nat)/\ [(0:Int)].length<=(16384:Nat)->isM [(1:Int),(1:Int)].length [(0:Int)].length (fun(i j:Nat)=>el r.1 ([(1:Int),(1:Int)].getD i (0:Int)).toNat ([(0:Int)].getD j (0:Int)).toNat) a.1/\a.2.1=0)))->(sel (sel (decide (b.2.1=0)) (decide (c.2.1=0)) false) (decide (a.2.1=0)) false=true-> [[(3:Int)]]≠ []/\ [[(3:Int)]].length<=(10:Nat)/\∀(l:List Int),l∈ [[(3:Int)]]->l.length=([[(3:Int)]].getD (0:Nat) []).length/\l.length<=(10:Nat)/\∀(v:Int),v∈l->v.natAbs<(4294967296:Nat))/\∀(r:MM×Unit),(sel (sel (decide (b.2.1=0)) (decide (c.2.1=0)) false) (decide (a.2.1=0)) false=true->(WfM r.1/\True)/\isM [[(3:Int)]].length ([[(3:Int)]].getD (0:Nat) []).length (fun(i j:Nat)=>(↑(([[(3:Int)]].getD i []).getD j (0:Int)):Rat)) r.1)->(sel (sel (decide (b.2.1=0)) (decide (c.2.1=0)) false) (decide (a.2.1=0)) false=true->okM K1 b.1)/\∀(d:Bool×Unit),(sel (sel (decide (b.2.1=0)) (decide (c.2.1=0)) false) (decide (a.2.1=0)) false=true->(True/\True)/\(d.1=true↔b.1=r.1/\∀(v:List EE),v∈b.1.2.2->∀(e:EE),e∈v->e.2=rc (rv e.2)))->(sel (sel (sel (decide (b.2.1=0)) (decide (c.2.1=0)) false) (decide (a.2.1=0)) false) d.1 false=true-> [[(11:Int)]]≠ []/\ [[(11:Int)]].length<=(10:Nat)/\∀(l:List Int),l∈ [[(11:Int)]]->l.length=([[(11:Int)]].getD (0:Nat) []).length/\l.length<=(10:Nat)/\∀(v:Int),v∈l->v.natAbs<(4294967296:Nat))/\∀(r:MM×Unit),(sel (sel (sel (decide (b.2.1=0)) (decide (c.2.1=0)) false) (decide (a.2.1=0)) false) d.1 false=true->(WfM r.1/\True)/\isM [[(11:Int)]].length ([[(11:Int)]].getD (0:Nat) []).length (fun(i j:Nat)=>(↑(([[(11:Int)]].getD i []).getD j (0:Int)):Rat)) r.1)->(sel (sel (sel (decide (b.2.1=0)) (decide (c.2.1=0)) false) (decide (a.2.1=0)) false) d.1 false=true->okM K1 c.1)/\∀(f:Bool×Unit),(sel (sel (sel (decide (b.2.1=0)) (decide (c.2.1=0)) false) (decide (a.2.1=0)) false) d.1 false=true->(True/\True)/\(f.1=true↔c.1=r.1/\∀(v:List EE),v∈c.1.2.2->∀(e:EE),e∈v->e.2=rc (rv e.2)))->((sel (sel (sel (sel (decide (b.2.1=0)) (decide (c.2.1=0)) false) (decide (a.2.1=0)) false) d.1 false) f.1 false=true->qf)/\qe r b c a d f)/\(sel (sel (sel (sel (decide (b.2.1=0)) (decide (c.2.1=0)) false) (decide (a.2.1=0)) false) d.1 false) f.1 false=true->qf)/\qe r b c a d f
theorem C5k (x:A7 R6.args):H4 Tryz.prog tys B7h D7m R6 Tryz.f47 x=A7j x:=by kernel_rfl
def A7t:A7 S7.args->Prop:=fun(x:MM×Unit)=>(sel (decide ((30:Int)<(x.1.2.2.length:Int))) true (decide (30<x.1.2.1))=true->false=decide (x.1.2.2.length<=(30:Nat)/\x.1.2.1<=30/\∀(v:List EE),v∈x.1.2.2->v.length<=(60:Nat)))/\(sel (decide ((30:Int)<(x.1.2.2.length:Int))) true (decide (30<x.1.2.1))=false->∃(I:Int×Unit->Prop),∃(μ:Int×Unit->Nat),I ((0:Int),())/\∀(p:Int×Unit),D5 p.1/\True->I p->(decide (p.1<(x.1.2.2.length:Int))=true->(0<=p.1/\p.1<(x.1.2.2.length:Int))/\(decide ((60:Int)<(↑(gx [] x.1.2.2 p.1).length:Int))=true->false=decide (x.1.2.2.length<=(30:Nat)/\x.1.2.1<=30/\∀(v:List EE),v∈x.1.2.2->v.length<=(60:Nat)))/\(decide ((60:Int)<(↑(gx [] x.1.2.2 p.1).length:Int))=false->I (IntKind.i64.wrap (p.1+1),())/\μ (IntKind.i64.wrap (p.1+1),())<μ p))/\(decide (p.1<(x.1.2.2.length:Int))=false->true=decide (x.1.2.2.length<=(30:Nat)/\x.1.2.1<=30/\∀(v:List EE),v∈x.1.2.2->v.length<=(60:Nat))))
theorem C8i (x:A7 S7.args):H4 Tryz.prog tys B7v D7f S7 Tryz.f59 x=A7t x:=by kernel_rfl
def B0m:A7 W0.args->Prop:=fun(x:MM×Int×MM×Int×Unit)=>(decide (x.2.1=x.2.2.2.1)=true->okM K1 x.1)/\∀(r:Bool×Unit),(decide (x.2.1=x.2.2.2.1)=true->(True/\True)/\(r.1=true↔x.1=x.2.2.1/\∀(v:List EE),v∈x.1.2.2->∀(e:EE),e∈v->e.2=rc (rv e.2)))->(sel (decide (x.2.1=x.2.2.2.1)) r.1 false=true↔x.2.1=x.2.2.2.1/\x.1=x.2.2.1/\∀(v:List EE),v∈x.1.2.2->∀(e:EE),e∈v->e.2=rc (rv e.2))
theorem D0h (x:A7 W0.args):H4 Tryz.prog tys C2w E1g W0 Tryz.f48 x=B0m x:=by kernel_rfl
def A7w:A7 R5.args->Prop:=fun(x:MM×List QQ×Int×Int×Unit)=>okM K1 x.1/\∀(r:MM×Int×Unit),WfM r.1/\D5 r.2.1/\True->(¬A5 x.1->r.1=zm/\r.2.1=1)/\(A5 x.1->isM (Int.toNat x.1.2.1) (Int.toNat x.1.1) (fun(i j:Nat)=>el x.1 j i) r.1/\r.2.1=0)->okM K1 x.1/\∀(p:MM×Int×Unit),WfM p.1/\D5 p.2.1/\True->(¬A5 x.1->p.1=zm/\p.2.1=1)/\(A5 x.1->isM (Int.toNat x.1.2.1) (Int.toNat x.1.1) (fun(i j:Nat)=>el x.1 j i) p.1/\p.2.1=0)->(okM K0 x.1/\szL K0 x.2.1/\x.1.2.1<=1000)/\∀(a:List QQ×Int×Unit),WfL a.1/\D5 a.2.1/\True->(¬A5 x.1->a.1= []/\a.2.1=1)/\(A5 x.1->((x.2.1.length:Int)≠x.1.2.1->a.1= []/\a.2.1=4)/\((x.2.1.length:Int)=x.1.2.1->a.1=List.map (fun(i:Nat)=>rc (Y8 (List.length x.2.1) fun(j:Nat)=>el x.1 i j*rv (List.getD x.2.1 j zr))) (List.range (Int.toNat x.1.1))/\a.2.1=0))->(okM K0 x.1/\szL K0 x.2.1/\x.1.2.1<=1000)/\∀(b:List QQ×Int×Unit),WfL b.1/\D5 b.2.1/\True->(¬A5 x.1->b.1= []/\b.2.1=1)/\(A5 x.1->((x.2.1.length:Int)≠x.1.2.1->b.1= []/\b.2.1=4)/\((x.2.1.length:Int)=x.1.2.1->b.1=List.map (fun(i:Nat)=>rc (Y8 (List.length x.2.1) fun(j:Nat)=>el x.1 i j*rv (List.getD x.2.1 j zr))) (List.range (Int.toNat x.1.1))/\b.2.1=0))->(okM K0 x.1/\szL K0 x.2.1/\(A5 x.1->x.1.1<=1000))/\∀(c:List QQ×Int×Unit),WfL c.1/\D5 c.2.1/\True->(¬A5 x.1->c.1= []/\c.2.1=1)/\(A5 x.1->((x.2.1.length:Int)≠x.1.1->c.1= []/\c.2.1=4)/\((x.2.1.length:Int)=x.1.1->c.1=List.map (fun(j:Nat)=>rc (Y8 (List.length x.2.1) fun(i:Nat)=>el x.1 i j*rv (List.getD x.2.1 i zr))) (List.range (Int.toNat x.1.2.1))/\c.2.1=0))->(okM K0 x.1/\szL K0 x.2.1/\(A5 x.1->x.1.1<=1000))/\∀(d:List QQ×Int×Unit),WfL d.1/\D5 d.2.1/\True->(¬A5 x.1->d.1= []/\d.2.1=1)/\(A5 x.1->((x.2.1.length:Int)≠x.1.1->d.1= []/\d.2.1=4)/\((x.2.1.length:Int)=x.1.1->d.1=List.map (fun(j:Nat)=>rc (Y8 (List.length x.2.1) fun(i:Nat)=>el x.1 i j*rv (List.getD x.2.1 i zr))) (List.range (Int.toNat x.1.2.1))/\d.2.1=0))->okM K0 x.1/\∀(k:MM×Int×Unit),WfM k.1/\D5 k.2.1/\True->(¬A5 x.1->k.1=zm/\k.2.1=1)/\(A5 x.1->(¬(0<=x.2.2.1/\x.2.2.1<x.1.1/\0<=x.2.2.2.1/\x.2.2.2.1<x.1.2.1)->k.1=zm/\k.2.1=3)/\(0<=x.2.2.1/\x.2.2.1<x.1.1/\0<=x.2.2.2.1/\x.2.2.2.1<x.1.2.1->(el x.1 (Int.toNat x.2.2.1) (Int.toNat x.2.2.2.1)=(0:Rat)->k.1=zm/\k.2.1=5)/\(el x.1 (Int.toNat x.2.2.1) (Int.toNat x.2.2.2.1)≠(0:Rat)->isM (x.1.1-1).toNat (x.1.2.1-1).toNat (C8y x.1 (Int.toNat x.2.2.1) (Int.toNat x.2.2.2.1)) k.1/\k.2.1=0)))->okM K0 x.1/\∀(m:MM×Int×Unit),WfM m.1/\D5 m.2.1/\True->(¬A5 x.1->m.1=zm/\m.2.1=1)/\(A5 x.1->(¬(0<=x.2.2.1/\x.2.2.1<x.1.1/\0<=x.2.2.2.1/\x.2.2.2.1<x.1.2.1)->m.1=zm/\m.2.1=3)/\(0<=x.2.2.1/\x.2.2.1<x.1.1/\0<=x.2.2.2.1/\x.2.2.2.1<x.1.2.1->(el x.1 (Int.toNat x.2.2.1) (Int.toNat x.2.2.2.1)=(0:Rat)->m.1=zm/\m.2.1=5)/\(el x.1 (Int.toNat x.2.2.1) (Int.toNat x.2.2.2.1)≠(0:Rat)->isM (x.1.1-1).toNat (x.1.2.1-1).toNat (C8y x.1 (Int.toNat x.2.2.1) (Int.toNat x.2.2.2.1)) m.1/\m.2.1=0)))->True/\∀(f:Bool×Unit),True/\True->f.1=decide (A5 x.1)->okM K1 x.1/\∀(g:Bool×Unit),True/\True->g.1=decide (A5 x.1)->((f.1==g.1)=true->okM K1 r.1)/\∀(h:Bool×Unit),((f.1==g.1)=true->(True/\True)/\(h.1=true↔r.2.1=p.2.1/\r.1=p.1/\∀(v:List EE),v∈r.1.2.2->∀(e:EE),e∈v->e.2=rc (rv e.2)))->(sel (f.1==g.1) h.1 false=true->(∀(e:QQ),e∈a.1->sh3 e)/\∀(e:QQ),e∈b.1->sh3 e)/\∀(l:Bool×Unit),(sel (f.1==g.1) h.1 false=true->(True/\True)/\l.1=decide (a.1=b.1/\∀(e:QQ),e∈a.1->e=rc (rv e)))->(sel (sel (sel (f.1==g.1) h.1 false) l.1 false) (decide (a.2.1=b.2.1)) false=true->(∀(e:QQ),e∈c.1->sh3 e)/\∀(e:QQ),e∈d.1->sh3 e)/\∀(n:Bool×Unit),(sel (sel (sel (f.1==g.1) h.1 false) l.1 false) (decide (a.2.1=b.2.1)) false=true->(True/\True)/\n.1=decide (c.1=d.1/\∀(e:QQ),e∈c.1->e=rc (rv e)))->(sel (sel (sel (sel (sel (f.1==g.1) h.1 false) l.1 false) (decide (a.2.1=b.2.1)) false) n.1 false) (decide (c.2.1=d.2.1)) false=true->okM K1 k.1)/\∀(o:Bool×Unit),(sel (sel (sel (sel (sel (f.1==g.1) h.1 false) l.1 false) (decide (a.2.1=b.2.1)) false) n.1 false) (decide (c.2.1=d.2.1)) false=true->(True/\True)/\(o.1=true↔k.2.1=m.2.1/\k.1=m.1/\∀(v:List EE),v∈k.1.2.2->∀(e:EE),e∈v->e.2=rc (rv e.2)))->(sel (sel (sel (sel (sel (sel (f.1==g.1) h.1 false) l.1 false) (decide (a.2.1=b.2.1)) false) n.1 false) (decide (c.2.1=d.2.1)) false) o.1 false=true->okM K1 x.1)/\∀(q:QQ×Unit),(sel (sel (sel (sel (sel (sel (f.1==g.1) h.1 false) l.1 false) (decide (a.2.1=b.2.1)) false) n.1 false) (decide (c.2.1=d.2.1)) false) o.1 false=true->(WfQ q.1/\True)/\q.1=rc (if A5 x.1/\0<=x.2.2.1/\x.2.2.1<x.1.1/\0<=x.2.2.2.1/\x.2.2.2.1<x.1.2.1 then el x.1 (Int.toNat x.2.2.1) (Int.toNat x.2.2.2.1)else(0:Rat)))->(sel (sel (sel (sel (sel (sel (f.1==g.1) h.1 false) l.1 false) (decide (a.2.1=b.2.1)) false) n.1 false) (decide (c.2.1=d.2.1)) false) o.1 false=true->sh3 q.1)/\∀(s:QQ×Unit),(sel (sel (sel (sel (sel (sel (f.1==g.1) h.1 false) l.1 false) (decide (a.2.1=b.2.1)) false) n.1 false) (decide (c.2.1=d.2.1)) false) o.1 false=true->(WfQ s.1/\True)/\s.1=rc (rv q.1))->(sel (sel (sel (sel (sel (sel (f.1==g.1) h.1 false) l.1 false) (decide (a.2.1=b.2.1)) false) n.1 false) (decide (c.2.1=d.2.1)) false) o.1 false=true->okM K1 x.1)/\∀(t:QQ×Unit),(sel (sel (sel (sel (sel (sel (f.1==g.1) h.1 false) l.1 false) (decide (a.2.1=b.2.1)) false) n.1 false) (decide (c.2.1=d.2.1)) false) o.1 false=true->(WfQ t.1/\True)/\t.1=rc (if A5 x.1/\0<=x.2.2.1/\x.2.2.1<x.1.1/\0<=x.2.2.2.1/\x.2.2.2.1<x.1.2.1 then el x.1 (Int.toNat x.2.2.1) (Int.toNat x.2.2.2.1)else(0:Rat)))->(sel (sel (sel (sel (sel (sel (f.1==g.1) h.1 false) l.1 false) (decide (a.2.1=b.2.1)) false) n.1 false) (decide (c.2.1=d.2.1)) false) o.1 false=true->True)/\∀(u:Bool×Unit),(sel (sel (sel (sel (sel (sel (f.1==g.1) h.1 false) l.1 false) (decide (a.2.1=b.2.1)) false) n.1 false) (decide (c.2.1=d.2.1)) false) o.1 false=true->(True/\True)/\u.1=decide (s.1=t.1))->sel (sel (sel (sel (sel (sel (sel (f.1==g.1) h.1 false) l.1 false) (decide (a.2.1=b.2.1)) false) n.1 false) (decide (c.2.1=d.2.1)) false) o.1 false) u.1 false=true
theorem C4n (x:A7 R5.args):H4 Tryz.prog tys B7l D6k R5 Tryz.f60 x=A7w x:=by kernel_rfl
theorem G9b (k:Int):ri k=rc (k:Rat):=by
 unfold ri rc;rw[Rat.num_intCast,Rat.den_intCast,C8w]
theorem D0u (x:A7 V5.args) (hw:awf V5.args x) (hp:V5.pre x):B0a x:=by
 obtain⟨L,_⟩:=x;change List (List Int)at L;obtain⟨hne,hl,hr⟩:L≠ []/\L.length<=10/\∀l∈L,l.length=(L.getD 0 []).length/\l.length<=10/\∀v∈l,v.natAbs<4294967296:=hp;have hpos:0<L.length:=List.length_pos_iff.2 hne;have h0:gx [] L 0=L.getD 0 []:=W9 (Int.le_refl _) (by omega)
 let G:Nat->List L5:=fun i=>(L.getD i []).map ri
 simp only[B0a];refine⟨fun p=>0<=p.2.1/\p.2.1<=(L.length:Int)/\p.1=(List.range p.2.1.toNat).map G,fun p=>((L.length:Int)-p.2.1).toNat,⟨Int.le_refl _,by show(0:Int)<= _;omega,rfl⟩, ?_⟩;rintro⟨o,k,_⟩ _ ⟨k0,k1,ho⟩;change Int at k;change List (List L5)at o;simp only at k0 k1 ho⊢;refine⟨fun h=> ?_,fun h=> ?_⟩
 . have h:=of_decide_eq_true h;have hm:=hr _ (L3 (d:=([]:List Int)) k0 h);have hG:G k.toNat=(gx [] L k).map ri:=by show(L.getD k.toNat []).map ri= _;rw[W9 k0 h]
   refine⟨⟨k0,h⟩, ?_⟩;generalize gx [] L k=l at hm hG⊢;refine⟨fun p=>0<=p.2.1/\p.2.1<=(l.length:Int)/\p.1=(l.take p.2.1.toNat).map ri,fun p=>((l.length:Int)-p.2.1).toNat,⟨Int.le_refl _,by simp,rfl⟩, ?_⟩;rintro⟨u,j,_⟩ _ ⟨j0,j1,hu⟩;change Int at j;change List L5 at u;simp only at j0 j1 hu⊢;refine⟨fun h2=> ?_,fun h2=> ?_⟩
   . have h2:=of_decide_eq_true h2;refine⟨⟨j0,h2⟩,trivial, ?_⟩;rintro⟨q,_⟩ _ hq;simp only at hq⊢;have hul:u.length=j.toNat:=by rw[hu];simp;omega
     rw[wr (by omega) (by omega)];refine⟨⟨by rw[List.length_singleton];omega,by rw[List.length_singleton];omega⟩,⟨by omega,by omega, ?_⟩,by omega⟩;rw[show(j+1).toNat=j.toNat+1 from by omega,List.take_add_one,K5 (d:=(0:Int)) j0 h2,List.map_append,hu,hq];rfl
   . have h2:=of_decide_eq_false h2;rw[D7 (by omega)]at hu;have hol:o.length=k.toNat:=by rw[ho];simp
     rw[wr (by omega) (by omega)];refine⟨⟨by rw[List.length_singleton];omega,by rw[List.length_singleton];omega⟩,⟨by omega,by omega, ?_⟩,by omega⟩;rw[E4k G k0, <-ho,hG,hu]
 . have h:=of_decide_eq_false h;have hol:o.length=L.length:=by rw[ho];simp;omega
   have hat:∀i,i<L.length->o.getD i []=G i:=fun i hi=>by
    rw[ho,List.getD_eq_getElem?_getD,List.getElem?_map,List.getElem?_range (by omega)];rfl
   have hc:=hr _ (E7 (d:=([]:List Int)) hpos);have hval:∀i j,i<L.length->j<(L.getD 0 []).length->rv ((o.getD i []).getD j zr)=(((L.getD i []).getD j 0:Int):Rat):=fun i j hi hj=>by
    have h5:=(hr _ (E7 (d:=([]:List Int)) hi)).1;rw[hat i hi];show rv (List.getD (List.map ri _) j zr)= _;have e1:=List.getElem?_eq_getElem (l:=L.getD i []) (i:=j) (by omega);rw[List.getD_eq_getElem?_getD,List.getElem?_map,List.getD_eq_getElem?_getD (l:=L.getD i []),e1];show rv (ri _)= _;rw[G9b,U4];rfl
   refine⟨⟨Int.le_refl _,by omega⟩,⟨fun v hv=> ?_,by omega,by rw[h0];omega,by omega⟩, ?_⟩
   . rw[ho]at hv;obtain⟨i,hi,rfl⟩:=List.mem_map.1 hv;rw[List.mem_range]at hi;have h5:=hr _ (E7 (d:=([]:List Int)) (i:=i) (l:=L) (by omega));refine⟨fun e he=> ?_,by rw[h0];show((List.map ri _).length:Int)= _;rw[List.length_map,h5.1]⟩;obtain⟨v,hv,rfl⟩:=List.mem_map.1 he;rw[G9b];exact F1e ⟨_,G4c (h5.2.2 v hv),rfl⟩ (by decide)
   . rintro⟨m,_⟩ _ hm;simp only at hm⊢;rw[hol,h0,Int.toNat_natCast]at hm;exact A8q hm hval
theorem C6b (x:A7 S7.args) (hw:awf S7.args x) (hp:S7.pre x):A7t x:=by
 obtain⟨⟨R,C,D⟩,_⟩:=x;have hD:D.length<=9223372036854775807:=hw.1.2.2.1;change Int at R C;change List (List Ent)at D;simp only[A7t];rw[Q0];refine⟨fun h=> ?_,fun h=> ?_⟩
 . refine(decide_eq_false fun hv=> ?_).symm;simp only[Bool.or_eq_true,decide_eq_true_eq]at h;omega
 . simp only[Bool.or_eq_false_iff,decide_eq_false_iff_not]at h;refine⟨fun p=>0<=p.1/\∀v∈D.take p.1.toNat,v.length<=60,fun p=>((D.length:Int)-p.1).toNat,⟨Int.le_refl _,by simp⟩, ?_⟩;rintro⟨i,_⟩ _ ⟨h0,h1⟩;change Int at i;simp only at h0 h1⊢;refine⟨fun hi=> ?_,fun hi=> ?_⟩
   . have hi:=of_decide_eq_true hi;have hme:=L3 (d:=([]:List Ent)) h0 hi;refine⟨⟨h0,hi⟩,fun h2=> ?_,fun h2=> ?_⟩
     . refine(decide_eq_false fun hv=> ?_).symm;have h2:=of_decide_eq_true h2;have:=hv.2.2 _ hme;omega
     . have h2:=of_decide_eq_false h2;rw[wr (by omega) (by omega)];exact⟨⟨by omega,A2r (d:=([]:List Ent)) (q:=fun v=>v.length<=60) h0 hi h1 (by omega)⟩,by omega⟩
   . have hi:=of_decide_eq_false hi;rw[D7 (by omega)]at h1;exact(decide_eq_true (⟨by omega,by omega,h1⟩: _ /\ _)).symm
theorem D1b (x:A7 W0.args) (hw:awf W0.args x) (hp:W0.pre x):B0m x:=by
 obtain⟨m,c,m',c',_⟩:=x;change Int at c c';simp only[B0m];refine⟨fun _=>hp, ?_⟩;rintro⟨r,_⟩ hr;simp only at hr⊢;rw[S9];by_cases h:c=c'
 . rw[decide_eq_true h];have hr:=(hr (decide_eq_true h)).2;rw[Bool.true_and,hr];exact⟨fun h2=>⟨h,h2⟩,fun h2=>h2.2⟩
 . rw[decide_eq_false h];exact⟨fun h2=>(by cases h2),fun h2=>absurd h2.1 h⟩
theorem C0p {R C:Nat} {f:Nat->Nat->Rat} {m:A8b} (h:isM R C f m):∀v∈m.2.2,∀e∈v,e.2=rc (rv e.2):=fun v hv e he=>by
 obtain⟨i,hi,rfl⟩:=C4a [] hv;exact((h.2.2.2 i (by rw[<-h.2.2.1];exact hi)).1.2 e he).2
theorem B9d {R C k:Nat} {f:Nat->Nat->Rat} {m:A8b} (h:isM R C f m) (hk:1<=k) (hf:∀i j,i<R->j<C->∃v:Int,f i j=(v:Rat)/\v.natAbs<4294967296):okM k m:=F3f h hk fun i j hi hj=>by
 obtain⟨v,e,hv⟩:=hf i j hi hj;rw[e];exact B2s (G4c hv) hk
theorem B8s {L:List (List Int)} (h:∀l∈L,∀v∈l,v.natAbs<4294967296) (i j:Nat):∃v:Int,(((L.getD i []).getD j 0:Int):Rat)=(v:Rat)/\v.natAbs<4294967296:=by
 refine⟨_,rfl, ?_⟩;by_cases hi:i<L.length
 . by_cases hj:j<(L.getD i []).length
   . exact h _ (E7 hi) _ (E7 hj)
   . rw[List.getD_eq_getElem?_getD (l:=L.getD i []),List.getElem?_eq_none (by omega)];decide
 . rw[List.getD_eq_getElem?_getD (l:=L),List.getElem?_eq_none (by omega)];simp
theorem F7q:(5:Rat)-4*1/2=3:=by decide+kernel
theorem F4c:(0:Rat)+1*3+2*4=11:=by decide+kernel
theorem C5o (x:A7 R6.args) (hw:awf R6.args x) (hp:R6.pre x):A7j x:=by
 simp only[A7j,qe,qf];refine⟨by decide, ?_⟩;rintro⟨A,_⟩ _ hA;simp only at hA⊢;have vA:=B4z hA (by decide) (by decide);refine⟨B9d hA (by decide) fun i j _ _=>B8s (by decide) i j, ?_⟩;rintro⟨P,c1,_⟩ _ ⟨_,hP⟩;change Int at c1;simp only at hP⊢;have A1:A.1=2:=hA.1;have A2:A.2.1=2:=hA.2.1;have hP:=(hP vA).2 (by rw[A1,A2];decide);have el00:el A 0 0=2:=B7e hA (by decide) (by decide);have el01:el A 0 1=1:=B7e hA (by decide) (by decide);have el10:el A 1 0=4:=B7e hA (by decide) (by decide);have el11:el A 1 1=5:=B7e hA (by decide) (by decide);obtain⟨hP2,rfl⟩:=hP.2 (by show el A 0 0≠0;rw[el00];decide);clear hP;rw[A1,A2]at hP2;have hP:isM 1 1 (fun i j=>(((([[3]]:List (List Int)).getD i []).getD j 0:Int):Rat)) P:=A8q hP2 fun i j hi hj=>by
  have:i=0:=by omega
  subst this;have:j=0:=by have:j<1:=hj;omega
  subst this;show el A 1 1-el A 1 0*el A 0 1/el A 0 0=3;rw[el00,el01,el10,el11];exact F7q
 refine⟨by decide, ?_⟩;rintro⟨B,_⟩ _ hB;simp only at hB⊢;have vB:=B4z hB (by decide) (by decide);refine⟨by decide, ?_⟩;rintro⟨C,_⟩ _ hC;simp only at hC⊢;have vC:=B4z hC (by decide) (by decide);have B1:B.1=1:=hB.1;have B2:B.2.1=2:=hB.2.1;have C1:C.1=2:=hC.1;have C2:C.2.1=1:=hC.2.1;refine⟨⟨B9d hB (by decide) fun i j _ _=>B8s (by decide) i j,B9d hC (by decide) fun i j _ _=>B8s (by decide) i j,by rw[B2];decide⟩, ?_⟩;rintro⟨Q,c2,_⟩ _ ⟨_,hQ⟩;change Int at c2;simp only at hQ⊢;obtain⟨hQ2,rfl⟩:=(hQ ⟨vB,vC⟩).2 (by rw[B2,C1]);clear hQ;rw[B1,B2,C2]at hQ2;have hQ:isM 1 1 (fun i j=>(((([[11]]:List (List Int)).getD i []).getD j 0:Int):Rat)) Q:=A8q hQ2 fun i j hi hj=>by
  have:i=0:=by have:i<1:=hi;omega
  subst this;have:j=0:=by have:j<1:=hj;omega
  subst this;have b0:el B 0 0=1:=B7e hB (by decide) (by decide);have b1:el B 0 1=2:=B7e hB (by decide) (by decide);have d0:el C 0 0=3:=B7e hC (by decide) (by decide);have d1:el C 1 0=4:=B7e hC (by decide) (by decide);show(0:Rat)+el B 0 0*el C 0 0+el B 0 1*el C 1 0=11;rw[b0,b1,d0,d1];exact F4c
 refine⟨by decide, ?_⟩;rintro⟨D,_⟩ _ hD;simp only at hD⊢;have vD:=B4z hD (by decide) (by decide);have D1:D.1=2:=hD.1;have D2:D.2.1=2:=hD.2.1;refine⟨⟨B9d hD (by decide) fun i j _ _=>B8s (by decide) i j,by decide,by decide,by decide⟩, ?_⟩;rintro⟨S,c3,_⟩ _ ⟨_,hS⟩;change Int at c3;simp only at hS⊢;have hS:=(hS vD).2 (by rw[D1,D2];decide);obtain⟨hS2,rfl⟩:=hS.2 (by decide);clear hS;have hS:isM 2 1 (fun i j=>(((([[3],[3]]:List (List Int)).getD i []).getD j 0:Int):Rat)) S:=A8q hS2 fun i j hi hj=>by
  have:j=0:=by have:j<1:=hj;omega
  subst this;have d0:el D 1 0=3:=B7e hD (by decide) (by decide);have hi:i<2:=hi;rcases(by omega:i=0\/i=1)with rfl|rfl
  . exact d0
  . exact d0
 refine⟨fun _=>by decide, ?_⟩;rintro⟨P',_⟩ hP';simp only at hP'⊢;have hP':=(hP' rfl).2;refine⟨fun _=>B9d hP (by decide) fun i j _ _=>B8s (by decide) i j, ?_⟩;rintro⟨b1,_⟩ hb1;simp only at hb1⊢;have hb1:b1=true:=(hb1 rfl).2.2 ⟨E1z hP hP' fun _ _ _ _=>rfl,C0p hP⟩;subst hb1;refine⟨fun _=>by decide, ?_⟩;rintro⟨Q',_⟩ hQ';simp only at hQ'⊢;have hQ':=(hQ' rfl).2;refine⟨fun _=>B9d hQ (by decide) fun i j _ _=>B8s (by decide) i j, ?_⟩;rintro⟨b2,_⟩ hb2;simp only at hb2⊢;have hb2:b2=true:=(hb2 rfl).2.2 ⟨E1z hQ hQ' fun _ _ _ _=>rfl,C0p hQ⟩;subst hb2;have key:∀(S':A8b),isM 2 1 (fun i j=>(((([[3],[3]]:List (List Int)).getD i []).getD j 0:Int):Rat)) S'->∀b3:Bool,(b3=true↔S=S'/\∀v∈S.2.2,∀e∈v,e.2=rc (rv e.2))->b3=true:=fun S' hS' b3 hb=>hb.2 ⟨E1z hS hS' fun _ _ _ _=>rfl,C0p hS⟩
 have kS:okM K1 S:=B9d hS (by decide) fun i j _ _=>B8s (by decide) i j
 refine⟨⟨fun _=>by decide, ?_⟩,fun _=>by decide, ?_⟩
 . rintro⟨S',_⟩ hS';simp only at hS'⊢;refine⟨fun _=>kS, ?_⟩;rintro⟨b3,_⟩ hb3;simp only at hb3⊢;rw[key S' (hS' rfl).2 b3 (hb3 rfl).2];rfl
 . rintro⟨S',_⟩ hS';simp only at hS'⊢;refine⟨fun _=>kS, ?_⟩;rintro⟨b3,_⟩ hb3;simp only at hb3⊢;rw[key S' (hS' rfl).2 b3 (hb3 rfl).2];rfl
def G7t (k:Nat) (a b:A8b) (c d:Int):Prop:=a=b/\c=d/\(∀v∈a.2.2,∀e∈v,e.2=rc (rv e.2))/\okM k a
theorem E2u {k:Nat} {a b:A8b} {c d e:Int} (h1:a=zm/\c=e) (h2:b=zm/\d=e):G7t k a b c d:=by
 obtain⟨rfl,rfl⟩:=h1;obtain⟨rfl,rfl⟩:=h2;exact⟨rfl,rfl,fun _ h=>(by cases h),fun _ h=>(by cases h)⟩
theorem F1m {k R C:Nat} {f g:Nat->Nat->Rat} {a b:A8b} {c d e:Int} (h1:isM R C f a/\c=e) (h2:isM R C g b/\d=e) (hfg:∀i j,i<R->j<C->f i j=g i j) (hk:1<=k) (hf:∀i j,i<R->j<C->qs k (f i j)):G7t k a b c d:=
 ⟨E1z h1.1 h2.1 hfg,h1.2.trans h2.2.symm,C0p h1.1,F3f h1.1 hk hf⟩
def TRr (m a:A8b) (c:Int):Prop:=(¬A5 m->a=zm/\c=1)/\(A5 m->isM m.2.1.toNat m.1.toNat (fun i j=>el m j i) a/\c=0)
theorem G6l {k:Nat} {m a b:A8b} {c d:Int} (hl:E0x m) (hs:okM k m) (hk:1<=k) (h1:TRr m a c) (h2:TRr m b d):G7t k a b c d:=by
 by_cases hv:A5 m
 . exact F1m (h1.2 hv) (h2.2 hv) (fun _ _ _ _=>rfl) hk fun i j _ _=>D0v hv hl hs hk j i
 . exact E2u (h1.1 hv) (h2.1 hv)
def PVr (m:A8b) (i j:Int) (a:A8b) (c:Int):Prop:=(¬A5 m->a=zm/\c=1)/\(A5 m->(¬(0<=i/\i<m.1/\0<=j/\j<m.2.1)->a=zm/\c=3)/\(0<=i/\i<m.1/\0<=j/\j<m.2.1->(el m i.toNat j.toNat=0->a=zm/\c=5)/\(el m i.toNat j.toNat≠0->isM (m.1-1).toNat (m.2.1-1).toNat (C8y m i.toNat j.toNat) a/\c=0)))
theorem G5i {k:Nat} {m:A8b} (hl:E0x m) (hs:okM k m) (hk:1<=k) (hv:A5 m) (i j a b:Nat):qs (4*k+1) (C8y m i j a b):=by
 unfold C8y;exact B2s (G4i (D0v hv hl hs hk _ _) (F8z (A2n (D0v hv hl hs hk _ _) (D0v hv hl hs hk _ _)) (D0v hv hl hs hk _ _))) (by omega)
theorem G5o {k:Nat} {m a b:A8b} {i j c d:Int} (hl:E0x m) (hs:okM k m) (hk:1<=k) (h1:PVr m i j a c) (h2:PVr m i j b d):G7t (4*k+1) a b c d:=by
 by_cases hv:A5 m
 . have h1:=h1.2 hv;have h2:=h2.2 hv;by_cases hi:0<=i/\i<m.1/\0<=j/\j<m.2.1
   . have h1:=h1.2 hi;have h2:=h2.2 hi;by_cases he:el m i.toNat j.toNat=0
     . exact E2u (h1.1 he) (h2.1 he)
     . exact F1m (h1.2 he) (h2.2 he) (fun _ _ _ _=>rfl) (by omega) fun a b _ _=>G5i hl hs hk hv _ _ a b
   . exact E2u (h1.1 hi) (h2.1 hi)
 . exact E2u (h1.1 hv) (h2.1 hv)
def F4q (k:Nat) (a b:List L5) (c d:Int):Prop:=a=b/\c=d/\(∀e∈a,e=rc (rv e))/\szL k a
theorem C1c {k:Nat} {a b:List L5} {c d e:Int} (h1:a= []/\c=e) (h2:b= []/\d=e):F4q k a b c d:=by
 obtain⟨rfl,rfl⟩:=h1;obtain⟨rfl,rfl⟩:=h2;exact⟨rfl,rfl,fun _ h=>(by cases h),fun _ h=>(by cases h)⟩
theorem E4y {k n:Nat} {f:Nat->Rat} {a b:List L5} {c d e:Int} (h1:a=(List.range n).map (fun i=>rc (f i))/\c=e) (h2:b=(List.range n).map (fun i=>rc (f i))/\d=e) (hf:∀i,i<n->qs k (f i)):F4q k a b c d:=by
 obtain⟨rfl,rfl⟩:=h1;obtain⟨rfl,rfl⟩:=h2;refine⟨rfl,rfl,fun x hx=> ?_,fun x hx=> ?_⟩
 . obtain⟨i,_,rfl⟩:=List.mem_map.1 hx;rw[U4]
 . obtain⟨i,hi,rfl⟩:=List.mem_map.1 hx;exact hf i (List.mem_range.1 hi)
def APr (m:A8b) (X:List L5) (a:List L5) (c:Int):Prop:=(¬A5 m->a= []/\c=1)/\(A5 m->((X.length:Int)≠m.2.1->a= []/\c=4)/\((X.length:Int)=m.2.1->a=(List.range m.1.toNat).map (fun i=>rc (Y8 X.length fun j=>el m i j*rv (X.getD j zr)))/\c=0))
def ATr (m:A8b) (X:List L5) (a:List L5) (c:Int):Prop:=(¬A5 m->a= []/\c=1)/\(A5 m->((X.length:Int)≠m.1->a= []/\c=4)/\((X.length:Int)=m.1->a=(List.range m.2.1.toNat).map (fun j=>rc (Y8 X.length fun i=>el m i j*rv (X.getD i zr)))/\c=0))
theorem F8j {n:Nat} {X:List L5} (hlx:∀q∈X,F5s q) (hx:szL K0 X) (hX:X.length<=1000) (hn:n<=X.length) {g:Nat->Rat} (hg:∀i,qs K0 (g i)):qs 2199023255552 (Y8 n fun j=>g j*rv (X.getD j zr)):=by
 have:=F0a (n:=n) (k:=K0+K0) (f:=fun j=>g j*rv (X.getD j zr)) fun j hj=>A2n (hg j) (B2h (hlx _ (E7 (by omega))) (hx _ (E7 (by omega))) (by decide))
 refine B2s this ?_;have h7:K0+K0+1=2147483649:=by decide
 rw[h7];omega
theorem G7n {m:A8b} {X a b:List L5} {c d:Int} (hl:E0x m) (hs:okM K0 m) (hlx:∀q∈X,F5s q) (hx:szL K0 X) (hX:X.length<=1000) (h1:APr m X a c) (h2:APr m X b d):F4q 2199023255552 a b c d:=by
 by_cases hv:A5 m
 . have h1:=h1.2 hv;have h2:=h2.2 hv;by_cases hi:(X.length:Int)=m.2.1
   . exact E4y (h1.2 hi) (h2.2 hi) fun i _=>F8j hlx hx hX (Nat.le_refl _) fun j=>D0v hv hl hs (by decide) i j
   . exact C1c (h1.1 hi) (h2.1 hi)
 . exact C1c (h1.1 hv) (h2.1 hv)
theorem G6q {m:A8b} {X a b:List L5} {c d:Int} (hl:E0x m) (hs:okM K0 m) (hlx:∀q∈X,F5s q) (hx:szL K0 X) (hX:X.length<=1000) (h1:ATr m X a c) (h2:ATr m X b d):F4q 2199023255552 a b c d:=by
 by_cases hv:A5 m
 . have h1:=h1.2 hv;have h2:=h2.2 hv;by_cases hi:(X.length:Int)=m.1
   . exact E4y (h1.2 hi) (h2.2 hi) fun j _=>F8j hlx hx hX (Nat.le_refl _) fun i=>D0v hv hl hs (by decide) i j
   . exact C1c (h1.1 hi) (h2.1 hi)
 . exact C1c (h1.1 hv) (h2.1 hv)
theorem C5j (x:A7 R5.args) (hw:awf R5.args x) (hp:R5.pre x):A7w x:=by
 obtain⟨⟨R,C,D⟩,X,i,j,_⟩:=x;have hlm:E0x (R,C,D):=A7v hw.1.2.2.2;have hlx:∀q∈X,F5s q:=fun q hq=>B9k (hw.2.1.2 q hq)
 change Int at R C i j;change List (List Ent)at D;change List L5 at X;obtain⟨hs,hD,hC,hx,hX⟩:okM K0 (R,C,D)/\D.length<=1000/\C<=1000/\szL K0 X/\X.length<=1000:=hp;have hs1:=B0d hs (show K0<=K1 from by decide);have hR:A5 (R,C,D)->R<=1000:=fun hv=>by have:(D.length:Int)=R:=hv.2.2.2.2.1;omega
 simp only[A7w];refine⟨hs1, ?_⟩;rintro⟨a1,c1,_⟩ _ h1;refine⟨hs1, ?_⟩;rintro⟨a2,c2,_⟩ _ h2;have t1:G7t K1 a1 a2 c1 c2:=G6l hlm hs1 (by decide) h1 h2;refine⟨⟨hs,hx,hC⟩, ?_⟩;rintro⟨p1,d1,_⟩ _ g1;refine⟨⟨hs,hx,hC⟩, ?_⟩;rintro⟨p2,d2,_⟩ _ g2;have t2:F4q 2199023255552 p1 p2 d1 d2:=G7n hlm hs hlx hx hX g1 g2;refine⟨⟨hs,hx,hR⟩, ?_⟩;rintro⟨q1,e1,_⟩ _ f1;refine⟨⟨hs,hx,hR⟩, ?_⟩;rintro⟨q2,e2,_⟩ _ f2;have t3:F4q 2199023255552 q1 q2 e1 e2:=G6q hlm hs hlx hx hX f1 f2;refine⟨hs, ?_⟩;rintro⟨u1,s1,_⟩ _ k1;refine⟨hs, ?_⟩;rintro⟨u2,s2,_⟩ _ k2;have t4:G7t K1 u1 u2 s1 s2:=by
  have:=G5o hlm hs (by decide) k1 k2;exact⟨this.1,this.2.1,this.2.2.1,B0d this.2.2.2 (by decide)⟩
 clear h1 h2 g1 g2 f1 f2 k1 k2;refine⟨trivial, ?_⟩;rintro⟨v1,_⟩ _ hv1;refine⟨hs1, ?_⟩;rintro⟨v2,_⟩ _ hv2;simp only at hv1 hv2⊢;have hvv:(v1==v2)=true:=by rw[hv1,hv2];exact beq_self_eq_true _
 rw[hvv];refine⟨fun _=>t1.2.2.2, ?_⟩;rintro⟨b1,_⟩ hb;simp only at hb⊢;have hb:b1=true:=(hb trivial).2.2 ⟨t1.2.1,t1.1,t1.2.2.1⟩;subst hb;refine⟨fun _=>⟨fun e he=>A0c (t2.2.2.2 e he) (Nat.le_refl _),fun e he=>A0c (t2.2.2.2 e (by rw[t2.1];exact he)) (Nat.le_refl _)⟩, ?_⟩;rintro⟨b1,_⟩ hb;simp only at hb⊢;have hb:b1=true:=by rw[(hb rfl).2];exact decide_eq_true ⟨t2.1,t2.2.2.1⟩
 subst hb;have hd:decide (d1=d2)=true:=decide_eq_true t2.2.1;rw[hd];refine⟨fun _=>⟨fun e he=>A0c (t3.2.2.2 e he) (Nat.le_refl _),fun e he=>A0c (t3.2.2.2 e (by rw[t3.1];exact he)) (Nat.le_refl _)⟩, ?_⟩;rintro⟨b1,_⟩ hb;simp only at hb⊢;have hb:b1=true:=by rw[(hb rfl).2];exact decide_eq_true ⟨t3.1,t3.2.2.1⟩
 subst hb;have hd:decide (e1=e2)=true:=decide_eq_true t3.2.1;rw[hd];refine⟨fun _=>t4.2.2.2, ?_⟩;rintro⟨b1,_⟩ hb;simp only at hb⊢;have hb:b1=true:=(hb rfl).2.2 ⟨t4.2.1,t4.1,t4.2.2.1⟩;subst hb;refine⟨fun _=>hs1, ?_⟩;rintro⟨y1,_⟩ hy1;simp only at hy1⊢;have hy1:=(hy1 rfl).2;refine⟨fun _=> ?_, ?_⟩
 . rw[hy1];refine A2a (k:=K0) ?_ (by decide);split
   . next h=>exact D0v h.1 hlm hs (by decide) _ _
   . exact A7f (by decide)
 rintro⟨y2,_⟩ hy2;simp only at hy2⊢;have hy2:=(hy2 rfl).2;refine⟨fun _=>hs1, ?_⟩;rintro⟨y3,_⟩ hy3;simp only at hy3⊢;have hy3:=(hy3 rfl).2;refine⟨fun _=>trivial, ?_⟩;rintro⟨b1,_⟩ hb;simp only at hb⊢;have hb:b1=true:=by
  rw[(hb rfl).2];refine decide_eq_true ?_;rw[hy2,hy3,hy1,U4]
 rw[hb];rfl
end Go.Proofs.YtkdmjgcjpmcjjaaGreat
namespace Go.Vc
open Go Go.RowKit Go.Gw Go.Shelf
structure El (t:Ty) (w:World) (Z:Nat->Prop) where
 c:List Value
 v:t.den
 h:Rep t w Z c v
theorem F2d {t:Ty} {w:World} {Z:Nat->Prop} :∀ {l:List t.den} {xs:List Value},S8 (Rep t w Z) xs l->∃L:List (El t w Z),L.flatMap El.c=xs/\L.map El.v=l
 | [],_,h=>⟨[],h.symm,rfl⟩
 |x::l,_,⟨c1,c2,e,h1,h2⟩=>by
  obtain⟨L,i1,i2⟩:=F2d h2;exact⟨⟨c1,x,h1⟩::L,by rw[List.flatMap_cons,i1,e],by rw[List.map_cons,i2]⟩
theorem F2u {t:Ty} {w w':World} {Z Z':Nat->Prop} (hm:∀c x,Rep t w Z c x->Rep t w' Z' c x):∀L:List (El t w Z),S8 (Rep t w' Z') (L.flatMap El.c) (L.map El.v)
 | []=>rfl
 |p::L=>⟨p.c,L.flatMap El.c,rfl,hm _ _ p.h,F2u hm L⟩
theorem F1p {α:Type} {enc:α->List Value} {k:Nat} (hk:∀x,(enc x).length=k):∀(L:List α) (i r:Nat) {x:α},L[i]? =some x->r<k->(L.flatMap enc)[i*k+r]? =(enc x)[r]?
 | [],_,_,_,h,_=>by cases h
 |y::L,0,r,x,h,hr=>by
  simp only[List.getElem?_cons_zero,Option.some.injEq]at h;subst h;rw[List.flatMap_cons,Nat.zero_mul,Nat.zero_add,List.getElem?_append_left (by rw[hk];exact hr)]
 |y::L,i+1,r,x,h,hr=>by
  rw[List.getElem?_cons_succ]at h;have e:(i+1)*k+r-k=i*k+r:=by rw[Nat.succ_mul];omega
  rw[List.flatMap_cons,List.getElem?_append_right (by rw[hk,Nat.succ_mul];omega),hk,e];exact F1p hk L i r h hr
theorem F2q {α:Type} {enc:α->List Value} {k:Nat} (hk:∀x,(enc x).length=k):∀L:List α,(L.flatMap enc).length=L.length*k
 | []=>by simp
 |x::L=>by rw[List.flatMap_cons,List.length_append,F2q hk L,hk,List.length_cons,Nat.succ_mul];omega
theorem F2z {α:Type} [Inhabited α] {enc:α->List Value} {k:Nat} (hk:∀x,(enc x).length=k) (d:Array α) {j:Nat} (hj:j<d.size*k):(d.toList.flatMap enc)[j]? =some (Go.Sort.flatK enc k d)[j]!:=by
 have hk0:0<k:=by
  rcases Nat.eq_zero_or_pos k with h|h
  . rw[h,Nat.mul_zero]at hj;omega
  . exact h
 have hi:j/k<d.size:=(Nat.div_lt_iff_lt_mul hk0).2 hj;have hr:j%k<k:=Nat.mod_lt _ hk0;have e:j=j/k*k+j%k:=by rw[Nat.mul_comm];exact(Nat.div_add_mod j k).symm
 rw[Go.Sort.get_flatK enc k d j hj];have hx:d.toList[j/k]? =some d[j/k]!:=by
  rw[Array.getElem?_toList,Array.getElem?_eq_getElem hi,getElem!_pos d _ hi]
 have:=F1p hk d.toList (j/k) (j%k) hx hr;rw[<-e]at this;have hl:j%k<(enc d[j/k]!).length:=by rw[hk];exact hr
 rw[this,List.getElem?_eq_getElem hl,getElem!_pos (enc d[j/k]!) (j%k) hl]
theorem G0a {F cur:Array Value} {n:Nat} {xs:List Value} (hx:xs.length=n) (hF:F.size=n) (hn:n<=cur.size) (h:∀j,j<n->xs[j]? =some F[j]!):(Go.Sort.putCells id 0 F cur).size=cur.size/\(Go.Sort.putCells id 0 F cur).toList.take n=xs:=by
 refine⟨by simp[Go.Sort.putCells], ?_⟩;apply List.ext_getElem?;intro j;by_cases hj:j<n
 . rw[List.getElem?_take_of_lt hj,h j hj,Array.getElem?_toList];unfold Go.Sort.putCells;rw[Array.getElem?_mapIdx,Array.getElem?_eq_getElem (by omega)];simp only[Option.map_some];rw[if_pos ⟨Nat.zero_le _,by omega⟩];rfl
 . rw[List.getElem?_eq_none (by simp;omega),List.getElem?_eq_none (by omega)]
theorem G3d {α:Type} [Inhabited α] {d d':Array α} (h:Go.Sort.PermIn 0 d.size d d'):d'.toList.Perm d.toList:=by
 obtain⟨h1,_,h3⟩:=h;rw[Array.toList_extract,Array.toList_extract]at h3;simpa[List.extract_eq_take_drop,List.take_of_length_le,h1]using h3
theorem F6d {α:Type} [Inhabited α] {lt:α->α->Bool} {d':Array α} {n:Nat} (hn:d'.size=n) (h:Go.Sort.SortedIn lt 0 n d'):d'.toList.Pairwise fun a b=>lt b a=false:=by
 rw[List.pairwise_iff_getElem];intro i j hi hj hij;have hi':i<d'.size:=by simpa using hi
 have hj':j<d'.size:=by simpa using hj
 have:=h i j (Nat.zero_le _) hij (by omega);rw[getElem!_pos d' i hi',getElem!_pos d' j hj']at this;simpa using this
theorem G5q {w:World} {b m:Nat} {f:Array Value->Array Value} {os:Array Obj} :w.heap.size<=(Go.Sort.grow (Go.Sort.mapBlock (Go.Sort.ahead w m) b f) os).heap.size:=by
 simp[Go.Sort.grow,Go.Sort.mapBlock,Go.Sort.ahead]
theorem F2b {w:World} {b m j:Nat} {f:Array Value->Array Value} {os:Array Obj} (hj:j<w.heap.size) (hne:j≠b):(Go.Sort.grow (Go.Sort.mapBlock (Go.Sort.ahead w m) b f) os).heap[j]? =w.heap[j]?:=by
 rw[Go.Sort.heap_grow_old _ _ (by simpa[Go.Sort.mapBlock,Go.Sort.ahead]using hj)];unfold Go.Sort.mapBlock;simp only;rw[Array.getElem?_modify,if_neg (Ne.symm hne)];rfl
theorem G6i {w:World} {b m:Nat} {f:Array Value->Array Value} {os:Array Obj} {cur:Array Value} {e:TypeId} (hh:w.heap[b]? =some (.cells cur e (0,0))):(Go.Sort.grow (Go.Sort.mapBlock (Go.Sort.ahead w m) b f) os).heap[b]? =some (.cells (f cur) e (0,0)):=by
 have hj:b<w.heap.size:=(Array.getElem?_eq_some_iff.1 hh).1;rw[Go.Sort.heap_grow_old _ _ (by simpa[Go.Sort.mapBlock,Go.Sort.ahead]using hj)];unfold Go.Sort.mapBlock;simp only;rw[Array.getElem?_modify,if_pos rfl];have:(Go.Sort.ahead w m).heap[b]? =some (.cells cur e (0,0)):=hh;rw[this];rfl
theorem B5r {P:Program} {f:FuncId} (he:A6t P f=true) (args:Array Value) (w:World):(callFunc f args).run P w= .ok (.enter f args) w:=by
 unfold A6t at he;split at he
 . rename_i fn hfn;simp only[Bool.and_eq_true,Bool.not_eq_true']at he;have h2:¬fn.body=none:=by intro hb;rw[hb]at he;simp at he
   have h1:¬fn.name= "runtime.NumGoroutine" :=by simpa using he.1
   simp[callFunc,hfn,h1,h2,go_sem]
 . cases he
theorem G4z {α β:Type} {φ:α->α->Int} (v:β->α) (h1:∀a,¬φ a a<0) (h2:∀a b c,φ a b<0->φ b c<0->φ a c<0) (h3:∀a b c,¬φ a b<0->¬φ b c<0->¬φ a c<0):
 Go.Sort.SWO (Go.Proofs.ltOf fun x y:β=>φ (v x) (v y)):=by
 refine⟨fun x=> ?_,fun x y z h h'=> ?_,fun x y z h h'=> ?_⟩
 . exact decide_eq_false (h1 _)
 . exact decide_eq_true (h2 _ _ _ (of_decide_eq_true h) (of_decide_eq_true h'))
 . exact decide_eq_false (h3 _ _ _ (of_decide_eq_false h) (of_decide_eq_false h'))
theorem F9d {t:Ty} {φ:t.den->t.den->Int} {e:TypeId} {w w':World} {Z:Nat->Prop} {fv:Value} {g cap:Nat} {cur F:Array Value} {k:Nat} {x:List t.den} {L L':List (El t w Z)}
 (hZ:∀b,Z b->b<w.heap.size) (hgZ:¬Z g) (hk:t.size=k)
 (hheap:w.heap[g]? =some (.cells cur e (0,0))) (hcap:L.length<=cap) (hmax:cap<=maxLen) (hcs:cur.size=cap*k) (hLx:L.map El.v=x)
 (hp:L'.Perm L) (hs:L'.Pairwise fun a b=>¬φ b.v a.v<0)
 (hF:F.size=L.length*k) (hFx:∀j,j<L.length*k->(L'.flatMap El.c)[j]? =some F[j]!)
 (hos:w'.os=w.os) (htape:w'.tape=w.tape) (hout:w'.output=w.output) (hsz:w.heap.size<=w'.heap.size)
 (hblk:∀j,j<w.heap.size->j≠g->w'.heap[j]? =w.heap[j]?) (hg:w'.heap[g]? =some (.cells (Go.Sort.putCells id 0 F cur) e (0,0))):
 C4k (G4u w (A0u t e φ).args [.slice (some ⟨g,0,none⟩) L.length cap,fv]) w w'/\∃(r:A6l (A0u t e φ).res) (o:D8k (A0u t e φ).args) (us:List Value) (Zn:Nat->Prop),(A0u t e φ).post (x,()) r/\(V4 (A0u t e φ).args=true->(A0u t e φ).mpost (x,()) r o)/\Value.tuple #[]=D2t us/\(∀b,Zn b->(w.heap.size<=b/\b<w'.heap.size)\/((A0u t e φ).shared=true/\Z b))/\C4o w.heap.size w' Zn (A0u t e φ).res us r/\E4r w w' Zn (A0u t e φ).args [.slice (some ⟨g,0,none⟩) L.length cap,fv] o:=by
 have hlen:L'.length=L.length:=hp.length_eq;have hc:∀p:El t w Z,p.c.length=k:=fun p=>by rw[<-hk];exact Rep.length p.h
 have hxl:(L'.flatMap El.c).length=L.length*k:=by rw[F2q hc,hlen]
 obtain⟨p1,p2⟩:=G0a hxl hF (by rw[hcs];exact Nat.mul_le_mul_right _ hcap) hFx;have hsame:Z6 Z w w':=fun b hb=>hblk b (hZ b hb) (fun e=>hgZ (e▸hb))
 refine⟨⟨hos,htape,hout,hsz,fun j hj hm=>hblk j hj (fun ej=>hm ?_),trivial⟩,(),(L'.map El.v,()),[],Z,trivial,fun _=>⟨?_, ?_⟩,rfl,fun b hb=> .inr ⟨rfl,hb⟩,rfl, ?_⟩
 . subst ej;refine⟨(.row t e, .slice (some ⟨j,0,none⟩) L.length cap),List.mem_cons_self, ?_⟩;rfl
 . rw[<-hLx];exact hp.map _
 . exact List.pairwise_map.2 hs
 . refine⟨⟨L'.flatMap El.c,⟨?_, .inr ⟨g,cap,Go.Sort.putCells id 0 F cur, ?_,Nat.zero_le _,hg, ?_,hmax, ?_, ?_⟩⟩, ?_⟩,trivial⟩
   . simp only[List.length_map];rw[hxl,hlen,hk]
   . simp only[List.length_map,hlen]
   . simp only[List.length_map,hlen];exact hcap
   . rw[p1,hcs,hk]
   . simp only[List.length_map,hlen,hk];exact p2
   . refine F2u (fun c y hy=> ?_) L';exact Rep.mono (fun b hb=>hb) hsame hy
def G8r (P:Program) (g:FuncId) (t:Ty) (φ:t.den->t.den->Int):Prop:=
 ∀(w:World) (Z:Nat->Prop) (c1 c2:List Value) (x y:t.den),Rep t w Z c1 x->Rep t w Z c2 y->Calls P g #[.agg c1.toArray, .agg c2.toArray] w fun e w'=>e= .returned (.int .i64 (φ x y))/\∃q os,w'=Go.Sort.grow (w.drewN q) os
theorem G1s {P:Program} {ρ:Ren} (LL:Go.Proofs.SlLaysF0.n6 P ρ) {t:Ty} {e:TypeId} {g:FuncId} {φ:t.den->t.den->Int} (aE:∀w,(isAgg (ρ.t 24)).run P w= .ok true w) (zE:∀w,(Go.sizeOf (ρ.t 24)).run P w= .ok t.size w)
 (h1:∀a,¬φ a a<0) (h2:∀a b c,φ a b<0->φ b c<0->φ a c<0) (h3:∀a b c,¬φ a b<0->¬φ b c<0->¬φ a c<0) (hen:A6t P g=true) (hcm:G8r P g t φ):G0c P (ρ.f 6) g t e φ:=by
 rintro w Z v l hZ ⟨xs,hown,hea,hZv⟩ hlen;obtain⟨L,rfl,rfl⟩:=F2d hea;have hL:(L.map El.v).length=L.length:=List.length_map ..;rw[hL]at hown hlen;obtain⟨hxs,hv⟩:=hown;have hnone:∀(p:Option Addr) (cap:Nat),L= []->Gw.Ret P (ρ.f 6) [.slice p 0 cap, .func (.func g) #[] #[]] w fun u w'=>u= .tuple #[]/\w'=w:=fun p cap _=>
  Calls.mono (Go.Proofs.AnyF.slices_SortFunc_none LL p cap (.func (.func g) #[] #[]) w) fun _ _ ⟨he,hw⟩=>⟨_,he,rfl,hw⟩
 rcases hv with⟨rfl,hn⟩ | ⟨b,cap,cur,rfl,_,hheap,hcap,hmax,hcs,htake⟩
 . have hL0:L= []:=List.eq_nil_of_length_eq_zero hn;subst hL0;refine(hnone none 0 rfl).mono ?_;rintro _ _ ⟨rfl,rfl⟩;refine⟨C4k.of (Ext.refl _),(),([],()),[],(fun _=>False),trivial,fun _=>⟨List.Perm.refl _,List.Pairwise.nil⟩,rfl,fun _ hb=>hb.elim,rfl,⟨⟨[],World.ownsRow_nil _ _ _ _,rfl⟩,trivial⟩⟩
 . have hbZ:¬Z b:=hZv b rfl;have hc:∀p:El t w Z,p.c.length=t.size:=fun p=>Rep.length p.h
   have hbl:b<w.heap.size:=(Array.getElem?_eq_some_iff.1 hheap).1;rcases hL0:L with _ | ⟨p0,L0⟩
   . subst hL0;refine(hnone _ cap rfl).mono ?_;rintro _ _ ⟨rfl,rfl⟩;refine⟨C4k.of (Ext.refl _),(),([],()),[],(fun _=>False),trivial,fun _=>⟨List.Perm.refl _,List.Pairwise.nil⟩,rfl,fun _ hb=>hb.elim,rfl,⟨⟨[],⟨by simp, .inr ⟨b,cap,cur,rfl,Nat.zero_le _,hheap,hcap,hmax,hcs,by simp⟩⟩,rfl⟩,trivial⟩⟩
   . rw[<-hL0];clear hnone
     haveI:Inhabited (El t w Z):=⟨p0⟩
     have hH:Go.Sort.HoldsK El.c t.size w b 0 L.toArray:=by
      intro j hj;rw[Go.Sort.size_flatK]at hj;have hj':j<L.length*t.size:=by simpa using hj
      have h5:=F2z hc L.toArray hj;rw[Nat.zero_add];refine⟨?_, ?_⟩
      . have h6:cur[j]? =some (Go.Sort.flatK El.c t.size L.toArray)[j]!:=by
         rw[<-h5];simp only;rw[<-htake,List.getElem?_take_of_lt hj',Array.getElem?_toList]
        simp only[World.cell?,hheap];exact h6
      . simp[World.frozen?,hheap]
     have hcmp:Go.Proofs.CmpLays P g #[] El.c t.size (fun x y:El t w Z=>φ x.v y.v) b 0 L.toArray.size w:=by
      intro m os dk hdk x y;have hsame:Z6 Z w (Go.Proofs.sortWorldK El.c t.size w b 0 m dk os):=by
       intro i hi;have:i≠b:=fun e=>hbZ (e▸hi)
       exact F2b (hZ i hi) this
      exact hcm _ Z x.c y.c x.v y.v (Rep.mono (fun _ h=>h) hsame x.h) (Rep.mono (fun _ h=>h) hsame y.h)
     have hcall:=Go.Proofs.AnyQ.slices_SortFunc LL t.size aE zE El.c hc (fun x=>Rep.oneCell x.h) (fun x y:El t w Z=>φ x.v y.v) (G4z El.v h1 h2 h3) g #[] b 0 cap L.toArray w (B5r hen) hcmp hH hbl (by simp;omega);refine Calls.mono hcall ?_;rintro _ w' ⟨rfl,d',n,os,hperm,hsort,rfl⟩;refine⟨_,rfl, ?_⟩;have hp:=G3d hperm;have hs:=F6d hperm.1 hsort;have hds:d'.size=L.length:=by rw[hperm.1];simp
     refine F9d (k:=t.size) (F:=Go.Sort.flatK El.c t.size d') (L:=L) (L':=d'.toList) (cur:=cur) (x:=L.map El.v) hZ hbZ rfl hheap hcap hmax hcs rfl hp ?_ ?_ ?_ rfl rfl rfl ?_ ?_ ?_
     . exact hs.imp fun h=>of_decide_eq_false h
     . rw[Go.Sort.size_flatK,hds]
     . intro j hj;exact F2z hc d' (by rw[hds];exact hj)
     . exact G5q
     . intro i hi hne;exact F2b hi hne
     . exact G6i hheap
end Go.Vc
namespace Go.Proofs
open Go.Shelf
def Tryz.sortEnt_ren:Go.Shelf.Ren:=⟨fun|6=>112|15=>167|14=>166|28=>208|29=>209|20=>200|21=>201|22=>202|23=>203|24=>204|25=>205|26=>206|27=>207|46=>229|47=>230|48=>231|49=>232|50=>233|57=>244|n=>n,fun|22=>92|24=>94|25=>142|3=>3|39=>176|0=>0|53=>153|55=>144|4=>4|46=>194|45=>193|50=>198|5=>5|9=>9|66=>217|70=>221|76=>231|77=>232|n=>n,fun|n=>n⟩
theorem Tryz.sortEnt:Go.Proofs.SlLaysF0.n6 Tryz.prog Tryz.sortEnt_ren:= {
 mixed:=by kernel_rfl
 f6:=⟨Tryz.f112.name,by decide,Tryz.func112.trans (congrArg some (by kernel_rfl))⟩
 f14:=⟨Tryz.f166.name,by decide,Tryz.func166.trans (congrArg some (by kernel_rfl))⟩
 f15:=Tryz.func167.trans (congrArg some (by kernel_rfl))
 f20:=⟨Tryz.f200.name,by decide,Tryz.func200.trans (congrArg some (by kernel_rfl))⟩
 f21:=⟨Tryz.f201.name,by decide,Tryz.func201.trans (congrArg some (by kernel_rfl))⟩
 f22:=⟨Tryz.f202.name,by decide,Tryz.func202.trans (congrArg some (by kernel_rfl))⟩
 f23:=⟨Tryz.f203.name,by decide,Tryz.func203.trans (congrArg some (by kernel_rfl))⟩
 f24:=⟨Tryz.f204.name,by decide,Tryz.func204.trans (congrArg some (by kernel_rfl))⟩
 f25:=⟨Tryz.f205.name,by decide,Tryz.func205.trans (congrArg some (by kernel_rfl))⟩
 f26:=⟨Tryz.f206.name,by decide,Tryz.func206.trans (congrArg some (by kernel_rfl))⟩
 f27:=⟨Tryz.f207.name,by decide,Tryz.func207.trans (congrArg some (by kernel_rfl))⟩
 f28:=Tryz.func208.trans (congrArg some (by kernel_rfl))
 f29:=Tryz.func209.trans (congrArg some (by kernel_rfl))
 f46:=⟨Tryz.f229.name,by decide,Tryz.func229.trans (congrArg some (by kernel_rfl))⟩
 f47:=Tryz.func230.trans (congrArg some (by kernel_rfl))
 f48:=Tryz.func231.trans (congrArg some (by kernel_rfl))
 f49:=⟨Tryz.f232.name,by decide,Tryz.func232.trans (congrArg some (by kernel_rfl))⟩
 f50:=⟨Tryz.f233.name,by decide,Tryz.func233.trans (congrArg some (by kernel_rfl))⟩
 f57:=⟨Tryz.f244.name,by decide,Tryz.func244.trans (congrArg some (by kernel_rfl))⟩
 t0:=Tryz.underlying0
 a0:=Tryz.isAgg0
 z0:=Tryz.sizeOf0
 v0:=Tryz.zeroValue0
 t3:=Tryz.underlying3
 a3:=Tryz.isAgg3
 z3:=Tryz.sizeOf3
 v3:=Tryz.zeroValue3
 t4:=Tryz.underlying4
 a4:=Tryz.isAgg4
 z4:=Tryz.sizeOf4
 v4:=Tryz.zeroValue4
 t5:=Tryz.underlying5
 a5:=Tryz.isAgg5
 z5:=Tryz.sizeOf5
 v5:=Tryz.zeroValue5
 t9:=Tryz.underlying9
 a9:=Tryz.isAgg9
 z9:=Tryz.sizeOf9
 v9:=Tryz.zeroValue9
 t22:=Tryz.underlying92
 a22:=Tryz.isAgg92
 z22:=Tryz.sizeOf92
 v22:=Tryz.zeroValue92
 t25:=Tryz.underlying142
 a25:=Tryz.isAgg142
 z25:=Tryz.sizeOf142
 v25:=Tryz.zeroValue142
 t39:=Tryz.underlying176
 a39:=Tryz.isAgg176
 z39:=Tryz.sizeOf176
 v39:=Tryz.zeroValue176
 t45:=Tryz.underlying193
 a45:=Tryz.isAgg193
 z45:=Tryz.sizeOf193
 v45:=Tryz.zeroValue193
 t46:=Tryz.underlying194
 a46:=Tryz.isAgg194
 z46:=Tryz.sizeOf194
 v46:=Tryz.zeroValue194
 t50:=Tryz.underlying198
 a50:=Tryz.isAgg198
 z50:=Tryz.sizeOf198
 v50:=Tryz.zeroValue198
 t53:=Tryz.underlying153
 a53:=Tryz.isAgg153
 z53:=Tryz.sizeOf153
 v53:=Tryz.zeroValue153
 t55:=Tryz.underlying144
 a55:=Tryz.isAgg144
 z55:=Tryz.sizeOf144
 v55:=Tryz.zeroValue144
 t66:=Tryz.underlying217
 a66:=Tryz.isAgg217
 z66:=Tryz.sizeOf217
 v66:=Tryz.zeroValue217
 t70:=Tryz.underlying221
 a70:=Tryz.isAgg221
 z70:=Tryz.sizeOf221
 v70:=Tryz.zeroValue221
 t76:=Tryz.underlying231
 a76:=Tryz.isAgg231
 z76:=Tryz.sizeOf231
 v76:=Tryz.zeroValue231
 t77:=Tryz.underlying232
 a77:=Tryz.isAgg232
 z77:=Tryz.sizeOf232
 v77:=Tryz.zeroValue232}
def Tryz.sortedInt_ren:Go.Shelf.Ren:=⟨fun|6=>174|8=>213|9=>214|11=>235|13=>167|12=>236|23=>208|24=>209|14=>246|15=>247|16=>248|17=>249|18=>250|19=>251|20=>252|21=>253|22=>254|25=>257|26=>230|27=>231|28=>258|29=>259|30=>168|31=>261|n=>n,fun|26=>3|28=>182|24=>25|0=>0|3=>3|37=>176|48=>153|50=>144|4=>4|40=>194|39=>193|45=>198|5=>5|9=>9|51=>217|55=>221|57=>231|58=>232|33=>137|n=>n,fun|n=>n⟩
theorem Tryz.sortedInt:Go.Proofs.SlLaysZI.n6 Tryz.prog Tryz.sortedInt_ren:= {
 mixed:=by kernel_rfl
 f6:=⟨Tryz.f174.name,by decide,Tryz.func174.trans (congrArg some (by kernel_rfl))⟩
 f8:=⟨Tryz.f213.name,by decide,Tryz.func213.trans (congrArg some (by kernel_rfl))⟩
 f11:=⟨Tryz.f235.name,by decide,Tryz.func235.trans (congrArg some (by kernel_rfl))⟩
 t0:=Tryz.underlying0
 a0:=Tryz.isAgg0
 z0:=Tryz.sizeOf0
 v0:=Tryz.zeroValue0
 t24:=Tryz.underlying25
 a24:=Tryz.isAgg25
 z24:=Tryz.sizeOf25
 v24:=Tryz.zeroValue25
 t26:=Tryz.underlying3
 a26:=Tryz.isAgg3
 z26:=Tryz.sizeOf3
 v26:=Tryz.zeroValue3
 t28:=Tryz.underlying182
 a28:=Tryz.isAgg182
 z28:=Tryz.sizeOf182
 v28:=Tryz.zeroValue182
 i26:=by kernel_rfl}
def Tryz.keysGo_ren:Go.Shelf.Ren:=⟨fun|10=>215|n=>n,fun|33=>137|23=>179|0=>0|4=>4|26=>3|3=>31|n=>n,fun|n=>n⟩
theorem Tryz.keysGo:Go.Proofs.SlLaysZI.n10 Tryz.prog Tryz.keysGo_ren:= {
 mixed:=by kernel_rfl
 f10:=⟨Tryz.f215.name,by decide,Tryz.func215.trans (congrArg some (by kernel_rfl))⟩
 t0:=Tryz.underlying0
 a0:=Tryz.isAgg0
 z0:=Tryz.sizeOf0
 v0:=Tryz.zeroValue0
 t4:=Tryz.underlying4
 a4:=Tryz.isAgg4
 z4:=Tryz.sizeOf4
 v4:=Tryz.zeroValue4
 t23:=Tryz.underlying179
 a23:=Tryz.isAgg179
 z23:=Tryz.sizeOf179
 v23:=Tryz.zeroValue179
 t26:=Tryz.underlying3
 a26:=Tryz.isAgg3
 z26:=Tryz.sizeOf3
 v26:=Tryz.zeroValue3
 t33:=Tryz.underlying137
 a33:=Tryz.isAgg137
 z33:=Tryz.sizeOf137
 v33:=Tryz.zeroValue137}
def Tryz.sortInt_ren:Go.Shelf.Ren:=⟨fun|5=>214|8=>167|7=>236|19=>208|20=>209|10=>246|11=>247|12=>248|13=>249|14=>250|15=>251|16=>252|17=>253|18=>254|30=>257|31=>230|32=>231|33=>258|34=>259|35=>168|40=>261|n=>n,fun|23=>25|25=>3|3=>3|32=>176|22=>25|0=>0|44=>153|46=>144|4=>4|36=>194|35=>193|41=>198|5=>5|9=>9|53=>217|57=>221|63=>231|64=>232|n=>n,fun|n=>n⟩
theorem Tryz.sortInt:Go.Proofs.SlLaysM.n5 Tryz.prog Tryz.sortInt_ren:= {
 mixed:=by kernel_rfl
 f5:=⟨Tryz.f214.name,by decide,Tryz.func214.trans (congrArg some (by kernel_rfl))⟩
 f7:=⟨Tryz.f236.name,by decide,Tryz.func236.trans (congrArg some (by kernel_rfl))⟩
 f8:=Tryz.func167.trans (congrArg some (by kernel_rfl))
 f10:=⟨Tryz.f246.name,by decide,Tryz.func246.trans (congrArg some (by kernel_rfl))⟩
 f11:=⟨Tryz.f247.name,by decide,Tryz.func247.trans (congrArg some (by kernel_rfl))⟩
 f12:=⟨Tryz.f248.name,by decide,Tryz.func248.trans (congrArg some (by kernel_rfl))⟩
 f13:=⟨Tryz.f249.name,by decide,Tryz.func249.trans (congrArg some (by kernel_rfl))⟩
 f14:=⟨Tryz.f250.name,by decide,Tryz.func250.trans (congrArg some (by kernel_rfl))⟩
 f15:=⟨Tryz.f251.name,by decide,Tryz.func251.trans (congrArg some (by kernel_rfl))⟩
 f16:=⟨Tryz.f252.name,by decide,Tryz.func252.trans (congrArg some (by kernel_rfl))⟩
 f17:=⟨Tryz.f253.name,by decide,Tryz.func253.trans (congrArg some (by kernel_rfl))⟩
 f18:=⟨Tryz.f254.name,by decide,Tryz.func254.trans (congrArg some (by kernel_rfl))⟩
 f19:=Tryz.func208.trans (congrArg some (by kernel_rfl))
 f20:=Tryz.func209.trans (congrArg some (by kernel_rfl))
 f30:=⟨Tryz.f257.name,by decide,Tryz.func257.trans (congrArg some (by kernel_rfl))⟩
 f31:=Tryz.func230.trans (congrArg some (by kernel_rfl))
 f32:=Tryz.func231.trans (congrArg some (by kernel_rfl))
 f33:=⟨Tryz.f258.name,by decide,Tryz.func258.trans (congrArg some (by kernel_rfl))⟩
 f34:=⟨Tryz.f259.name,by decide,Tryz.func259.trans (congrArg some (by kernel_rfl))⟩
 f35:=⟨Tryz.f168.name,by decide,Tryz.func168.trans (congrArg some (by kernel_rfl))⟩
 f40:=⟨Tryz.f261.name,by decide,Tryz.func261.trans (congrArg some (by kernel_rfl))⟩
 t0:=Tryz.underlying0
 a0:=Tryz.isAgg0
 z0:=Tryz.sizeOf0
 v0:=Tryz.zeroValue0
 t3:=Tryz.underlying3
 a3:=Tryz.isAgg3
 z3:=Tryz.sizeOf3
 v3:=Tryz.zeroValue3
 t4:=Tryz.underlying4
 a4:=Tryz.isAgg4
 z4:=Tryz.sizeOf4
 v4:=Tryz.zeroValue4
 t5:=Tryz.underlying5
 a5:=Tryz.isAgg5
 z5:=Tryz.sizeOf5
 v5:=Tryz.zeroValue5
 t9:=Tryz.underlying9
 a9:=Tryz.isAgg9
 z9:=Tryz.sizeOf9
 v9:=Tryz.zeroValue9
 t22:=Tryz.underlying25
 a22:=Tryz.isAgg25
 z22:=Tryz.sizeOf25
 v22:=Tryz.zeroValue25
 t23:=Tryz.underlying25
 a23:=Tryz.isAgg25
 z23:=Tryz.sizeOf25
 v23:=Tryz.zeroValue25
 t25:=Tryz.underlying3
 a25:=Tryz.isAgg3
 z25:=Tryz.sizeOf3
 v25:=Tryz.zeroValue3
 t32:=Tryz.underlying176
 a32:=Tryz.isAgg176
 z32:=Tryz.sizeOf176
 v32:=Tryz.zeroValue176
 t35:=Tryz.underlying193
 a35:=Tryz.isAgg193
 z35:=Tryz.sizeOf193
 v35:=Tryz.zeroValue193
 t36:=Tryz.underlying194
 a36:=Tryz.isAgg194
 z36:=Tryz.sizeOf194
 v36:=Tryz.zeroValue194
 t41:=Tryz.underlying198
 a41:=Tryz.isAgg198
 z41:=Tryz.sizeOf198
 v41:=Tryz.zeroValue198
 t44:=Tryz.underlying153
 a44:=Tryz.isAgg153
 z44:=Tryz.sizeOf153
 v44:=Tryz.zeroValue153
 t46:=Tryz.underlying144
 a46:=Tryz.isAgg144
 z46:=Tryz.sizeOf144
 v46:=Tryz.zeroValue144
 t53:=Tryz.underlying217
 a53:=Tryz.isAgg217
 z53:=Tryz.sizeOf217
 v53:=Tryz.zeroValue217
 t57:=Tryz.underlying221
 a57:=Tryz.isAgg221
 z57:=Tryz.sizeOf221
 v57:=Tryz.zeroValue221
 t63:=Tryz.underlying231
 a63:=Tryz.isAgg231
 z63:=Tryz.sizeOf231
 v63:=Tryz.zeroValue231
 t64:=Tryz.underlying232
 a64:=Tryz.isAgg232
 z64:=Tryz.sizeOf232
 v64:=Tryz.zeroValue232}
def Tryz.cmpInt_ren:Go.Shelf.Ren:=⟨fun|5=>114|7=>168|n=>n,fun|22=>3|3=>3|4=>4|n=>n,fun|n=>n⟩
theorem Tryz.cmpInt:Go.Proofs.SlLaysC2.n5 Tryz.prog Tryz.cmpInt_ren:= {
 mixed:=by kernel_rfl
 f5:=⟨Tryz.f114.name,by decide,Tryz.func114.trans (congrArg some (by kernel_rfl))⟩
 f7:=⟨Tryz.f168.name,by decide,Tryz.func168.trans (congrArg some (by kernel_rfl))⟩
 t3:=Tryz.underlying3
 a3:=Tryz.isAgg3
 z3:=Tryz.sizeOf3
 v3:=Tryz.zeroValue3
 t4:=Tryz.underlying4
 a4:=Tryz.isAgg4
 z4:=Tryz.sizeOf4
 v4:=Tryz.zeroValue4
 t22:=Tryz.underlying3
 a22:=Tryz.isAgg3
 z22:=Tryz.sizeOf3
 v22:=Tryz.zeroValue3}
end Go.Proofs
namespace Go.Proofs.YtkdmjgcjpmcjjaaGreat
open Go.Vc Go.Gw Go.Lib Go.Shelf
theorem E3f (w:World) (o:Obj):w.alloc o= {w with heap:=w.heap.push o} :=rfl
theorem G2q (a b:Int) (r1 r2:List Value) (w:World):Calls Tryz.prog 113 #[.agg (.int .i64 a::r1).toArray, .agg (.int .i64 b::r2).toArray] w fun e w'=>e= .returned (.int .i64 (Lib.compareInt a b))/\∃q os,w'=Go.Sort.grow (w.drewN q) os:=by
 have e114:∀args w,(callFunc 114 args).run Tryz.prog w= .ok (.enter 114 args) w:=Go.Vc.B5r (by kernel_rfl);have hc:=fun(w:World)=>AnyG.cmp_Compare_int Tryz.cmpInt a b w
 go_enter Tryz.func113,Tryz.ntmps113
 go_wp2_with (go_at_fn (114);refine(hc _).mono ?_;rintro e w' ⟨rfl,hw⟩;rw[hw])
 go_ret
 refine⟨rfl,0, #[.cells (Value.int .i64 a::r1).toArray 94, .cells (Value.int .i64 b::r2).toArray 94], ?_⟩;rw[E3f,E3f];simp[Go.Sort.grow,World.drewN];apply Array.toList_inj.1;simp
theorem G8e (a b:Int):Lib.compareInt a b=D0d a b:=by
 unfold Lib.compareInt D0d
 (repeat' split)<;>first|rfl|omega
theorem G8f:G8r Tryz.prog 113 tE (fun a b:Ent=>D0d a.1 b.1):=by
 rintro w Z c1 c2 x y ⟨u1,r1,rfl,⟨rfl,_⟩,_⟩ ⟨u2,r2,rfl,⟨rfl,_⟩,_⟩;have:=G2q x.1 y.1 r1 r2 w;rw[G8e]at this;exact this
theorem G7c:E2h Tryz.prog 112 (F0z 113 tE 94 (fun a b=>D0d a.1 b.1)):=by
 refine F4k (tys:= []) (G1s (ρ:=Tryz.sortEnt_ren) Tryz.sortEnt (t:=tE) (e:=94) (g:=113) (φ:=fun a b:Ent=>D0d a.1 b.1) Tryz.isAgg94 Tryz.sizeOf94 (fun a=> ?_) (fun a b c=> ?_) (fun a b c=> ?_) (by kernel_rfl) G8f);all_goals (simp only[D0d];(repeat' split)<;>omega)
theorem G0u (n:Int) (w:World):Calls Tryz.prog 106 #[.int .i64 n] w fun e w'=>e= .returned (.func (.func 107) #[] #[.pointer (some ⟨w.heap.size,0,none⟩)])/\w'=w.alloc (.cells #[.int .i64 n] 3):=by
 go_enter Tryz.func106,Tryz.ntmps106
 go_wp2
 go_ret
 exact⟨rfl,rfl⟩
theorem G7w (hm:B8 Tryz.prog 107 F0):E2h Tryz.prog 106 (G7f Tryz.prog [(false, .int .i64)] false .bool (.int .i64) (fun n x=>decide (x.1<0\/n<=x.1))):=by
 refine G0v ?_;rintro w Z v n ⟨hv,hn⟩;obtain rfl:v= .int .i64 n:=by simpa using hv
 refine Calls.mono (G0u _ w) ?_;rintro _ _ ⟨rfl,rfl⟩;have hsz:(w.alloc (.cells #[Value.int .i64 n] 3)).heap.size=w.heap.size+1:=by simp
 refine⟨_,rfl,Ext.alloc w _,(fun b=>b=w.heap.size),fun b hb=> .inr ⟨by omega,by rw[hsz,hb];omega⟩,107,[.pointer (some ⟨w.heap.size,0,none⟩)],rfl,by kernel_rfl, ?_⟩;rintro w1 Z1 vs ⟨i,_⟩ hs h0 hz ⟨v1,vs1,rfl,hv1,rfl⟩ _;have hc:(w.alloc (.cells #[Value.int .i64 n] 3)).heap[w.heap.size]? =some (.cells #[Value.int .i64 n] 3 (0,0)):=by rw[E3f];simp
 have hc1:w1.heap[w.heap.size]? =some (.cells #[Value.int .i64 n] 3 (0,0)):=(hs _ rfl).trans hc;have hrep:A3e Tryz.prog w1 (fun b=>Z1 b\/b=w.heap.size) F0.args [v1, .pointer (some ⟨w.heap.size,0,none⟩)] (i,n,()):=by
  refine⟨_,_,rfl, ?_,_,_,rfl, ?_,rfl⟩
  . exact hv1
  . exact⟨w.heap.size,0,[Value.int .i64 n],rfl, .inr rfl,fun j u hj=>by
     rcases j with _ |j
     . simp only[List.getElem?_cons_zero,Option.some.injEq]at hj;subst hj;rw[O7];simp[World.cell?,hc1]
     . simp at hj,rfl,hn⟩
 have:=hm w1 (fun b=>Z1 b\/b=w.heap.size) [v1, .pointer (some ⟨w.heap.size,0,none⟩)] (i,n,()) (fun b hb=>hb.elim (hz b) fun e=>h0 b e) hrep trivial trivial;refine Gw.Ret.mono this ?_;rintro u w2 ⟨hx,⟨r,_⟩,o,us,Zn,hpost,_,rfl,hzn,⟨v2,us2,rfl,hv2,_,rfl⟩,_⟩;refine⟨hx.ext fun b hb=> ?_,Zn,fun b hb=> ?_, ?_⟩
 . obtain⟨p,hp,_⟩:=hb;cases hp
 . rcases hzn b hb with h| ⟨h,_⟩
   . exact .inl h
   . cases h
 . have hr:r=decide (i<0\/n<=i):=hpost;show A9r false .bool w2 Zn v2 (decide (i<0\/n<=i));rw[<-hr];exact hv2
end Go.Proofs.YtkdmjgcjpmcjjaaGreat
namespace Go.Proofs.YtkdmjgcjpmcjjaaGreat
open Go Go.Vc Go.Gw Go.Lib Go.Shelf Go.Maps Go.Sort Go.RowKit
open Go.WideElems (Fit)
def G1t (_:Value):Option (DataW Unit×List MemPlace):=some (.nil,[])
theorem G6a {P:Program} {k:TypeId} (hk:P.underlying k=some (.int .i64)) {n:Int} (hn:inR .i64 n):keyOf P k (.int .i64 n)=some (.int .i64 n):=by
 refine keyOf_int_mk hk ?_;unfold inR at hn;simpa[Lit.wf]using hn
theorem G8v {P:Program} {k:TypeId} (hk:P.underlying k=some (.int .i64)) {x:MapEntry} {n:Int} (hx:x.key= .int .i64 n) (hn:inR .i64 n):WideElems.rd P k G1t x=some (.int .i64 n, .nil):=by
 unfold WideElems.rd;rw[hx,G6a hk hn];rfl
theorem E6n {w:World} {Z:Nat->Prop} {va:Bool} {vt:Ty} :∀ {es:List (Int×vt.den)} {l:List MapEntry},E4p w Z false (.int .i64) va vt l es->∀ {P:Program} {k:TypeId},P.underlying k=some (.int .i64)->(∀x∈l,∃y,WideElems.rd P k G1t x=some y)/\l.map (WideElems.rg P k G1t)=es.map fun e=>(.int .i64 e.1, .nil)
 | [],l,h,P,k,hk=>by
  obtain rfl:l= []:=h;exact⟨fun x hx=>(by cases hx),rfl⟩
 |e::es,l,h,P,k,hk=>by
  obtain⟨x,l',rfl,⟨h1,h2⟩,_,h3⟩:=h;have hx:x.key= .int .i64 e.1:=by simpa using h1
  have h4:=G8v hk hx h2;obtain⟨i1,i2⟩:=E6n h3 hk;refine⟨fun y hy=> ?_, ?_⟩
  . rcases List.mem_cons.1 hy with rfl|hy
    . exact⟨_,h4⟩
    . exact i1 y hy
  . rw[List.map_cons,List.map_cons,i2];congr 1;unfold WideElems.rg;rw[h4];rfl
theorem E6k {w:World} {Z:Nat->Prop} {va:Bool} {vt:Ty} :∀ {es:List (Int×vt.den)} {l:List MapEntry},E4p w Z false (.int .i64) va vt l es->l.map (·.key)=es.map fun e=>Value.int .i64 e.1
 | [],l,h=>by obtain rfl:l= []:=h;rfl
 |e::es,l,h=>by
  obtain⟨x,l',rfl,⟨h1,h2⟩,_,h3⟩:=h;have hx:x.key= .int .i64 e.1:=by simpa using h1
  rw[List.map_cons,List.map_cons,E6k h3,hx]
theorem G2r {P:Program} {k:TypeId} (hk:P.underlying k=some (.int .i64)) {w:World} {b clock:Nat} {ents:Array MapEntry} {Z:Nat->Prop} {va:Bool} {vt:Ty} {es:List (Int×vt.den)} (hb:w.heap[b]? =some (.map ents clock)) (hm:MOk ents clock) (he:E4p w Z false (.int .i64) va vt ents.toList es) (hl:es.length<=100000) (hnd:List.Nodup (α:=Int) (es.map (·.1))):
 ∃D0:DataW Unit,w.ownsMap P k G1t b ents.size D0/\(intKeys D0).Perm (es.map (·.1))/\Maps.size D0=es.length:=by
 obtain⟨h1,h2⟩:=E6n he (P:=P) hk;have h4:ents.toList.length=es.length:=by have:=congrArg List.length h2;simpa using this
 have h5:ents.toList.map (·.key)=es.map fun e=>Value.int .i64 e.1:=E6k he
 refine⟨_,⟨ents,clock,hb,⟨?_,⟨hm.1,hm.2, ?_⟩,h1⟩,Nat.le_refl _,rfl⟩, ?_, ?_⟩
 . have:ents.size=es.length:=by rw[<-h4];simp
   rw[this];exact Nat.le_trans hl (by decide)
 . rw[h5];have:(es.map fun e=>Value.int .i64 e.1)=(es.map (·.1)).map fun n:Int=>Value.int .i64 n:=by rw[List.map_map];rfl
   rw[this];exact List.Pairwise.map _ (fun a b hab h=>hab (by simpa using h)) hnd
 . show(List.map _ _).Perm _;refine((WideShapes.sorted_perm _).map _).trans ?_;rw[h2,List.map_map];exact List.Perm.of_eq (List.map_congr_left fun e _=>rfl)
 . show List.length (List.foldr _ _ _)= _;rw[(WideShapes.sorted_perm _).length_eq,List.length_map,h4]
theorem E5o {w:World} {Z:Nat->Prop} :∀ {l:List Int},(∀n∈l,inR .i64 n)->S8 (Rep (.int .i64) w Z) (l.map encZ) l
 | [],_=>rfl
 |n::l,h=>⟨[encZ n],l.map encZ,rfl,⟨rfl,h n List.mem_cons_self⟩,E5o fun m hm=>h m (List.mem_cons_of_mem _ hm)⟩
theorem G2w (m:Nat):AnyZI.SortsIn Tryz.prog Tryz.sortedInt_ren Fence.wide m:=
 ⟨fun blk off cap ss W hH hblk hsz=>callsIn_wide.2 (AnyM.slices_Sort_int Tryz.sortInt blk off cap ss W hH hblk hsz),
  fun p cap W=>callsIn_wide.2 (AnyM.slices_Sort_int_none Tryz.sortInt p cap W)⟩
theorem G5l:E2h Tryz.prog 174 (E8q 215 3):=by
 refine F3r (tys:= []) ?_;intro w Z va vt bm b clock T ents es hbm hb hm he hl hnd;obtain⟨D0,hown,hperm,hsize⟩:=G2r (P:=Tryz.prog) (k:=3) Tryz.underlying3 hb hm he hl hnd;have hbl:bm<w.heap.size:=hbm.lt;have hcell:w.cell? ⟨bm,0,none⟩=some (.map (some b)):=by
  exact hbm.cell (o:=0) rfl
 have hseq:=AnyZI.keys_gives Tryz.keysGo Fence.wide 3 trivial rfl (by decide) bm b ents.size D0 w hbl hcell hown;have:=AnyZI.sorted_in Tryz.sortedInt Fence.wide 6 trivial trivial trivial trivial rfl (by decide) (G2w _) (fun args w=>Go.Vc.B5r (f:=214) (by kernel_rfl) args w) 215 _ trivial (Go.Vc.B5r (by kernel_rfl)) _ _ (by rw[hsize];exact Nat.le_trans hl (by decide)) (by rw[hsize];omega) w hseq;refine Calls.mono (callsIn_wide.1 this) ?_;rintro _ w' ⟨v,ss,rfl,hS,hrow,hnil,hbelow⟩;have hb:Below w.heap.size w w':=hbelow;have tr:∀a b c:Int,decide (a<=b)=true->decide (b<=c)=true->decide (a<=c)=true:=fun a b c h h'=>decide_eq_true (Int.le_trans (of_decide_eq_true h) (of_decide_eq_true h'))
 have to:∀a b:Int,(decide (a<=b) ||decide (b<=a))=true:=fun a b=>by
  simp only[Bool.or_eq_true,decide_eq_true_eq];omega
 have hin:∀n∈ss,inR .i64 n:=fun n hn=>by
  have hn2:n∈es.map (·.1):=hperm.mem_iff.1 (hS.mem_iff.1 hn);obtain⟨e,he2,rfl⟩:=List.mem_map.1 hn2;obtain⟨x,_,hx,_⟩:=A0i.mem he he2;exact hx.2
 refine⟨v,rfl,C4k.of ⟨hb,trivial⟩,(ss.mergeSort (fun x y=>decide (x<=y)),()),(),[v],(fun _=>False),⟨?_, ?_⟩,fun h=>(by cases h),rfl,fun _ hb=>hb.elim,⟨v,[],rfl,⟨(ss.mergeSort (fun x y=>decide (x<=y))).map encZ, ?_, ?_,fun _ _ h=>h⟩,fun _ b _ u hu=>(by cases hu),rfl⟩,trivial⟩
 . exact(List.mergeSort_perm ss _).trans (hS.trans hperm)
 . exact(List.pairwise_mergeSort tr to ss).imp fun h=>of_decide_eq_true h
 . have hl2:(ss.mergeSort (fun x y=>decide (x<=y))).length=ss.length:=(List.mergeSort_perm ss _).length_eq;show w'.ownsRow w.heap.size 3 1 v (ss.mergeSort (fun x y=>decide (x<=y))).length _;rw[hl2];exact hrow
 . exact E5o fun n hn=>hin n ((List.mergeSort_perm ss _).mem_iff.1 hn)
end Go.Proofs.YtkdmjgcjpmcjjaaGreat
namespace Go.Proofs.YtkdmjgcjpmcjjaaGreat
open Go.Vc Go.Gw
def B6z:An:= {plan:= [(3,[],[7,10],false,(.p 0 (.p 1 (.p 3 (.p 6 (.or 2 (.or 4 (.or 5 (.e 7 (.p 8 (.e 9 (.e 10 (.p 11 .done))))) (.e 7 (.e 5 (.p 8 (.e 9 (.e 10 (.p 11 .done))))))) (.e 7 (.e 4 (.e 5 (.p 8 (.e 9 (.e 10 (.p 11 .done)))))))) (.or 4 (.or 2 (.or 5 (.e 7 (.p 8 (.e 9 (.e 10 (.p 11 .done))))) (.e 7 (.e 5 (.p 8 (.e 9 (.e 10 (.p 11 .done))))))) (.e 7 (.e 2 (.e 5 (.p 8 (.e 9 (.e 10 (.p 11 .done)))))))) (.e 7 (.or 2 (.e 4 (.e 5 (.p 8 (.e 9 (.e 10 (.p 11 .done)))))) (.e 4 (.e 2 (.e 5 (.p 8 (.e 9 (.e 10 (.p 11 .done)))))))))))))))),(4,[2,6,15],[],false,(.e 0 (.p 1 (.q 2 (.e 3 (.p 4 (.p 5 (.q 6 (.p 7 (.p 9 (.p 10 (.e 8 (.e 11 (.p 12 (.p 13 (.p 14 (.q 15 (.p 16 (.p 17 (.p 20 (.e 18 (.p 19 (.e 21 (.p 22 (.e 23 (.p 24 (.p 25 .done)))))))))))))))))))))))))))]}
def A4x:B4:= [(18,A1e),(20,H2),(28,G4),(31,K6),(47,R6),(49,A0a),(59,S7),(60,R5),(61,L4)]
def q10 (x:MM×List Int×List QQ×Int×Int×Unit) (r:(List Int×Int)×Unit) (c:MM×Unit) (f:Int×Unit) (d:(List Int×Int)×Unit):Prop:=∀(g:List QQ×Unit) (i:(List Int×Int)×Unit),WfL g.1/\True->((Ty.int IntKind.i64).sl.pair (Ty.int IntKind.i64)).wf i.1/\True->((↑g.1.length:Int)=Max.max ([c.1.2.1,c.1.1,(2:Int)].getD (Int.toNat f.1) (0:Int)) (0:Int)/\∀(e:QQ),e∈g.1->D6v e)->i.1.1=d.1.1/\0<=i.1.2/\i.1.2<=(d.1.1.length:Int)->True/\∀(a:Bool×Unit),True/\True->a.1=true->(a.1=true->True)/\∀(b:Bool×Unit),(a.1=true->(True/\True)/\b.1=decide (List.length x.1.2.2<=30/\x.1.2.1<=30/\∀(v:List EE),v∈x.1.2.2->v.length<=(60:Nat)))->((!b.1)=false/\a.1=true->(0:Int)<=(30:Int))/\∀(r:List QQ×Unit),((!b.1)=false/\a.1=true->(WfL r.1/\True)/\r.1=List.take (Int.toNat (30:Int)) x.2.2.1)->((!b.1)=false/\a.1=true->okM K0 x.1/\List.length x.1.2.2<=1000/\x.1.2.1<=1000/\szL K0 r.1/\List.length r.1<=1000)/\∀(r:Bool×Unit),((!b.1)=false/\a.1=true->(True/\True)/\r.1=true)->(sel a.1 (sel (!b.1) true r.1) false=true->(0:Int)<(7:Int))/\∀(j:Int×Unit),(sel a.1 (sel (!b.1) true r.1) false=true->(D5 j.1/\True)/\((0:Int)<(7:Int)->0<=j.1/\j.1<7/\j.1=(IntKind.u64.wrap x.2.2.2.1).tmod (7:Int)))->(sel a.1 (sel (!b.1) true r.1) false=true->(0:Int)<(7:Int))/\∀(k:Int×Unit),(sel a.1 (sel (!b.1) true r.1) false=true->(D5 k.1/\True)/\((0:Int)<(7:Int)->0<=k.1/\k.1<7/\k.1=(IntKind.u64.wrap x.2.2.2.2.1).tmod (7:Int)))->(sel a.1 (sel (!b.1) true r.1) false=true->okM K0 c.1/\List.length c.1.2.2<=1000/\c.1.2.1<=1000/\szL K0 g.1/\List.length g.1<=1000)/\∀(l:Bool×Unit),(sel a.1 (sel (!b.1) true r.1) false=true->(True/\True)/\l.1=true)->sel (sel a.1 (sel (!b.1) true r.1) false) l.1 false=true
def q11 (x:MM×List Int×List QQ×Int×Int×Unit) (r:(List Int×Int)×Unit) (c:MM×Unit) (h:(List Int×Int)×Unit):Prop:=∀(f:Int×Unit) (d:(List Int×Int)×Unit),D5 f.1/\True->((Ty.int IntKind.i64).sl.pair (Ty.int IntKind.i64)).wf d.1/\True->0<=f.1/\f.1<3->d.1.1=h.1.1/\0<=d.1.2/\d.1.2<=(h.1.1.length:Int)->(0<=f.1/\f.1<(↑[c.1.2.1,c.1.1,(2:Int)].length:Int))/\([c.1.2.1,c.1.1,(2:Int)].getD (Int.toNat f.1) (0:Int)<=(1000:Int)/\0<=d.1.2/\d.1.2<=(d.1.1.length:Int))/\q10 x r c f d
def A0e:A7 C3.args->Prop:=fun(x:MM×List Int×List QQ×Int×Int×Unit)=>True/\∀(r:(List Int×Int)×Unit),(WfI r.1.1/\D5 r.1.2)/\True->r.1=(x.2.1,(0:Int))->((0:Int)<(6:Int)/\0<=r.1.2/\r.1.2<=(r.1.1.length:Int))/\∀(n:Int×Unit) (o:(List Int×Int)×Unit),D5 n.1/\True->((Ty.int IntKind.i64).sl.pair (Ty.int IntKind.i64)).wf o.1/\True->0<=n.1/\n.1<6->o.1.1=r.1.1/\0<=o.1.2/\o.1.2<=(r.1.1.length:Int)->((0:Int)<(6:Int)/\0<=o.1.2/\o.1.2<=(o.1.1.length:Int))/\∀(p:Int×Unit) (m:(List Int×Int)×Unit),D5 p.1/\True->((Ty.int IntKind.i64).sl.pair (Ty.int IntKind.i64)).wf m.1/\True->0<=p.1/\p.1<6->m.1.1=o.1.1/\0<=m.1.2/\m.1.2<=(o.1.1.length:Int)->(0<=n.1/\n.1<=20/\0<=p.1/\p.1<=20/\0<=m.1.2/\m.1.2<=(m.1.1.length:Int))/\∀(c:MM×Unit) (h:(List Int×Int)×Unit),WfM c.1/\True->((Ty.int IntKind.i64).sl.pair (Ty.int IntKind.i64)).wf h.1/\True->H0j (Int.toNat n.1) (Int.toNat p.1) c.1->h.1.1=m.1.1/\0<=h.1.2/\h.1.2<=(m.1.1.length:Int)->(((((0:Int)<(3:Int)/\0<=h.1.2/\h.1.2<=(h.1.1.length:Int))/\q11 x r c h)/\((0:Int)<(3:Int)/\0<=h.1.2/\h.1.2<=(h.1.1.length:Int))/\q11 x r c h)/\((0:Int)<(3:Int)/\0<=h.1.2/\h.1.2<=(h.1.1.length:Int))/\q11 x r c h)/\(((((0:Int)<(3:Int)/\0<=h.1.2/\h.1.2<=(h.1.1.length:Int))/\q11 x r c h)/\((0:Int)<(3:Int)/\0<=h.1.2/\h.1.2<=(h.1.1.length:Int))/\q11 x r c h)/\((0:Int)<(3:Int)/\0<=h.1.2/\h.1.2<=(h.1.1.length:Int))/\q11 x r c h)/\((0:Int)<(3:Int)/\0<=h.1.2/\h.1.2<=(h.1.1.length:Int))/\∀(f:Int×Unit) (d:(List Int×Int)×Unit),D5 f.1/\True->((Ty.int IntKind.i64).sl.pair (Ty.int IntKind.i64)).wf d.1/\True->0<=f.1/\f.1<3->d.1.1=h.1.1/\0<=d.1.2/\d.1.2<=(h.1.1.length:Int)->((0<=f.1/\f.1<(↑[c.1.2.1,c.1.1,(2:Int)].length:Int))/\([c.1.2.1,c.1.1,(2:Int)].getD (Int.toNat f.1) (0:Int)<=(1000:Int)/\0<=d.1.2/\d.1.2<=(d.1.1.length:Int))/\q10 x r c f d)/\(0<=f.1/\f.1<(↑[c.1.2.1,c.1.1,(2:Int)].length:Int))/\([c.1.2.1,c.1.1,(2:Int)].getD (Int.toNat f.1) (0:Int)<=(1000:Int)/\0<=d.1.2/\d.1.2<=(d.1.1.length:Int))/\q10 x r c f d
theorem B0x (x:A7 C3.args):H4 Tryz.prog tys A4x B6z C3 Tryz.f11 x=A0e x:=by kernel_rfl
theorem A9z (x:A7 C3.args) (hw:awf C3.args x) (hp:C3.pre x):A0e x:=by
 obtain⟨m,l,X,i,j,_⟩:=x;change List Int at l;change List L5 at X;obtain⟨hs,hX⟩:okM K0 m/\szL K0 X:=hp;have hX:szL K0 (X.take 30):=fun e he=>hX e (List.mem_of_mem_take he)
 have hX3:(X.take 30).length<=1000:=by rw[List.length_take];omega
 simp only[A0e,q10,q11];refine⟨trivial, ?_⟩;rintro⟨⟨l0,t0⟩,_⟩ _ h0;change Int at t0;change List Int at l0;simp only at h0⊢;have ht0:0<=t0/\t0<=(l0.length:Int):=by cases h0;exact⟨Int.le_refl _,by omega⟩
 refine⟨⟨by omega,ht0⟩, ?_⟩;rintro⟨a,_⟩ ⟨⟨l1,t1⟩,_⟩ _ _ ha h1;change Int at t1 a;change List Int at l1;simp only at ha h1⊢;obtain⟨rfl,h1⟩:=h1;refine⟨⟨by omega,h1⟩, ?_⟩;rintro⟨b,_⟩ ⟨⟨l2,t2⟩,_⟩ _ _ hb h2;change Int at t2 b;change List Int at l2;simp only at hb h2⊢;obtain⟨rfl,h2⟩:=h2;refine⟨⟨by omega,by omega,by omega,by omega,h2⟩, ?_⟩;rintro⟨n,_⟩ ⟨⟨l3,t3⟩,_⟩ _ _ hm h3;change Int at t3;change List Int at l3;simp only at hm h3⊢;obtain⟨rfl,h3⟩:=h3;obtain⟨f,hq,hm⟩:=hm;have n1:n.1=(a.toNat:Int):=hm.1;have n2:n.2.1=(b.toNat:Int):=hm.2.1;have n3:n.2.2.length=a.toNat:=hm.2.2.1;have hn:=F3f hm (k:=1) (by decide) fun i j _ _=>hq i j
 have hn0:okM K0 n:=B0d hn (by decide);clear hq hm hw;have hg:∀c:Int,[n.2.1,n.1,(2:Int)].getD c.toNat 0<=1000:=fun c=>by
  rcases hk:c.toNat with _ | _ | _ |k<;>simp only[List.getD_eq_getElem?_getD,List.getElem?_cons_zero,List.getElem?_cons_succ,List.getElem?_nil,Option.getD]<;>omega
 have h3':(0:Int)<3/\0<=t3/\t3<=(l3.length:Int):=⟨by omega,h3⟩;have hlen:(([n.2.1,n.1,(2:Int)].length:Nat):Int)=3:=rfl;rw[hlen];generalize hG: [n.2.1,n.1,(2:Int)]=G at*
 repeat' apply And.intro
 all_goals first|exact trivial|omega|skip
 all_goals
  rintro⟨c,_⟩ ⟨⟨l4,t4⟩,_⟩ _ _ hc h4;change Int at t4 c;change List Int at l4;simp only at hc h4⊢;obtain⟨rfl,h4⟩:=h4;have hgc:=hg c
  repeat' apply And.intro
 all_goals first|exact trivial|omega|skip
 all_goals
  rintro⟨Y,_⟩ ⟨⟨l5,t5⟩,_⟩ _ _ hY h5;change List L5 at Y;simp only at hY h5⊢;obtain⟨hYl,hYq⟩:=hY;have hYl:Y.length<=1000:=by omega
  have hYs:szL K0 Y:=fun e he=>F1e (hYq e he) (by decide)
  refine⟨trivial, ?_⟩;rintro⟨b6,_⟩ _ h6;simp only at h6⊢;subst h6;refine⟨fun _=>trivial, ?_⟩;rintro⟨b7,_⟩ h7;simp only at h7⊢;have h7:=(h7 trivial).2;refine⟨fun _=>by omega, ?_⟩;rintro⟨X',_⟩ hX';change List L5 at X';simp only at hX'⊢;refine⟨?_, ?_⟩
  . rintro⟨g1,g2⟩;have hx:=(hX' ⟨g1,g2⟩).2;have hx:X'=X.take 30:=hx;subst hx;have g1:b7=true:=by simpa using g1
    rw[g1]at h7;have:=of_decide_eq_true h7.symm;exact⟨hs,by omega,by omega,hX,hX3⟩
  rintro⟨b8,_⟩ h8;simp only at h8⊢;have hsel:sel true (sel (!b7) true b8) false=true:=by
   cases b7
   . rfl
   . have:b8=true:=(h8 (by simp)).2;rw[this];rfl
  rw[hsel];refine⟨fun _=>by omega, ?_⟩;rintro⟨c8,_⟩ _;refine⟨fun _=>by omega, ?_⟩;rintro⟨c9,_⟩ _;refine⟨fun _=>⟨hn0,by omega,by omega,hYs,hYl⟩, ?_⟩;rintro⟨b10,_⟩ h10;simp only at h10⊢;have:b10=true:=(h10 trivial).2;rw[this];rfl
theorem B5w:B8 Tryz.prog 107 F0:=A4 (sp:=A4w) Tryz.func107 (by kernel_rfl) (by kernel_rfl) (by kernel_rfl) A8 (A3) B0k B0j
theorem E9a:B8 Tryz.prog 18 A1e:=A4 (sp:=D3a) Tryz.func18 (by kernel_rfl) (by kernel_rfl) (by kernel_rfl) A8 (A3) D8o D6y
theorem D5e:B8 Tryz.prog 49 A0a:=A4 (sp:=D2f) Tryz.func49 (by kernel_rfl) (by kernel_rfl) (by kernel_rfl) A8 (A3) D7p D8j
theorem A2t:B8 Tryz.prog 28 G4:=A4 (sp:=A8z) Tryz.func28 (by kernel_rfl) (by kernel_rfl) (by kernel_rfl) A8 (A0 D5e (A3)) B6y B6v
theorem A5k:B8 Tryz.prog 75 Q7:=A4 (sp:=D1s) Tryz.func75 (by kernel_rfl) (by kernel_rfl) (by kernel_rfl) A8 (A3) D6e D7a
theorem B5c:B8 Tryz.prog 77 T2:=A4 (sp:=C9b) Tryz.func77 (by kernel_rfl) (by kernel_rfl) (by kernel_rfl) A8 (A3) D2v D5d
theorem T0:B8 Tryz.prog 191 I6:=A4 (sp:=D2w) Tryz.func191 (by kernel_rfl) (by kernel_rfl) (by kernel_rfl) A8 (A3) D7d D6h
theorem Y3:B8 Tryz.prog 149 M5:=A4 (sp:=D1v) Tryz.func149 (by kernel_rfl) (by kernel_rfl) (by kernel_rfl) A8 (A0 T0 (A3)) D7j D6n
theorem D3k:B8 Tryz.prog 145 Y9:=A4 (sp:=D4s) Tryz.func145 (by kernel_rfl) (by kernel_rfl) (by kernel_rfl) A8 (A0 Y3 (A3)) D7l D6r
theorem D3o:B8 Tryz.prog 88 A0b:=A4 (sp:=D1y) Tryz.func88 (by kernel_rfl) (by kernel_rfl) (by kernel_rfl) A8 (A0 D3k (A3)) D7c D7q
theorem D9z:B8 Tryz.prog 157 A1v:=A4 (sp:=D9i) Tryz.func157 (by kernel_rfl) (by kernel_rfl) (by kernel_rfl) A8 (A0 T0 (A3)) E2v E0u
theorem D7x:B8 Tryz.prog 194 R7:=A4 (sp:=B7w) Tryz.func194 (by kernel_rfl) (by kernel_rfl) (by kernel_rfl) A8 (A0 T0 (A3)) C5q C8l
theorem D9s:B8 Tryz.prog 158 A2c:=A4 (sp:=D9q) Tryz.func158 (by kernel_rfl) (by kernel_rfl) (by kernel_rfl) A8 (A0 T0 (A0 D7x (A3))) E4e E4m
theorem A8o:B8 Tryz.prog 176 I5:=A4 (sp:=A8y) Tryz.func176 (by kernel_rfl) (by kernel_rfl) (by kernel_rfl) A8 (A0 T0 (A3)) B6g B6w
theorem E3g:B8 Tryz.prog 224 V6:=A4 (sp:=C3m) Tryz.func224 (by kernel_rfl) (by kernel_rfl) (by kernel_rfl) A8 (A0 T0 (A3)) C9r C9q
theorem E8r:B8 Tryz.prog 225 A1j:=A4 (sp:=D1u) Tryz.func225 (by kernel_rfl) (by kernel_rfl) (by kernel_rfl) A8 (A0 T0 (A3)) D7g D7s
theorem F3y:B8 Tryz.prog 226 A4a:=A4 (sp:=E0p) Tryz.func226 (by kernel_rfl) (by kernel_rfl) (by kernel_rfl) A8 (A3) E3d E4b
theorem C0q:B8 Tryz.prog 188 R9:=A4 (sp:=C1u) Tryz.func188 (by kernel_rfl) (by kernel_rfl) (by kernel_rfl) A8 (A0 D9z (A0 D9s (A0 A8o (A0 T0 (A0 E3g (A0 E8r (A0 F3y (A3)))))))) D0l C9p
theorem F4u:B8 Tryz.prog 187 A4c:=A4 (sp:=D9f) Tryz.func187 (by kernel_rfl) (by kernel_rfl) (by kernel_rfl) A8 (A0 C0q (A0 T0 (A3))) E3l E2e
theorem F6a:B8 Tryz.prog 146 A3x:=A4 (sp:=D9d) Tryz.func146 (by kernel_rfl) (by kernel_rfl) (by kernel_rfl) A8 (A0 Y3 (A0 F4u (A3))) E1o E4i
theorem C4x:B8 Tryz.prog 93 A0o:=A4 (sp:=E0q) Tryz.func93 (by kernel_rfl) (by kernel_rfl) (by kernel_rfl) A8 (A0 Y3 (A0 D9z (A0 D9s (A3)))) E1m E4l
theorem A7q:B8 Tryz.prog 132 N0:=A4 (sp:=B7f) Tryz.func132 (by kernel_rfl) (by kernel_rfl) (by kernel_rfl) A8 (A0 Y3 (A0 A8o (A3))) C6l C6y
theorem F4y:B8 Tryz.prog 189 A3p:=A4 (sp:=D9n) Tryz.func189 (by kernel_rfl) (by kernel_rfl) (by kernel_rfl) A8 (A0 Y3 (A3)) E3k E1j
theorem C7v:B8 Tryz.prog 148 A0l:=A4 (sp:=D9r) Tryz.func148 (by kernel_rfl) (by kernel_rfl) (by kernel_rfl) A8 (A0 Y3 (A3)) E2j E2m
theorem F4p:B8 Tryz.prog 190 A3u:=A4 (sp:=D9k) Tryz.func190 (by kernel_rfl) (by kernel_rfl) (by kernel_rfl) A8 (A0 C4x (A0 C7v (A3))) E3v E2x
theorem E1u:B8 Tryz.prog 147 W2:=A4 (sp:=C0x) Tryz.func147 (by kernel_rfl) (by kernel_rfl) (by kernel_rfl) A8 (A0 C4x (A0 A7q (A0 Y3 (A0 C0q (A0 F4y (A0 F4p (A3))))))) D0m C9z
theorem A1b:B8 Tryz.prog 81 O2:=A4 (sp:=D2x) Tryz.func81 (by kernel_rfl) (by kernel_rfl) (by kernel_rfl) A8 (A0 A5k (A0 B5c (A0 D3o (A0 D3k (A0 F6a (A0 E1u (A0 C7v (A3)))))))) D8q D6l
theorem X4:B8 Tryz.prog 83 M0:=A4 (sp:=D2h) Tryz.func83 (by kernel_rfl) (by kernel_rfl) (by kernel_rfl) A8 (A0 A1b (A3)) D6z D7o
theorem B0c:B8 Tryz.prog 29 U8:=A4 (sp:=D2l) Tryz.func29 (by kernel_rfl) (by kernel_rfl) (by kernel_rfl) A8 (A0 X4 (A0 D3o (A3))) D8s D8c
theorem F6e:B8 Tryz.prog 150 A3y:=A4 (sp:=E0j) Tryz.func150 (by kernel_rfl) (by kernel_rfl) (by kernel_rfl) A8 (A0 T0 (A3)) E3h E0s
theorem C7x:B8 Tryz.prog 82 A0n:=A4 (sp:=E0r) Tryz.func82 (by kernel_rfl) (by kernel_rfl) (by kernel_rfl) A8 (A0 Y3 (A0 F6e (A3))) E2r E3x
theorem B5n:B8 Tryz.prog 84 X7:=A4 (sp:=D9v) Tryz.func84 (by kernel_rfl) (by kernel_rfl) (by kernel_rfl) A8 (A0 X4 (A3)) E3s E1v
theorem C7h:B8 Tryz.prog 32 A0p:=A4 (sp:=D9l) Tryz.func32 (by kernel_rfl) (by kernel_rfl) (by kernel_rfl) A8 (A0 A1b (A0 C7x (A0 X4 (A0 B5n (A0 C4x (A3)))))) E3u E2t
theorem C8a:B8 Tryz.prog 120 A0q:=A4 (sp:=E0n) Tryz.func120 (by kernel_rfl) (by kernel_rfl) (by kernel_rfl) A8 (A0 C7h (A0 A5k (A3))) E1a E2d
theorem D6w:B8 Tryz.prog 199 R4:=A4 (sp:=B7a) Tryz.func199 (by kernel_rfl) (by kernel_rfl) (by kernel_rfl) A8 (A3) C8j C4r
theorem D5m:B8 Tryz.prog 164 Z9:=A4 (sp:=D4q) Tryz.func164 (by kernel_rfl) (by kernel_rfl) (by kernel_rfl) A8 (A0 B0c (A0 C8a (A0 D6w (A3)))) D8f D7r
theorem D0c:B8 Tryz.prog 105 N9:=A4 (sp:=B1l) Tryz.func105 (by kernel_rfl) (by kernel_rfl) (by kernel_rfl) A8 (A0 D5m (A3)) B9y B9e
theorem B1a:B8 Tryz.prog 78 T7:=A4 (sp:=D3l) Tryz.func78 (by kernel_rfl) (by kernel_rfl) (by kernel_rfl) A8 (A0 D0c (A3)) D7v D6t
theorem G0d:B8 Tryz.prog 144 A6y:=A4 (sp:=E7p) Tryz.func144 (by kernel_rfl) (by kernel_rfl) (by kernel_rfl) A8 (A0 A1b (A0 A7q (A3))) E5i E5f
theorem B1n:B8 Tryz.prog 79 J8:=A4 (sp:=B1g) Tryz.func79 (by kernel_rfl) (by kernel_rfl) (by kernel_rfl) A8 (A0 A2t (A0 G0d (A3))) B9c B9l
theorem B7z:B8 Tryz.prog 20 H2:=A4 (sp:=A6f) Tryz.func20 (by kernel_rfl) (by kernel_rfl) (by kernel_rfl) A8 (A0 A2t (A0 A5k (A0 B1a (A0 B1n (A3))))) B2d B2j
theorem C5e:B8 Tryz.prog 31 K6:=A4 (sp:=A9m) Tryz.func31 (by kernel_rfl) (by kernel_rfl) (by kernel_rfl) A8 (A0 B1n (A3)) B6e B6a
theorem A9e:B8 Tryz.prog 109 I0:=A4 (sp:=A9p) Tryz.func109 (by kernel_rfl) (by kernel_rfl) (by kernel_rfl) A8 (A3) B5x B6j
theorem G3:B8 Tryz.prog 186 C7:=A4 (sp:=B7n) Tryz.func186 (by kernel_rfl) (by kernel_rfl) (by kernel_rfl) A8 (A3) C7j C8h
theorem O3:B8 Tryz.prog 172 C8:=A4 (sp:=A6s) Tryz.func172 (by kernel_rfl) (by kernel_rfl) (by kernel_rfl) A8 (A0 G3 (A3)) B3z B2q
theorem Z4:B8 Tryz.prog 139 F1:=A4 (sp:=A8r) Tryz.func139 (by kernel_rfl) (by kernel_rfl) (by kernel_rfl) A8 (A0 O3 (A3)) B6t B5u
theorem D4h:B8 Tryz.prog 198 P4:=A4 (sp:=B4b) Tryz.func198 (by kernel_rfl) (by kernel_rfl) (by kernel_rfl) A8 (A0 O3 (A3)) C0u C1p
theorem O6:B8 Tryz.prog 160 D8:=A4 (sp:=B1u) Tryz.func160 (by kernel_rfl) (by kernel_rfl) (by kernel_rfl) A8 (A0 Z4 (A0 D4h (A3))) B8b B8w
theorem A6k:B8 Tryz.prog 192 F9:=A4 (sp:=A5x) Tryz.func192 (by kernel_rfl) (by kernel_rfl) (by kernel_rfl) A8 (A3) B2b B2e
theorem D1t:B8 Tryz.prog 151 P5:=A4 (sp:=B3y) Tryz.func151 (by kernel_rfl) (by kernel_rfl) (by kernel_rfl) A8 (A0 O6 (A0 A6k (A3))) C2u C2v
theorem N5:B8 Tryz.prog 85 E1:=A4 (sp:=B4x) Tryz.func85 (by kernel_rfl) (by kernel_rfl) (by kernel_rfl) A8 (A0 A9e (A0 D1t (A3))) C1y C2a
theorem A5b:B8 Tryz.prog 165 C6:=A4 (sp:=W8) Tryz.func165 (by kernel_rfl) (by kernel_rfl) (by kernel_rfl) A8 (A3) A3h A2y
theorem A3m:B8 Tryz.prog 108 C0:=A4 (sp:=T8) Tryz.func108 (by kernel_rfl) (by kernel_rfl) (by kernel_rfl) A8 (A0 A5b (A3)) A1m A1l
theorem A5t:B8 Tryz.prog 219 J5:=A4 (sp:=B4u) Tryz.func219 (by kernel_rfl) (by kernel_rfl) (by kernel_rfl) A8 (A3) C3g C3s
theorem C6n:B8 Tryz.prog 181 K9:=A4 (sp:=A8p) Tryz.func181 (by kernel_rfl) (by kernel_rfl) (by kernel_rfl) A8 (A0 G3 (A0 A5t (A3))) B6d B6r
theorem A2x:B8 Tryz.prog 137 G5:=A4 (sp:=A8m) Tryz.func137 (by kernel_rfl) (by kernel_rfl) (by kernel_rfl) A8 (A0 C6n (A3)) B5v B6q
theorem I7:B8 Tryz.prog 180 C4:=A4 (sp:=A3t) Tryz.func180 (by kernel_rfl) (by kernel_rfl) (by kernel_rfl) A8 (A0 G3 (A3)) A9o A9j
theorem A0h:B8 Tryz.prog 138 D9:=A4 (sp:=A4y) Tryz.func138 (by kernel_rfl) (by kernel_rfl) (by kernel_rfl) A8 (A0 I7 (A3)) A9s A9x
theorem T9:B8 Tryz.prog 179 E5:=A4 (sp:=A8k) Tryz.func179 (by kernel_rfl) (by kernel_rfl) (by kernel_rfl) A8 (A3) B6l B6k
theorem X0:B8 Tryz.prog 183 G6:=A4 (sp:=B4m) Tryz.func183 (by kernel_rfl) (by kernel_rfl) (by kernel_rfl) A8 (A0 G3 (A3)) C1m C1z
theorem D1o:B8 Tryz.prog 182 P3:=A4 (sp:=B4e) Tryz.func182 (by kernel_rfl) (by kernel_rfl) (by kernel_rfl) A8 (A0 T9 (A0 X0 (A3))) C0r C3x
theorem B0h:B8 Tryz.prog 222 E3:=A4 (sp:=A2b) Tryz.func222 (by kernel_rfl) (by kernel_rfl) (by kernel_rfl) A8 (A0 I7 (A0 G3 (A3))) A6o A6n
theorem E1f:B8 Tryz.prog 208 V8:=A4 (sp:=C0y) Tryz.func208 (by kernel_rfl) (by kernel_rfl) (by kernel_rfl) A8 (A3) C9x D0z
theorem A2p:B8 Tryz.prog 238 D6:=A4 (sp:=A2o) Tryz.func238 (by kernel_rfl) (by kernel_rfl) (by kernel_rfl) A8 (A0 E1f (A3)) A7u A7x
theorem C0o:B8 Tryz.prog 240 J0:=A4 (sp:=A6r) Tryz.func240 (by kernel_rfl) (by kernel_rfl) (by kernel_rfl) A8 (A3) B3q B4w
theorem B4r:B8 Tryz.prog 242 F8:=A4 (sp:=A3s) Tryz.func242 (by kernel_rfl) (by kernel_rfl) (by kernel_rfl) A8 (A0 G3 (A3)) A8s A8f
theorem B3i:B8 Tryz.prog 223 F6:=A4 (sp:=A4d) Tryz.func223 (by kernel_rfl) (by kernel_rfl) (by kernel_rfl) A8 (A0 G3 (A0 A2p (A0 C0o (A0 B4r (A7b (E8f (cx:=⟨Tryz.prog,tys⟩) (fn:=Tryz.f241) (c:=Tryz.f241.body.getD .skip) Tryz.func241 (by kernel_rfl) (by kernel_rfl) A8 (A9b (A3) (B4k))) (A3)))))) A8n A9k
theorem A8w:B8 Tryz.prog 185 H9:=A4 (sp:=A8v) Tryz.func185 (by kernel_rfl) (by kernel_rfl) (by kernel_rfl) A8 (A0 O3 (A0 I7 (A0 X0 (A0 G3 (A0 A5t (A0 B0h (A0 B3i (A3)))))))) B6c B6i
theorem C0d:B8 Tryz.prog 255 H1:=A4 (sp:=A6c) Tryz.func255 (by kernel_rfl) (by kernel_rfl) (by kernel_rfl) A8 (A3) B1z B2i
theorem C7m:B8 Tryz.prog 239 L6:=A4 (sp:=A8u) Tryz.func239 (by kernel_rfl) (by kernel_rfl) (by kernel_rfl) A8 (A0 C0d (A3)) B6h B5y
theorem C3c:B8 Tryz.prog 220 J2:=A4 (sp:=A6w) Tryz.func220 (by kernel_rfl) (by kernel_rfl) (by kernel_rfl) A8 (A0 A2p (A0 C7m (A3))) B5h B4j
theorem A3n:B8 Tryz.prog 142 K3:=A4 (sp:=B7u) Tryz.func142 (by kernel_rfl) (by kernel_rfl) (by kernel_rfl) A8 (A0 G3 (A3)) C6t C4t
theorem B7b:B8 Tryz.prog 212 O9:=A4 (sp:=B7o) Tryz.func212 (by kernel_rfl) (by kernel_rfl) (by kernel_rfl) A8 (A0 O3 (A0 G3 (A3))) C4y C6u
theorem C4g:B8 Tryz.prog 221 I8:=A4 (sp:=A6z) Tryz.func221 (by kernel_rfl) (by kernel_rfl) (by kernel_rfl) A8 (A0 A3n (A0 I7 (A0 B7b (A3)))) B5b B4h
theorem D6u:B8 Tryz.prog 184 R8:=A4 (sp:=B7s) Tryz.func184 (by kernel_rfl) (by kernel_rfl) (by kernel_rfl) A8 (A0 O3 (A0 I7 (A0 X0 (A0 A8w (A0 G3 (A0 A5t (A0 C3c (A0 C4g (A3))))))))) C7k C8e
theorem A1r:B8 Tryz.prog 140 F3:=A4 (sp:=A6x) Tryz.func140 (by kernel_rfl) (by kernel_rfl) (by kernel_rfl) A8 (A0 D1o (A0 X0 (A0 D6u (A0 A8w (A3))))) B4v B4g
theorem Q8:B8 Tryz.prog 111 E6:=A4 (sp:=B1q) Tryz.func111 (by kernel_rfl) (by kernel_rfl) (by kernel_rfl) A8 (A0 A2x (A0 A0h (A0 Z4 (A0 A1r (A3))))) B9j B9x
theorem D0p:B8 Tryz.prog 45 N6:=A4 (sp:=B1d) Tryz.func45 (by kernel_rfl) (by kernel_rfl) (by kernel_rfl) D3i (A0 N5 (A7b (G7w B5w) (A0 A3m (A0 A9e (A0 Q8 (A7b G7c (A7b (E8f (cx:=⟨Tryz.prog,G3r⟩) (fn:=Tryz.f110) (c:=Tryz.f110.body.getD .skip) Tryz.func110 (by kernel_rfl) (by kernel_rfl) D3i (A9b (A3) (B4k))) (A3)))))))) B8a B9i
theorem B7i:B8 Tryz.prog 141 O8:=A4 (sp:=B7k) Tryz.func141 (by kernel_rfl) (by kernel_rfl) (by kernel_rfl) A8 (A0 A3n (A0 T9 (A3))) C7b C6w
theorem X1:B8 Tryz.prog 71 G2:=A4 (sp:=B5e) Tryz.func71 (by kernel_rfl) (by kernel_rfl) (by kernel_rfl) A8 (A0 A2x (A0 A0h (A0 Z4 (A0 A1r (A0 B7i (A0 A3n (A3))))))) C4h C1f
theorem D7i:B8 Tryz.prog 143 S6:=A4 (sp:=B7p) Tryz.func143 (by kernel_rfl) (by kernel_rfl) (by kernel_rfl) A8 (A0 T9 (A0 X0 (A3))) C6d C7d
theorem D5h:B8 Tryz.prog 73 P8:=A4 (sp:=B2w) Tryz.func73 (by kernel_rfl) (by kernel_rfl) (by kernel_rfl) A8 (A0 Q8 (A0 D7i (A3))) C0v C1h
theorem D5u:B8 Tryz.prog 117 Q3:=A4 (sp:=B4o) Tryz.func117 (by kernel_rfl) (by kernel_rfl) (by kernel_rfl) A8 (A0 Q8 (A0 O6 (A3))) C2o C3o
theorem C2s:B8 Tryz.prog 136 I9:=A4 (sp:=A7c) Tryz.func136 (by kernel_rfl) (by kernel_rfl) (by kernel_rfl) A8 (A0 T9 (A0 I7 (A3))) B3v B2t
theorem A0y:B8 Tryz.prog 70 E8:=A4 (sp:=A5p) Tryz.func70 (by kernel_rfl) (by kernel_rfl) (by kernel_rfl) A8 (A0 C2s (A3)) B2m B2l
theorem D6m:B8 Tryz.prog 211 R0:=A4 (sp:=B7r) Tryz.func211 (by kernel_rfl) (by kernel_rfl) (by kernel_rfl) A8 (A0 G3 (A3)) C6z C8k
theorem D6o:B8 Tryz.prog 173 S0:=A4 (sp:=B7m) Tryz.func173 (by kernel_rfl) (by kernel_rfl) (by kernel_rfl) A8 (A0 T9 (A0 D6m (A0 B7b (A3)))) C7s C5f
theorem U7:B8 Tryz.prog 122 F4:=A4 (sp:=B4p) Tryz.func122 (by kernel_rfl) (by kernel_rfl) (by kernel_rfl) A8 (A0 Q8 (A0 A2x (A0 A0h (A0 Z4 (A0 A1r (A0 B7i (A0 A3n (A0 O6 (A0 O3 (A0 D6o (A3))))))))))) C1a C4b
theorem C3a:B8 Tryz.prog 118 R2:=A4 (sp:=C3l) Tryz.func118 (by kernel_rfl) (by kernel_rfl) (by kernel_rfl) A8 (A0 A0y (A0 U7 (A3))) D0s D0n
theorem D4z:B8 Tryz.prog 169 P6:=A4 (sp:=B4i) Tryz.func169 (by kernel_rfl) (by kernel_rfl) (by kernel_rfl) A8 (A0 O6 (A3)) C2t C2k
theorem D0t:B8 Tryz.prog 168 N2:=A4 (sp:=B1i) Tryz.func168 (by kernel_rfl) (by kernel_rfl) (by kernel_rfl) A8 (A3) B9h B9m
theorem C4j:B8 Tryz.prog 114 J1:=A4 (sp:=A6p) Tryz.func114 (by kernel_rfl) (by kernel_rfl) (by kernel_rfl) A8 (A0 D0t (A3)) B2r B3t
theorem C6o:B8 Tryz.prog 156 K8:=A4 (sp:=A8g) Tryz.func156 (by kernel_rfl) (by kernel_rfl) (by kernel_rfl) A8 (A0 C4j (A3)) B6u B6x
theorem A0f:B8 Tryz.prog 210 P7:=E8z fun _ h=>h
theorem C6f:B8 Tryz.prog 170 K7:=A4 (sp:=A8l) Tryz.func170 (by kernel_rfl) (by kernel_rfl) (by kernel_rfl) A8 (A0 U7 (A0 C6o (A0 A6k (A0 A0f (A3))))) B5z B6b
theorem B3k:B8 Tryz.prog 171 F7:=A4 (sp:=A4i) Tryz.func171 (by kernel_rfl) (by kernel_rfl) (by kernel_rfl) A8 (A0 X1 (A0 Q8 (A0 U7 (A0 O6 (A3))))) A8i A9l
theorem B9b:B8 Tryz.prog 119 H3:=A4 (sp:=A5q) Tryz.func119 (by kernel_rfl) (by kernel_rfl) (by kernel_rfl) A8 (A0 D4z (A0 C6f (A0 B3k (A3)))) B1w B2c
theorem B5d:B8 Tryz.prog 50 M8:=A4 (sp:=B3p) Tryz.func50 (by kernel_rfl) (by kernel_rfl) (by kernel_rfl) A8 (A0 X1 (A0 D5h (A0 N5 (A0 D5u (A0 C3a (A0 B9b (A3))))))) C3b C1q
theorem B3a:B8 Tryz.prog 125 F5:=A4 (sp:=A3q) Tryz.func125 (by kernel_rfl) (by kernel_rfl) (by kernel_rfl) A8 (A0 X1 (A0 U7 (A0 O6 (A7b G5l (A7b (E8f (cx:=⟨Tryz.prog,tys⟩) (fn:=Tryz.f175) (c:=Tryz.f175.body.getD .skip) Tryz.func175 (by kernel_rfl) (by kernel_rfl) A8 (A9b (A3) (B4k))) (A3)))))) A8c A9f
theorem E2a:B8 Tryz.prog 55 V3:=A4 (sp:=C2x) Tryz.func55 (by kernel_rfl) (by kernel_rfl) (by kernel_rfl) A8 (A0 N5 (A0 B3a (A7b (E8f (cx:=⟨Tryz.prog,tys⟩) (fn:=Tryz.f110) (c:=Tryz.f110.body.getD .skip) Tryz.func110 (by kernel_rfl) (by kernel_rfl) A8 (A9b (A3) (B4k))) (A3)))) D0i C9t
theorem E6h:B8 Tryz.prog 76 X5:=A4 (sp:=C8q) Tryz.func76 (by kernel_rfl) (by kernel_rfl) (by kernel_rfl) A8 (A0 B5c (A3)) D5k D3v
theorem A6u:B8 Tryz.prog 17 Q5:=A4 (sp:=C8n) Tryz.func17 (by kernel_rfl) (by kernel_rfl) (by kernel_rfl) A8 (A0 E6h (A0 B5c (A3))) D2i D4d
theorem B1j:B8 Tryz.prog 102 J7:=A4 (sp:=B1h) Tryz.func102 (by kernel_rfl) (by kernel_rfl) (by kernel_rfl) A8 (A0 A6u (A0 X4 (A3))) C0e B8r
theorem C9u:B8 Tryz.prog 126 N8:=A4 (sp:=B1f) Tryz.func126 (by kernel_rfl) (by kernel_rfl) (by kernel_rfl) A8 (A0 A6u (A0 B1j (A3))) B8q B8c
theorem B1m:B8 Tryz.prog 58 K4:=A4 (sp:=B1r) Tryz.func58 (by kernel_rfl) (by kernel_rfl) (by kernel_rfl) A8 (A0 C9u (A3)) B8g C0h
theorem D6i:B8 Tryz.prog 68 R3:=A4 (sp:=B7y) Tryz.func68 (by kernel_rfl) (by kernel_rfl) (by kernel_rfl) A8 (A0 A1b (A0 A7q (A3))) C7z C5n
theorem E2s:B8 Tryz.prog 116 V5:=A4 (sp:=C1t) Tryz.func116 (by kernel_rfl) (by kernel_rfl) (by kernel_rfl) A8 (A0 D6i (A0 B1a (A3))) D0g D0u
theorem D8b:B8 Tryz.prog 47 R6:=A4 (sp:=B7h) Tryz.func47 (by kernel_rfl) (by kernel_rfl) (by kernel_rfl) A8 (A0 D0p (A0 B5d (A0 E2a (A0 B1m (A0 E2s (A3)))))) C5k C5o
theorem D7n:B8 Tryz.prog 59 S7:=A4 (sp:=B7v) Tryz.func59 (by kernel_rfl) (by kernel_rfl) (by kernel_rfl) A8 (A3) C8i C6b
theorem C9h:B8 Tryz.prog 104 W5:=A4 (sp:=C8o) Tryz.func104 (by kernel_rfl) (by kernel_rfl) (by kernel_rfl) A8 (A0 B0c (A3)) D4n D1m
theorem A3w:B8 Tryz.prog 41 O5:=A4 (sp:=C8r) Tryz.func41 (by kernel_rfl) (by kernel_rfl) (by kernel_rfl) A8 (A0 C9h (A3)) D3s D3e
theorem E5n:B8 Tryz.prog 131 Y5:=A4 (sp:=C8v) Tryz.func131 (by kernel_rfl) (by kernel_rfl) (by kernel_rfl) A8 (A0 C9h (A0 C8a (A0 D5m (A3)))) D4p D4t
theorem A5r:B8 Tryz.prog 65 J6:=A4 (sp:=B3g) Tryz.func65 (by kernel_rfl) (by kernel_rfl) (by kernel_rfl) A8 (A0 E5n (A3)) C2n C2e
theorem B1e:B8 Tryz.prog 22 K2:=A4 (sp:=B1k) Tryz.func22 (by kernel_rfl) (by kernel_rfl) (by kernel_rfl) D3i (A0 A3w (A0 A5r (A0 B1a (A3)))) B8o B9v
theorem D8y:B8 Tryz.prog 24 A2f:=A4 (sp:=D8v) Tryz.func24 (by kernel_rfl) (by kernel_rfl) (by kernel_rfl) A8 (A0 A1b (A0 C7x (A0 X4 (A0 B5n (A3))))) E4j E2q
theorem F3s:B8 Tryz.prog 101 A4e:=A4 (sp:=D9w) Tryz.func101 (by kernel_rfl) (by kernel_rfl) (by kernel_rfl) A8 (A0 D8y (A0 C7h (A0 A5k (A3)))) E2i E1h
theorem C9k:B8 Tryz.prog 36 W3:=A4 (sp:=C8u) Tryz.func36 (by kernel_rfl) (by kernel_rfl) (by kernel_rfl) A8 (A0 A3w (A0 A5r (A0 F3s (A3)))) D3j D2r
theorem E3e:B8 Tryz.prog 37 V9:=A4 (sp:=C2f) Tryz.func37 (by kernel_rfl) (by kernel_rfl) (by kernel_rfl) A8 (A0 B1e (A0 C9k (A3))) D1a D0f
theorem F0h:B8 Tryz.prog 38 A1k:=A4 (sp:=D4c) Tryz.func38 (by kernel_rfl) (by kernel_rfl) (by kernel_rfl) A8 (A0 A6u (A0 B1j (A3))) D8d D6c
theorem E3o:B8 Tryz.prog 48 W0:=A4 (sp:=C2w) Tryz.func48 (by kernel_rfl) (by kernel_rfl) (by kernel_rfl) A8 (A0 B1m (A3)) D0h D1b
theorem F9h:B8 Tryz.prog 51 A7d:=A4 (sp:=E5g) Tryz.func51 (by kernel_rfl) (by kernel_rfl) (by kernel_rfl) A8 (A0 A3w (A0 A5k (A0 C8a (A3)))) E7f E4v
theorem B3b:B8 Tryz.prog 121 M9:=A4 (sp:=B5g) Tryz.func121 (by kernel_rfl) (by kernel_rfl) (by kernel_rfl) A8 (A0 A0y (A3)) C2q C2h
theorem D4f:B8 Tryz.prog 52 P9:=A4 (sp:=B4d) Tryz.func52 (by kernel_rfl) (by kernel_rfl) (by kernel_rfl) A8 (A0 X1 (A0 N5 (A0 B3b (A0 U7 (A3))))) C1k C2c
theorem B8i:B8 Tryz.prog 56 G9:=A4 (sp:=A6b) Tryz.func56 (by kernel_rfl) (by kernel_rfl) (by kernel_rfl) D3i (A0 N5 (A0 Q8 (A7b (E8f (cx:=⟨Tryz.prog,G3r⟩) (fn:=Tryz.f110) (c:=Tryz.f110.body.getD .skip) Tryz.func110 (by kernel_rfl) (by kernel_rfl) D3i (A9b (A3) (B4k))) (A3)))) B1x B2a
theorem D0w:B8 Tryz.prog 127 N4:=A4 (sp:=B1s) Tryz.func127 (by kernel_rfl) (by kernel_rfl) (by kernel_rfl) A8 (A0 X1 (A0 N5 (A0 B3b (A0 U7 (A0 O6 (A3)))))) B8u B8p
theorem F5a:B8 Tryz.prog 123 A4g:=A4 (sp:=E0l) Tryz.func123 (by kernel_rfl) (by kernel_rfl) (by kernel_rfl) A8 (A0 A1b (A0 X4 (A0 B5n (A0 C7v (A3))))) E1p E4a
theorem F5h:B8 Tryz.prog 53 A4f:=A4 (sp:=E0g) Tryz.func53 (by kernel_rfl) (by kernel_rfl) (by kernel_rfl) A8 (A0 C7h (A0 F5a (A3))) E4o E0z
theorem F5n:B8 Tryz.prog 124 A3r:=A4 (sp:=D8u) Tryz.func124 (by kernel_rfl) (by kernel_rfl) (by kernel_rfl) A8 (A0 B0c (A0 A1b (A0 C7x (A0 X4 (A0 B5n (A3)))))) E1k E0w
theorem E9d:B8 Tryz.prog 54 A1d:=A4 (sp:=D5b) Tryz.func54 (by kernel_rfl) (by kernel_rfl) (by kernel_rfl) A8 (A0 F5n (A3)) D6g D7k
theorem E6s:B8 Tryz.prog 128 Y4:=A4 (sp:=C8x) Tryz.func128 (by kernel_rfl) (by kernel_rfl) (by kernel_rfl) A8 (A0 D8y (A0 B0c (A0 A3w (A0 F5h (A0 E9d (A0 A5r (A0 B1a (A3)))))))) D2b D4k
theorem E7s:B8 Tryz.prog 129 X6:=A4 (sp:=C9e) Tryz.func129 (by kernel_rfl) (by kernel_rfl) (by kernel_rfl) A8 (A0 A0y (A0 N5 (A0 C3a (A3)))) D3b D3p
theorem D6d:B8 Tryz.prog 60 R5:=A4 (sp:=B7l) Tryz.func60 (by kernel_rfl) (by kernel_rfl) (by kernel_rfl) A8 (A0 A6u (A0 B1e (A0 C9k (A0 E3e (A0 F0h (A0 A3w (A0 E3o (A0 B5d (A0 F9h (A0 D4f (A0 B8i (A0 X4 (A0 N5 (A0 D0w (A0 E6s (A0 E7s (A3))))))))))))))))) C4n C5j
theorem C6q:B8 Tryz.prog 61 L4:=A4 (sp:=A8j) Tryz.func61 (by kernel_rfl) (by kernel_rfl) (by kernel_rfl) A8 (A3) B6o B6n
theorem B6m:B8 Tryz.prog 11 C3:=A4 (sp:=A4x) Tryz.func11 (by kernel_rfl) (by kernel_rfl) (by kernel_rfl) A8 (A0 E9a (A0 B7z (A0 A2t (A0 C5e (A0 D8b (A0 D5e (A0 D7n (A0 D6d (A0 C6q (A3)))))))))) B0x A9z
theorem E9m {t:Ty} {l:List t.den} {x:t.den} (h:x∈l):bul t x+1<=bul (.sl t) l:=by
 simp only[bul]
 induction l with
 |nil=>cases h
 |cons y r ih=>
  simp only[List.map_cons,List.sum_cons];cases List.mem_cons.1 h with
  |inl e=>subst e;omega
  |inr e=>have:=ih e;omega
theorem F8s {t:Ty} (ht:∀x,1<=bul t x) (l:List t.den):l.length+1<=bul (.sl t) l:=by
 simp only[bul]
 induction l with
 |nil=>simp
 |cons y r ih=>simp only[List.map_cons,List.sum_cons,List.length_cons];have:=ht y;omega
theorem G4k {k:Nat} {x:L5} (h:bul tQ x<=k):sz k x:=by
 have h1:=F8s (t:= .int .u32) (fun _=>Nat.le_refl _) x.1.2;have h2:=F8s (t:= .int .u32) (fun _=>Nat.le_refl _) x.2;have h:bul .bool x.1.1+bul (.sl (.int .u32)) x.1.2+bul (.sl (.int .u32)) x.2<=k:=h;exact⟨by omega,by omega⟩
theorem G5f {k:Nat} {l:List L5} (h:bul (.sl tQ) l<=k):szL k l:=fun e he=>G4k (by have:=E9m (t:=tQ) he;omega)
theorem G5d {k:Nat} {m:A8b} (h:bul tM m<=k):okM k m:=fun v hv e he=>G4k (by
 have h:1+(1+bul (.sl (.sl tE)) m.2.2)<=k:=h;have h1:=E9m (t:= .sl tE) hv;have h2:=E9m (t:=tE) he;have h3:bul tE e=1+bul tQ e.2:=rfl;omega)
theorem D2y (x:A7 C3.args) (h:G3i C3.args x<=1048576):C3.pre x:=by
 obtain⟨m,l,X,i,j,u⟩:=x;have h:bul tM m+(bul (.sl (.int .i64)) l+(bul (.sl tQ) X+(1+(1+0))))<=1048576:=h;have hk:1048576<=K0:=by decide
 have h1:okM K0 m:=G5d (by omega);have h2:szL K0 X:=G5f (by omega);exact⟨h1,h2⟩
end Go.Proofs.YtkdmjgcjpmcjjaaGreat
