/- Part. -/
import Derived.Shelf.SlSortCmp.NoneTotal
import Derived.Lib.QuietBelow
import Derived.Shelf.SlGeneric
import Derived.Shelf.SlicesG.Cmp
import Derived.Ground.SlsfProg
import Derived.Ground.SlgcProg
import Derived.Test.YthclcjfodjhmlaaGreatProg
import Derived.Test.YthclcjfodjhmlaaGreatKKI
set_option linter.all false
namespace Go.Proofs.YthclcjfodjhmlaaGreat
open Go.Proofs.Tryz
open Go.Vc Go.Gw
open Go.IntKind (i64 u32)
def aL:An:= {join:= [(4,⟨[0,1,6],[],[(5,false,[.own (.int .i64) 3])],[],[]⟩)],loop:= [(3,⟨[0,1],[],[(5,false,[.own (.int .i64) 3]),(6,false,vI)],[],[]⟩)],plan:= [(6,[5,7,13,15],[],true,(pZ9 0 5 (.q 5 (.p 6 (.q 7 (pZ9 8 5 (.q 13 (.p 14 (.q 15 (.p 16 .done))))))))))]}
def PU:An:= {join:= [(14,⟨[0,1,2,3,4,13,14,17,23,24,25],[],[],[],[]⟩)],loop:= [(8,⟨[0,1,2,3,4,13,23,24,25,29,30],[],[(14,false,[.val .bool]),(31,false,vI)],[],[]⟩),(13,⟨[0,1,2,3,4,13,14,23,24,25],[],[(17,false,vI)],[],[]⟩),(4,⟨[0,1,2,3,4,23,24],[],[(25,false,vI)],[],[]⟩)],plan:= [(16,[],[12,15],false,(pZ9 0 8 (.p 9 (.p 11 (.p 13 (.or 8 (.or 10 (.or 12 (.e 14 (.e 15 (.e 16 (pZ9 17 5 .done)))) (.e 14 (.e 12 (.e 15 (.e 16 (pZ9 17 5 .done)))))) (.e 14 (.e 10 (.e 12 (.e 15 (.e 16 (pZ9 17 5 .done))))))) (.or 10 (.or 8 (.or 12 (.e 14 (.e 15 (.e 16 (pZ9 17 5 .done)))) (.e 14 (.e 12 (.e 15 (.e 16 (pZ9 17 5 .done)))))) (.or 12 (.or 8 (.e 14 (.e 15 (.e 16 (pZ9 17 5 .done)))) (.e 14 (.or 8 (.e 15 (.e 16 (pZ9 17 5 .done))) (.e 15 (.e 8 (.e 16 (pZ9 17 5 .done))))))) (.e 14 (.or 8 (.e 12 (.e 15 (.e 16 (pZ9 17 5 .done)))) (.e 12 (.or 8 (.e 15 (.e 16 (pZ9 17 5 .done))) (.e 15 (.e 8 (.e 16 (pZ9 17 5 .done)))))))))) (.e 14 (.or 8 (.e 10 (.e 12 (.e 15 (.e 16 (pZ9 17 5 .done))))) (.e 10 (.or 8 (.e 12 (.e 15 (.e 16 (pZ9 17 5 .done)))) (.e 12 (.or 8 (.e 15 (.e 16 (pZ9 17 5 .done))) (.e 15 (.e 8 (.e 16 (pZ9 17 5 .done)))))))))))))))))]}
def AS (n:Nat):I5:= [(37,Gb n),(39,Cg)]
def kP:An:= {loop:= [(5,⟨[1,2,8,24,25],[],[(26,false,vI)],[],[]⟩)],plan:= [(10,[6,11],[],true,(pZ9 0 6 (.q 6 (pZ9 7 4 (.q 11 (.e 12 (pZ9 13 5 .done)))))))]}
def GL:A2 Ho.args->Prop:=fun(x:B8d)=>let c:=(x.2.1.length:Int);let b:=(0:Int);∃(I:PH->Prop),∃(μ: _->Nat),I ([],b,())/\∀(p:PH),let g:Prop:=(b<=p.2.1/\p.2.1<c);let a:=(gx (b,b) x.2.1 p.2.1);(Ty.int i64).sl.wf p.1/\(Ty.int i64).wf p.2.1/\True->I p->(iB (decide (p.2.1<c)) (∃(J:Lp->Prop),((b<=b/\b<=p.2.1/\p.2.1<=c)/\V5 x.1 (List.drop b.toNat (List.take p.2.1.toNat x.2.1))/\rT7 fun r=>let f:=(r.1.length:Int);let e:Prop:=(gx b r.1 a.1≠gx b r.1 a.2);r.1=F8 x.1 (List.drop b.toNat (List.take p.2.1.toNat x.2.1))->g/\(b<=b/\b<(↑(2:Nat):Int))/\(b<=a.1/\a.1<f)/\g/\(b<=(1:Int)/\(1:Int)<(↑(2:Nat):Int))/\(b<=a.2/\a.2<f)/\(iB (decide e) (((p.1.length+ [p.2.1].length)*(8:Nat)<=(140737488355328:Nat)/\p.1.length+ [p.2.1].length<=9223372036854775807)/\J (p.1++ [p.2.1],())) (J (p.1,()))))/\∀(h:Lp),let d:=(h.1,i64.wrap (p.2.1+1),());(Ty.int i64).sl.wf h.1/\True->J h->I d/\μ d<μ p) (p.1=D5 x.1 x.2.1))
def Pn:Nat->A2 Jd.args->Prop:=fun(n:Nat) (x:List (Int×Int)×List Int×Int×Int×List Int×Unit)=>let L:Prop:=(x.2.2.1=x.2.2.2.1);let H:=(x.1.length:Int);let E:=(64:Nat);let u:=(1:Int);let t:=(x.2.1.length:Int);let q:=(x.2.2.2.2.1.length:Int);let m:=(140737488355328:Nat);let k:=(0:Int);let g:Prop:=(((0:Nat)+List.length x.2.2.2.2.1)*(8:Nat)<=m/\(0:Nat)+List.length x.2.2.2.2.1<=9223372036854775807);(decide L=true->(true=true->∃(p:List (Int×Int)),free x.1 x.2.1 x.2.2.2.2.1 x.2.2.1 x.2.2.2.1 p/\V3 EE=(List.map JQ p).reverse)/\(true=false->∀(p:List (Int×Int)),¬free x.1 x.2.1 x.2.2.2.2.1 x.2.2.1 x.2.2.2.1 p))/\(decide L=false->∃(I:C7->Prop),∃(μ: _->Nat),I (k,())/\∀(p:C7),let G:=(i64.wrap (p.1+u),());let s:Prop:=(k<=gx k x.2.1 p.1/\gx k x.2.1 p.1<H);let j:Prop:=(true=false->∀(p:List (Int×Int)),¬free x.1 x.2.1 x.2.2.2.2.1 x.2.2.1 x.2.2.2.1 p);let f:Prop:=((List.length x.2.2.2.2.1+ [gx k x.2.1 p.1].length)*(8:Nat)<=m/\List.length x.2.2.2.2.1+ [gx k x.2.1 p.1].length<=9223372036854775807);let d:=(gx (k,k) x.1 (gx k x.2.1 p.1));let c:Prop:=((List.Nodup x.2.1/\(∀(i:Int),i∈x.2.1->k<=i/\i<H)/\(x.2.2.2.2.1++ [gx k x.2.1 p.1]).length+(List.filter (fun(i:Int)=>decide ¬i∈x.2.2.2.2.1++ [gx k x.2.1 p.1]) x.2.1).length<=(1000:Nat))/\(List.filter (fun(i:Int)=>decide ¬i∈x.2.2.2.2.1++ [gx k x.2.1 p.1]) x.2.1).length<n);(Ty.int i64).wf p.1/\True->I p->(decide (p.1<t)=true->(k<=p.1/\p.1<t)/\∃(I_1:Bool×Int×Unit->Prop),∃(a4: _->Nat),I_1 (false,k,())/\∀(a2:Bool×Int×Unit),let o:=(J8 a2.1 true (decide (gx k x.2.2.2.2.1 a2.2.1=gx k x.2.1 p.1)),i64.wrap (a2.2.1+u),());Ty.bool.wf a2.1/\(Ty.int i64).wf a2.2.1/\True->I_1 a2->(decide (a2.2.1<q)=true->(k<=a2.2.1/\a2.2.1<q)/\I_1 o/\a4 o<a4 a2)/\(decide (a2.2.1<q)=false->∃(I_2:C7->Prop),∃(a5: _->Nat),I_2 (k,())/\∀(a3:C7),let K:=(decide (a3.1<2));let F:=(i64.wrap (a3.1+u),());let D:Prop:=(Bool.rec d.2 d.1 (decide (a3.1=k))≠x.2.2.1);let l:=(i64.wrap (u-i64.wrap (2*a3.1)));let h:=(decide (i64.wrap (u-a3.1)=k));(Ty.int i64).wf a3.1/\True->I_2 a3->(J8 K (!a2.1) false=true->∃(J:Unit->Prop),let b:Prop:=(f/\c/\∀(r:jJ),Pu r.1/\True/\True->(r.2.1=true->∃(a0:List (Int×Int)),free x.1 x.2.1 (x.2.2.2.2.1++ [gx k x.2.1 p.1]) (Bool.rec d.2 d.1 h) x.2.2.2.1 a0/\r.1=(List.map JQ a0).reverse)/\(r.2.1=false->∀(a0:List (Int×Int)),¬free x.1 x.2.1 (x.2.2.2.2.1++ [gx k x.2.1 p.1]) (Bool.rec d.2 d.1 h) x.2.2.2.1 a0)->(r.2.1=true->True/\∀(a1:D0),let v:=(gx k x.2.1 p.1,a1.1);Qt a1.1/\True->a1.1=ri l->((List.length r.1+ [v].length)*E<=m/\List.length r.1+ [v].length<=9223372036854775807)/\(true=true->∃(a0:List (Int×Int)),free x.1 x.2.1 x.2.2.2.2.1 x.2.2.1 x.2.2.2.1 a0/\r.1++ [v]=(List.map JQ a0).reverse)/\j)/\(r.2.1=false->J ()));let a:Prop:=(g/\f/\c/\∀(r:jJ),Pu r.1/\True/\True->(r.2.1=true->∃(a0:List (Int×Int)),free x.1 x.2.1 (x.2.2.2.2.1++ [gx k x.2.1 p.1]) (Bool.rec d.2 d.1 h) x.2.2.2.1 a0/\r.1=(List.map JQ a0).reverse)/\(r.2.1=false->∀(a0:List (Int×Int)),¬free x.1 x.2.1 (x.2.2.2.2.1++ [gx k x.2.1 p.1]) (Bool.rec d.2 d.1 h) x.2.2.2.1 a0)->(r.2.1=true->True/\∀(a1:D0),let w:=(gx k x.2.1 p.1,a1.1);Qt a1.1/\True->a1.1=ri l->((List.length r.1+ [w].length)*E<=m/\List.length r.1+ [w].length<=9223372036854775807)/\(true=true->∃(a0:List (Int×Int)),free x.1 x.2.1 x.2.2.2.2.1 x.2.2.1 x.2.2.2.1 a0/\r.1++ [w]=(List.map JQ a0).reverse)/\j)/\(r.2.1=false->J ()));let e:Prop:=(a/\g/\f/\c/\∀(r:jJ),Pu r.1/\True/\True->(r.2.1=true->∃(a0:List (Int×Int)),free x.1 x.2.1 (x.2.2.2.2.1++ [gx k x.2.1 p.1]) (Bool.rec d.2 d.1 h) x.2.2.2.1 a0/\r.1=(List.map JQ a0).reverse)/\(r.2.1=false->∀(a0:List (Int×Int)),¬free x.1 x.2.1 (x.2.2.2.2.1++ [gx k x.2.1 p.1]) (Bool.rec d.2 d.1 h) x.2.2.2.1 a0)->(r.2.1=true->True/\∀(a1:D0),let y:=(gx k x.2.1 p.1,a1.1);Qt a1.1/\True->a1.1=ri l->((List.length r.1+ [y].length)*E<=m/\List.length r.1+ [y].length<=9223372036854775807)/\(true=true->∃(a0:List (Int×Int)),free x.1 x.2.1 x.2.2.2.2.1 x.2.2.1 x.2.2.2.1 a0/\r.1++ [y]=(List.map JQ a0).reverse)/\j)/\(r.2.1=false->J ()));(s/\(k<=a3.1/\a3.1<(↑(2:Nat):Int))/\(decide D=true->J ())/\(decide D=false->s/\(k<=i64.wrap (u-a3.1)/\i64.wrap (u-a3.1)<(↑(2:Nat):Int))/\(e/\g/\f/\c/\∀(r:jJ),Pu r.1/\True/\True->(r.2.1=true->∃(a0:List (Int×Int)),free x.1 x.2.1 (x.2.2.2.2.1++ [gx k x.2.1 p.1]) (Bool.rec d.2 d.1 h) x.2.2.2.1 a0/\r.1=(List.map JQ a0).reverse)/\(r.2.1=false->∀(a0:List (Int×Int)),¬free x.1 x.2.1 (x.2.2.2.2.1++ [gx k x.2.1 p.1]) (Bool.rec d.2 d.1 h) x.2.2.2.1 a0)->(r.2.1=true->True/\∀(a1:D0),let z:=(gx k x.2.1 p.1,a1.1);Qt a1.1/\True->a1.1=ri l->((List.length r.1+ [z].length)*E<=m/\List.length r.1+ [z].length<=9223372036854775807)/\(true=true->∃(a0:List (Int×Int)),free x.1 x.2.1 x.2.2.2.2.1 x.2.2.1 x.2.2.2.1 a0/\r.1++ [z]=(List.map JQ a0).reverse)/\j)/\(r.2.1=false->J ()))/\(e/\(g/\b/\b/\f/\c/\∀(r:jJ),Pu r.1/\True/\True->(r.2.1=true->∃(a0:List (Int×Int)),free x.1 x.2.1 (x.2.2.2.2.1++ [gx k x.2.1 p.1]) (Bool.rec d.2 d.1 h) x.2.2.2.1 a0/\r.1=(List.map JQ a0).reverse)/\(r.2.1=false->∀(a0:List (Int×Int)),¬free x.1 x.2.1 (x.2.2.2.2.1++ [gx k x.2.1 p.1]) (Bool.rec d.2 d.1 h) x.2.2.2.1 a0)->(r.2.1=true->True/\∀(a1:D0),let A:=(gx k x.2.1 p.1,a1.1);Qt a1.1/\True->a1.1=ri l->((List.length r.1+ [A].length)*E<=m/\List.length r.1+ [A].length<=9223372036854775807)/\(true=true->∃(a0:List (Int×Int)),free x.1 x.2.1 x.2.2.2.2.1 x.2.2.1 x.2.2.2.1 a0/\r.1++ [A]=(List.map JQ a0).reverse)/\j)/\(r.2.1=false->J ()))/\a/\g/\b/\f/\c/\∀(r:jJ),Pu r.1/\True/\True->(r.2.1=true->∃(a0:List (Int×Int)),free x.1 x.2.1 (x.2.2.2.2.1++ [gx k x.2.1 p.1]) (Bool.rec d.2 d.1 h) x.2.2.2.1 a0/\r.1=(List.map JQ a0).reverse)/\(r.2.1=false->∀(a0:List (Int×Int)),¬free x.1 x.2.1 (x.2.2.2.2.1++ [gx k x.2.1 p.1]) (Bool.rec d.2 d.1 h) x.2.2.2.1 a0)->(r.2.1=true->True/\∀(a1:D0),let B:=(gx k x.2.1 p.1,a1.1);Qt a1.1/\True->a1.1=ri l->((List.length r.1+ [B].length)*E<=m/\List.length r.1+ [B].length<=9223372036854775807)/\(true=true->∃(a0:List (Int×Int)),free x.1 x.2.1 x.2.2.2.2.1 x.2.2.1 x.2.2.2.1 a0/\r.1++ [B]=(List.map JQ a0).reverse)/\j)/\(r.2.1=false->J ()))/\a/\a/\g/\b/\f/\c/\∀(r:jJ),Pu r.1/\True/\True->(r.2.1=true->∃(a0:List (Int×Int)),free x.1 x.2.1 (x.2.2.2.2.1++ [gx k x.2.1 p.1]) (Bool.rec d.2 d.1 h) x.2.2.2.1 a0/\r.1=(List.map JQ a0).reverse)/\(r.2.1=false->∀(a0:List (Int×Int)),¬free x.1 x.2.1 (x.2.2.2.2.1++ [gx k x.2.1 p.1]) (Bool.rec d.2 d.1 h) x.2.2.2.1 a0)->(r.2.1=true->True/\∀(a1:D0),let C:=(gx k x.2.1 p.1,a1.1);Qt a1.1/\True->a1.1=ri l->((List.length r.1+ [C].length)*E<=m/\List.length r.1+ [C].length<=9223372036854775807)/\(true=true->∃(a0:List (Int×Int)),free x.1 x.2.1 x.2.2.2.2.1 x.2.2.1 x.2.2.2.1 a0/\r.1++ [C]=(List.map JQ a0).reverse)/\j)/\(r.2.1=false->J ())))/\∀(p:Unit),True->J p->I_2 F/\a5 F<a5 a3)/\(J8 K (!a2.1) false=false->I G/\μ G<μ p)))/\(decide (p.1<t)=false->(false=true->∃(p:List (Int×Int)),free x.1 x.2.1 x.2.2.2.2.1 x.2.2.1 x.2.2.2.1 p/\V3 EE=(List.map JQ p).reverse)/\(false=false->∀(p:List (Int×Int)),¬free x.1 x.2.1 x.2.2.2.2.1 x.2.2.1 x.2.2.2.1 p)))
def ZW (n:Nat) (x:A2 Jd.args):B7p ⟨prog,tys⟩ (AS n) PU (Gb (n+1)) f37.results.toList (f37.body.getD .skip) x=Pn n x:=by kernel_rfl
def A1n (n:Nat) (hsp:Qx prog (AS n)) (h:∀x,awf Jd.args x->(Gb (n+1)).pre x->Pn n x):A7 prog 37 (Gb (n+1)):=nJ (cx:=⟨prog,tys⟩) (sp:=AS n) (an:=PU) (s:=Gb (n+1)) (fn:=f37) (c:=f37.body.getD .skip) func37 (by kernel_rfl) (qU (by kernel_rfl)) (by kernel_rfl) A4 hsp (ZW n) h
def RQ:A2 Nh.args->Prop:=fun(x:Int×List (Int×Int)×Int×Unit)=>let l:=(1:Int);let b:=(x.2.1.length:Int);let h:=(decide (b<=x.2.2.1));let a:=(0:Int);let j:=(decide (x.2.2.1<a));let g:Prop:=(a<=x.2.2.1/\x.2.2.1<b);let c:=(gx (a,a) x.2.1 x.2.2.1);(iB (J8 j true h) (V3 EE=Zl x.1 x.2.1 x.2.2.1/\(12:Int)=Zk x.1 x.2.1 x.2.2.1) ((V5 x.1 x.2.1/\List.length x.2.1<=100000)/\rT7 fun r=>let e:=(r.1.length:Int);r.1=D5 x.1 x.2.1->∃(I:C7->Prop),∃(μ: _->Nat),I (a,())/\∀(p:C7),let k:Prop:=(gx a r.1 p.1=x.2.2.1);let f:=(i64.wrap (p.1+l),());(Ty.int i64).wf p.1/\True->I p->(iB (decide (p.1<e)) ((a<=p.1/\p.1<e)/\(iB (decide k) (V3 EE=Zl x.1 x.2.1 x.2.2.1/\(20:Int)=Zk x.1 x.2.1 x.2.2.1) (I f/\μ f<μ p))) (g/\(a<=l/\l<(↑(2:Nat):Int))/\g/\(a<=a/\a<(↑(2:Nat):Int))/\(List.Nodup r.1/\(∀(i:Int),i∈r.1->a<=i/\i<b)/\(0:Nat)+(List.filter (fun(i:Int)=>decide ¬i∈ []) r.1).length<=(1000:Nat))/\∀(m:jJ),Pu m.1/\True/\True->(iB m.2.1 (∃(p:List (Int×Int)),free x.2.1 r.1 [] c.2 c.1 p/\m.1=(List.map JQ p).reverse) (∀(p:List (Int×Int)),¬free x.2.1 r.1 [] c.2 c.1 p))->True/\H1 fun r=>let d:=(x.2.2.1,r.1);r.1=ri l->((List.length m.1+ [d].length)*(64:Nat)<=(140737488355328:Nat)/\List.length m.1+ [d].length<=9223372036854775807)/\Oo (m.1++ [d])/\rT6 fun n=>TK (A8 (m.1++ [d])) n.1->n.1=Zl x.1 x.2.1 x.2.2.1/\a=Zk x.1 x.2.1 x.2.2.1))))
end Go.Proofs.YthclcjfodjhmlaaGreat
namespace Go.Proofs.YthclcjfodjhmlaaGreat
open Go.Proofs.Tryz
open Go.IntKind (i64 u32)
def Gi (g:D2->Rat):List D2->Rat
 | []=>0
 |e::l=>g e+Gi g l
def A7i {g:D2->Rat} {l m:List D2} (h:l.Perm m):Gi g l=Gi g m:=by
 induction h with
 |nil=>rfl
 |cons x _ ih=>rw[Gi,Gi,ih]
 |swap x y l=>simp only[Gi];grind
 |trans _ _ h1 u=>exact h1.trans u
def nI {g:D2->Rat} {l m:List D2} :Gi g (l++m)=Gi g l+Gi g m:=by
 induction l with
 |nil=>rw[wE,Gi,tL]
 |cons e l u=>rw[xT,Gi,Gi,u,xR]
def A1m {g k:D2->Rat} {l:List D2} (h:∀e∈l,g e=k e):Gi g l=Gi k l:=by
 induction l with
 |nil=>rfl
 |cons e l u=>rw[Gi,Gi,h e (rF ..),u fun x hx=>h x (qL _ hx)]
def oT (ls:List Ln) (φ:Int->Rat) (e:D2):Rat:=rv e.2*(φ (Oi ls e.1).1-φ (Oi ls e.1).2)
def WK {ls:List Ln} {φ:Int->Rat} :∀ {p:List (Int×Int)} {u v:Int},AY ls u v p->Gi (oT ls φ) (p.map JQ)=φ u-φ v
 | [],u,v,h=>by cases h;rw[g0w,Gi];grind
 |e::p,u,v,⟨w,hw,h⟩=>by
  have ih:=WK (φ:=φ) h;simp only[rV,Gi,ih,oT,JQ,oK];rcases hw with⟨hs,hl⟩ | ⟨hs,hl⟩<;>rw[hl,hs]
  . rw[show((1:Int):Rat)=1 from rfl];grind
  . rw[show((-1:Int):Rat)= -1 from rfl];grind
section
variable {n:Int} {ls:List Ln} {line:Int}
def B2k (u:V5 n ls) (h0:0<=line) (h1:line<(ls.length:Int)) (hl:line∉D5 n ls) (φ:Int->Rat):Gi (oT ls φ) (Oj n ls line)=0:=by
 have a0:=u.2.2 _ (Lj h0 h1);obtain⟨p,hp⟩:=way u a0.2.2.1 a0.2.2.2 a0.1 a0.2.1 (Ga u.1 u.2.2 (Lj h0 h1)).symm;rw[<-A7i (Qb u h0 h1 hl hp).1,Gi,WK hp.1];simp only[oT,oK];rw[show((1:Int):Rat)=1 from rfl];grind
def WJ (u:V5 n ls) (h0:0<=line) (h1:line<(ls.length:Int)) (hl:line∉D5 n ls):∀e∈Oj n ls line,(0<=e.1/\e.1<(ls.length:Int))/\(e.2=ri 1\/e.2=ri (-1)):=by
 have a0:=u.2.2 _ (Lj h0 h1);obtain⟨p,hp⟩:=way u a0.2.2.1 a0.2.2.2 a0.1 a0.2.1 (Ga u.1 u.2.2 (Lj h0 h1)).symm;obtain⟨g1,_,g3⟩:=Qb u h0 h1 hl hp;intro e he;have a1:=g1.mem_iff.2 he;refine⟨?_,g3 e a1⟩;rcases qR.1 a1 with rfl|hm
 . exact⟨h0,h1⟩
 . obtain⟨x,hx,rfl⟩:=rX.1 hm;exact Fp (hp.2.1 x hx).1
def B2j (line:Int):(Oj n ls line).length<=ls.length:=by
 unfold Oj;refine rA (List.length_filterMap_le _ _) ?_;rw[yK];exact rC _
end
def A7g {n:Int} {ls:List Ln} {line:Int} (h:line<0\/(ls.length:Int)<=line):Zl n ls line= []/\Zk n ls line=12:=by
 unfold Zl Zk;rw[qO (by omega),qO (by omega)];exact⟨rfl,rfl⟩
def KT {n:Int} {ls:List Ln} {line:Int} (u:0<=line) (h1:line<(ls.length:Int)) (h:line∈D5 n ls):Zl n ls line= []/\Zk n ls line=20:=by
 unfold Zl Zk;rw[qZ ⟨u,h1⟩,qZ h,qZ ⟨u,h1⟩,qZ h];exact⟨rfl,rfl⟩
def WI {n:Int} {ls:List Ln} {line:Int} (u:0<=line) (h1:line<(ls.length:Int)) (h:line∉D5 n ls):Zl n ls line=Oj n ls line/\Zk n ls line=0:=by
 unfold Zl Zk;rw[qZ ⟨u,h1⟩,qO h,qZ ⟨u,h1⟩,qO h];exact⟨rfl,rfl⟩
def DO (E:List Wc):(Iz E).length=E.length:=sC _
def C0s {N:Qw} (hv:D8 N) {e:Int} (h0:0<=e) (h1:e<(N.2.length:Int)):Oi (Iz N.2) e=((Fx N.2 e.toNat:Int),(Gl N.2 e.toNat:Int)):=by
 have u:e.toNat<N.2.length:=by omega
 have:=A0k hv u;unfold Oi Iz;rw[qF,vJ,qM u];have hg:N.2.getD e.toNat dB=N.2[e.toNat]:=by rw[qF,qM u];rfl
 rw[hg]at this;show(N.2[e.toNat].1,N.2[e.toNat].2.1)= _;rw[this.1,this.2]
def A7h {N:Qw} (hv:D8 N) {line:Int} (h0:0<=line) (h1:line<(N.2.length:Int)) (hl:line∉D5 N.1 (Iz N.2)) (t:Nat->Rat):Gi (fun e=>rv e.2*(Mb N.2 t e.1.toNat/Ye N.2 e.1.toNat-UX N.2 e.1.toNat)) (Oj N.1 (Iz N.2) line)=0:=by
 have u:line<((Iz N.2).length:Int):=by rw[DO];exact h1
 rw[<-B2k (Ux hv) h0 u hl (fun b=>t b.toNat)];refine A1m fun e he=> ?_
 obtain⟨⟨e0,e1⟩, -⟩:=WJ (Ux hv) h0 u hl e he;rw[DO]at e1;unfold oT;rw[C0s hv e0 e1];have hk:e.1.toNat<N.2.length:=by omega
 have hs:0<Ye N.2 e.1.toNat:=(hv.2.2.2 _ (B9 (d:=dB) hk)).2.2.2.2.2;have a0:Ye N.2 e.1.toNat≠0:=fun h=>by rw[h]at hs;exact absurd hs g0i
 have hf:Mb N.2 t e.1.toNat/Ye N.2 e.1.toNat=t (Fx N.2 e.1.toNat)-t (Gl N.2 e.1.toNat)+UX N.2 e.1.toNat:=by
  unfold Mb flw;rw[wH,g2j, <-vX,zS _ a0,xN]
 rw[hf];simp only[qJ];grind
end Go.Proofs.YthclcjfodjhmlaaGreat
namespace Go.Proofs.YthclcjfodjhmlaaGreat
open Go.Proofs.Tryz
open Go.Vc Go.Gw
open Go.IntKind (i64 u32)
def PQ (x:A2 Ho.args) (hw:awf Ho.args x) (hp:Ho.pre x):GL x:=by
 obtain⟨n,ls,_⟩:=x;change Int at n;change List (Int×Int)at ls;obtain⟨a3,hl⟩:V5 n ls/\ls.length<=100000:=hp;obtain⟨n0,n1,nb⟩:=id a3;simp only[GL,iB,rT7];refine⟨fun p=>0<=p.2.1/\p.2.1<=(ls.length:Int)/\p.1=(D1 n ls p.2.1.toNat).2.1,fun p=>((ls.length:Int)-p.2.1).toNat,⟨qG _,qD _,rfl⟩, ?_⟩;rintro⟨f,i,_⟩ _ ⟨h0,h1,h2⟩;change Int at i;change List Int at f;simp only at h0 h1 h2⊢;have a5:=cR a3 (k:=i.toNat) (by omega);rw[<-h2]at a5;obtain⟨t1,_⟩:=Dw a3 i.toNat (by omega);refine⟨fun hi=> ?_,fun hi=> ?_⟩
 . have hi:=qA hi;have a4:ER n (gx ((0:Int),(0:Int)) ls i):=nb _ (H0 h0 hi);have hg:=E5 (d:=((0:Int),(0:Int))) h0 hi;generalize gx ((0:Int),(0:Int)) ls i=l at a4 hg⊢;obtain⟨a,b⟩:=l;obtain⟨a0,a1,b0,b1⟩:=a4;simp only at a0 a1 b0 b1⊢;rw[show List.drop (Int.toNat 0) (List.take i.toNat ls)=ls.take i.toNat from rfl];refine⟨fun p=>p.1=(D1 n ls (i.toNat+1)).2.1,⟨⟨by omega,h0,by omega⟩,⟨n0,n1,fun l hl=>nb l (rU hl)⟩, ?_⟩, ?_⟩
   . rintro⟨r,_⟩ _ hr;simp only at hr⊢;have a6:r.length=n.toNat:=by rw[hr,W2]
     have ga:gx 0 r a=C0 (D1 n ls i.toNat).1 a:=by rw[E5 a0 (by omega),t1, <-hr];rfl
     have gb:gx 0 r b=C0 (D1 n ls i.toNat).1 b:=by rw[E5 b0 (by omega),t1, <-hr];rfl
     rw[ga,gb];refine⟨⟨h0,hi⟩,⟨by omega,by omega⟩,⟨a0,by omega⟩,⟨h0,hi⟩,⟨by omega,by omega⟩,⟨b0,by omega⟩,fun a2=>⟨⟨by simp only[qY];omega,by simp only[qY];omega⟩, ?_⟩,fun u=> ?_⟩
     . have a2:=qA a2;show f++ [i]= _;rw[D1];simp only[<-hg];rw[qO a2, <-h2,show((i.toNat:Nat):Int)=i from by omega]
     . have u:C0 (D1 n ls i.toNat).1 a=C0 (D1 n ls i.toNat).1 b:=by simpa using u
       show f= _;rw[D1];simp only[<-hg];rw[qZ u, <-h2]
   . rintro⟨f',_⟩ _ k1;simp only at k1⊢;rw[wv (by omega),show(i+1).toNat=i.toNat+1 from by omega];exact⟨⟨by omega,by omega,k1⟩,by omega⟩
 . have hi:=qB hi;rw[show i.toNat=ls.length from by omega]at h2;exact h2
def mE {ls:List Ln} {fo used:List Int} {u v:Int} {p:List (Int×Int)} (h:free ls fo used u v p):p.length<=(fo.filter fun i=>decide (i∉used)).length:=by
 have:=Ro h.2.2 (b:=fo.filter fun i=>decide (i∉used)) fun x hx=>by
  obtain⟨e,he,rfl⟩:=rX.1 hx;rw[vP];exact⟨(h.2.1 e he).1,rD (h.2.1 e he).2⟩
 rwa[sC]at this
def lX {u used:List Int} {i:Int} (hi:i∈u) (hu:i∉used):(u.filter fun j=>decide (j∉used++ [i])).length<(u.filter fun j=>decide (j∉used)).length:=by
 rw[<-wV, <-wV]
 induction u with
 |nil=>cases hi
 |cons a u ih=>
  rw[g4t,g4t];have a1:List.countP (fun j=>decide (j∉used++ [i])) u<=List.countP (fun j=>decide (j∉used)) u:=g2u fun x _ hx=>by
   have hx:=qA hx;exact rD fun h=>hx (qV.2 (.inl h))
  by_cases ha:a=i
  . subst ha;rw[qO (by simp),qZ (by simpa using hu)];omega
  . have a0:i∈u:=by
     rcases qR.1 hi with h|h
     . exact absurd h.symm ha
     . exact h
    have:=ih a0;have e:decide (a∉used++ [i])=decide (a∉used):=by
     rw[uY];simp[ha]
    rw[e];omega
def ZX (n:Nat) (x:A2 Jd.args) (hw:awf Jd.args x) (hp:(Gb (n+1)).pre x):Pn n x:=by
 obtain⟨ls,fo,u,v,used,_⟩:=x;have ak:fo.length<=9223372036854775807:=hw.2.1.1;change List (Int×Int)at ls;change List Int at fo used;change Int at u v;obtain⟨⟨ad,hr,aj⟩,hm⟩:(fo.Nodup/\(∀i∈fo,0<=i/\i<(ls.length:Int))/\used.length+(fo.filter fun i=>decide (i∉used)).length<=1000)/\(fo.filter fun i=>decide (i∉used)).length<n+1:=hp;simp only[Pn];refine⟨fun h=>⟨fun _=>⟨[],⟨(show u=v from qA h),by simp,by simp⟩,rfl⟩,fun h=>(by cases h)⟩,fun h=> ?_⟩;have ah:u≠v:=qB h;refine⟨fun p=>0<=p.1/\p.1<=(fo.length:Int)/\∀i∈fo.take p.1.toNat,∀s,∀p,¬free ls fo used u v ((i,s)::p),fun p=>((fo.length:Int)-p.1).toNat,⟨qG _,qD _,by simp⟩, ?_⟩;rintro⟨j,_⟩ _ ⟨h0,h1,h2⟩;change Int at j;simp only at h0 h1 h2⊢;refine⟨fun hj=>⟨⟨h0,qA hj⟩, ?_⟩,fun hj=>⟨fun h=>(by cases h),fun _ p hp=> ?_⟩⟩
 . have hj:=qA hj;have hi:gx 0 fo j∈fo:=H0 h0 hj;have ag:fo.take (j+1).toNat=fo.take j.toNat++ [gx 0 fo j]:=by
    rw[show(j+1).toNat=j.toNat+1 from by omega,rS,G9 (d:=(0:Int)) h0 hj];rfl
   generalize gx 0 fo j=i at*;obtain⟨i0,i1⟩:=hr i hi;refine⟨fun p=>0<=p.2.1/\p.2.1<=(used.length:Int)/\p.1=decide (i∈used.take p.2.1.toNat),fun p=>((used.length:Int)-p.2.1).toNat,⟨qG _,qD _,by simp⟩, ?_⟩;rintro⟨old,k,_⟩ _ ⟨k0,k1,k2⟩;change Int at k;change Bool at old;simp only at k0 k1 k2⊢;refine⟨fun hk=> ?_,fun hk=> ?_⟩
   . have hk:=qA hk;rw[wv (by omega)];refine⟨⟨k0,hk⟩,⟨by omega,by omega, ?_⟩,by omega⟩;rw[J3,k2,show(k+1).toNat=k.toNat+1 from by omega,rS,G9 (d:=(0:Int)) k0 hk];generalize gx 0 used k=y;by_cases hy:y=i
     . simp[hy]
     . simp[hy,Ne.symm hy]
   have hk:=qB hk;rw[D7 (by omega)]at k2;subst k2;refine⟨fun p=>0<=p.1/\p.1<=2/\(i∉used->(1<=p.1->∀p,¬free ls fo used u v ((i,1)::p))/\(2<=p.1->∀p,¬free ls fo used u v ((i, -1)::p))),fun p=>(2-p.1).toNat,⟨qG _,by show(0:Int)<=2;omega,fun _=>⟨fun h=>(by have h:(1:Int)<=0:=h;omega),fun h=>(by have h:(2:Int)<=0:=h;omega)⟩⟩, ?_⟩;rintro⟨d,_⟩ _ ⟨d0,d1,d2⟩;change Int at d;simp only at d0 d1 d2⊢;refine⟨fun hd=> ?_,fun hd=> ?_⟩
   . rw[I3]at hd;simp only[qC,rT,rR,rQ]at hd;obtain⟨hd,hu⟩:=hd;obtain⟨q1,q2⟩:=d2 hu;have ac:gx (0,0) ls i=Oi ls i:=E5 i0 i1;rw[ac];have aa:=lX hi hu;have hA:((0+used.length)*8<=140737488355328/\0+used.length<=9223372036854775807):=⟨by omega,by omega⟩;have hB:((used.length+ [i].length)*8<=140737488355328/\used.length+ [i].length<=9223372036854775807):=by simp only[qY];exact⟨by omega,by omega⟩
     have hP:(fo.Nodup/\(∀i∈fo,0<=i/\i<(ls.length:Int))/\(used++ [i]).length+(fo.filter fun j=>decide (j∉used++ [i])).length<=1000)/\(fo.filter fun j=>decide (j∉used++ [i])).length<n:=⟨⟨ad,hr,by rw[rN,qY];omega⟩,by omega⟩;have hJ:∀(w s:Int),(s=1/\Oi ls i=(u,w))\/(s= -1/\Oi ls i=(w,u))->∀(r:List D2) (ok:Bool),(ok=true->∃p,free ls fo (used++ [i]) w v p/\r=(p.map JQ).reverse)->(ok=false->∀p,¬free ls fo (used++ [i]) w v p)->
      (ok=true->(r.length<=1000/\∃p,free ls fo used u v p/\r++ [(i,ri s)]=(p.map JQ).reverse))/\(ok=false->∀p,¬free ls fo used u v ((i,s)::p)):=fun w s hs r ok h1 h2=>by
      refine⟨fun a4=> ?_,fun a4 p hp=> ?_⟩
      . obtain⟨p,hp,rfl⟩:=h1 a4;refine⟨?_,(i,s)::p,⟨⟨w,hs,hp.1⟩,fun e he=> ?_, ?_⟩, ?_⟩
        . rw[g3t,sC];have:=mE hp;omega
        . rcases qR.1 he with rfl|he
          . exact⟨hi,hu⟩
          . exact⟨(hp.2.1 e he).1,fun h=>(hp.2.1 e he).2 (qV.2 (.inl h))⟩
        . rw[rV,sD];refine⟨fun hm=> ?_,hp.2.2⟩;obtain⟨e,he,ab⟩:=rX.1 hm;exact(hp.2.1 e he).2 (by rw[ab];simp)
        . rw[rV,List.reverse_cons];rfl
      . obtain⟨⟨w',af,ae⟩,a7,a5⟩:=hp;have ai:w'=w:=by
         rcases hs with⟨a1,a2⟩ | ⟨a1,a2⟩<;>rcases af with⟨b1,b2⟩ | ⟨b1,b2⟩
         . rw[a2]at b2;exact(g0l b2).2.symm
         . change s= -1 at b1;omega
         . change s=1 at b1;omega
         . rw[a2]at b2;exact(g0l b2).1.symm
        subst ai;rw[rV,sD]at a5;refine h2 a4 p ⟨ae,fun e he=>⟨(a7 e (by simp[he])).1,fun h=> ?_⟩,a5.2⟩;rcases qV.1 h with h|h
        . exact(a7 e (by simp[he])).2 h
        . rw[qP]at h;exact a5.1 (rX.2 ⟨e,he,h⟩)
     have a6:d=0\/d=1:=by omega
     rcases a6 with rfl|rfl
     . have w1:i64.wrap (1-0)=1:=by rw[wv (by omega)];rfl
       have w2:i64.wrap (1-i64.wrap (2*0))=1:=by rw[wv (a:=2*0) (by omega),wv (by omega)];rfl
       have w3:i64.wrap (0+1)=1:=by rw[wv (by omega)];rfl
       have t0:decide ((0:Int)=0)=true:=rfl;have t1:decide ((1:Int)=0)=false:=rfl;rw[w1,w2,w3,t0,t1];refine⟨fun _=>∀p,¬free ls fo used u v ((i,1)::p),⟨⟨i0,i1⟩,⟨by decide,by decide⟩,fun a0=> ?_,fun a0=>⟨⟨i0,i1⟩,⟨by decide,by decide⟩, ?_⟩⟩, ?_⟩
       . intro p hp;have a0:=qA a0;obtain⟨⟨w,hs,_⟩,_⟩:=hp;rcases hs with⟨_,hs⟩ | ⟨hs,_⟩
         . exact a0 (by rw[hs])
         . change(1:Int)= -1 at hs;omega
       . have he:(Oi ls i).1=u:=by simpa using a0
         have hJ:=hJ (Oi ls i).2 1 (.inl ⟨rfl,by rw[<-he]⟩)
         repeat' first
          |exact hA
          |exact hB
          |exact hP
          | (rintro⟨r,ok,_⟩ _ ⟨h1,h2⟩
             obtain⟨j1,j2⟩:=hJ r ok h1 h2;refine⟨fun ht=>⟨trivial, ?_⟩,j2⟩;obtain⟨j3,p,j4,j5⟩:=j1 ht;rintro⟨q,_⟩ _ hq;simp only at hq j3 j5⊢;subst hq;exact⟨⟨by simp only[qY];omega,by simp only[qY];omega⟩,fun _=>⟨p,j4,j5⟩,fun h=>(by cases h)⟩)
          |refine⟨?_, ?_⟩
       . rintro _ _ a3;exact⟨⟨by decide,by decide,fun _=>⟨fun _=>a3,fun h=>(by have h:(2:Int)<=1:=h;omega)⟩⟩,by decide⟩
     . have w1:i64.wrap (1-1)=0:=by rw[wv (by omega)];rfl
       have w2:i64.wrap (1-i64.wrap (2*1))= -1:=by rw[wv (a:=2*1) (by omega),wv (by omega)];rfl
       have w3:i64.wrap (1+1)=2:=by rw[wv (by omega)];rfl
       have t0:decide ((0:Int)=0)=true:=rfl;have t1:decide ((1:Int)=0)=false:=rfl;rw[w1,w2,w3,t0,t1];refine⟨fun _=>∀p,¬free ls fo used u v ((i, -1)::p),⟨⟨i0,i1⟩,⟨by decide,by decide⟩,fun a0=> ?_,fun a0=>⟨⟨i0,i1⟩,⟨by decide,by decide⟩, ?_⟩⟩, ?_⟩
       . intro p hp;have a0:=qA a0;obtain⟨⟨w,hs,_⟩,_⟩:=hp;rcases hs with⟨hs,_⟩ | ⟨_,hs⟩
         . change(-1:Int)=1 at hs;omega
         . exact a0 (by rw[hs])
       . have he:(Oi ls i).2=u:=by simpa using a0
         have hJ:=hJ (Oi ls i).1 (-1) (.inr ⟨rfl,by rw[<-he]⟩)
         repeat' first
          |exact hA
          |exact hB
          |exact hP
          | (rintro⟨r,ok,_⟩ _ ⟨h1,h2⟩
             obtain⟨j1,j2⟩:=hJ r ok h1 h2;refine⟨fun ht=>⟨trivial, ?_⟩,j2⟩;obtain⟨j3,p,j4,j5⟩:=j1 ht;rintro⟨q,_⟩ _ hq;simp only at hq j3 j5⊢;subst hq;exact⟨⟨by simp only[qY];omega,by simp only[qY];omega⟩,fun _=>⟨p,j4,j5⟩,fun h=>(by cases h)⟩)
          |refine⟨?_, ?_⟩
       . rintro _ _ a3;exact⟨⟨by decide,by decide,fun hu=>⟨fun _=>q1 (by omega),fun _=>a3⟩⟩,by decide⟩
   . rw[I3]at hd;simp only[wK,rQ,zM,rT]at hd;rw[wv (by omega)];refine⟨⟨by omega,by omega, ?_⟩,by omega⟩;rw[ag];intro y hy s p hp;rcases qV.1 hy with hy|hy
     . exact h2 y hy s p hp
     . rw[qP]at hy;subst hy;have a8:y∉used:=(hp.2.1 (y,s) (by simp)).2;obtain⟨q1,q2⟩:=d2 a8;have a9:2<=d:=by
        rcases hd with hd|hd
        . omega
        . exact absurd hd a8
       obtain⟨w,hs,_⟩:=hp.1;rcases hs with⟨hs,_⟩ | ⟨hs,_⟩
       . change s=1 at hs;subst hs;exact q1 (by omega) p hp
       . change s= -1 at hs;subst hs;exact q2 a9 p hp
 . have hj:=qB hj;rw[D7 (by omega)]at h2;cases p with
   |nil=>exact ah hp.1
   |cons e p=>exact h2 e.1 (hp.2.1 e (by simp)).1 e.2 p hp
def ZV (x:A2 Nh.args) (hw:awf Nh.args x) (hp:Nh.pre x):RQ x:=by
 obtain⟨n,ls,line,_⟩:=x;change Int at n line;change List (Int×Int)at ls;obtain⟨u,hl⟩:V5 n ls/\ls.length<=9:=hp;simp only[RQ,iB,H1,rT6,rT7];refine⟨fun hr=> ?_,fun hr=>⟨⟨u,by omega⟩, ?_⟩⟩
 . rw[J3]at hr;simp only[uL,rT]at hr;obtain⟨e1,e2⟩:=A7g (n:=n) hr;exact⟨e1.symm,e2.symm⟩
 rw[J3]at hr;simp only[rM,rQ]at hr;have l0:0<=line:=by omega
 have l1:line<(ls.length:Int):=by omega
 rintro⟨F,_⟩ _ hF;simp only at hF⊢;subst hF;have a9:(D5 n ls).length<=16384:=cR u (k:=ls.length) (rC _);refine⟨fun p=>0<=p.1/\p.1<=((D5 n ls).length:Int)/\line∉(D5 n ls).take p.1.toNat,fun p=>(((D5 n ls).length:Int)-p.1).toNat,⟨qG _,qD _,by simp⟩, ?_⟩;rintro⟨j,_⟩ _ ⟨h0,h1,h2⟩;change Int at j;simp only at h0 h1 h2⊢;refine⟨fun hj=> ?_,fun hj=> ?_⟩
 . have hj:=qA hj;refine⟨⟨h0,hj⟩,fun he=> ?_,fun he=> ?_⟩
   . have he:=qA he;obtain⟨e1,e2⟩:=KT (n:=n) l0 l1 (he▸H0 (d:=(0:Int)) h0 hj);exact⟨e1.symm,e2.symm⟩
   . have he:=qB he;rw[wv (by omega)];refine⟨⟨by omega,by omega, ?_⟩,by omega⟩;rw[show(j+1).toNat=j.toNat+1 from by omega,rS,G9 (d:=(0:Int)) h0 hj];intro hm;rcases qV.1 hm with hm|hm
     . exact h2 hm
     . simp only[zR,qP]at hm;exact he hm.symm
 have hj:=qB hj;rw[D7 (by omega)]at h2;have a1:=u.2.2 _ (Lj l0 l1);have a5:=way u a1.2.2.1 a1.2.2.2 a1.1 a1.2.1 (Ga u.1 u.2.2 (Lj l0 l1)).symm;have a7:gx (0,0) ls line=Oi ls line:=E5 l0 l1;rw[a7];have a6:(D5 n ls).length<=9:=by
  have:=Ro (Ul n ls) (b:=(List.range ls.length).map Int.ofNat) fun x hx=>by
   have:=Fp hx;exact rX.2 ⟨x.toNat,uT.2 (by omega),by show((x.toNat:Nat):Int)=x;omega⟩
  rw[sC,yK]at this;omega
 refine⟨⟨l0,l1⟩,⟨by decide,by decide⟩,⟨l0,l1⟩,⟨by decide,by decide⟩,⟨Ul n ls,fun i hi=>Fp hi, ?_⟩, ?_⟩
 . have:=zZ (fun i:Int=>decide (i∉([]:List Int))) (D5 n ls);omega
 rintro⟨v,ok,_⟩ _ ⟨hT,hF⟩;simp only at hT hF⊢;have a3:ok=true:=by
  cases ok with
  |true=>rfl
  |false=>
   obtain⟨p,hp⟩:=a5;exact absurd hp (hF rfl p)
 obtain⟨p,hp,hv⟩:=hT a3;obtain⟨g1,g2,g3⟩:=Qb u l0 l1 h2 hp;refine⟨trivial, ?_⟩;rintro⟨r,_⟩ _ hr;simp only at hr⊢;subst hr;have aa:=mE hp;have a8:=zZ (fun i:Int=>decide (i∉([]:List Int))) (D5 n ls);have ab:v.length<=9:=by rw[hv,g3t,sC];omega
 have a0:(v++ [(line,ri 1)]).Perm ((line,ri 1)::p.map JQ):=by
  rw[hv];exact(List.perm_append_singleton _ _).trans (List.Perm.cons _ (List.reverse_perm _))
 have a4:∀e∈v++ [(line,ri 1)],e.2=ri 1\/e.2=ri (-1):=fun e he=>g3 e (a0.mem_iff.1 he)
 have a2:Cq (Oj n ls line):=by
  refine⟨WH n ls line,fun e he=> ?_⟩;rcases(WJ u l0 l1 h2 e he).2 with h|h<;>rw[h,oK]<;>exact⟨by decide,Jr _⟩
 refine⟨⟨by simp only[qY];omega,by simp only[qY];omega⟩, .inr ⟨by rw[rN,qY];omega,fun e he=> ?_⟩, ?_⟩
 . rcases a4 e he with h|h<;>rw[h,Jr]<;>exact AW (F9 (iU (by decide)) (by decide))
 rintro⟨s,_⟩ _ hs;simp only at hs⊢;obtain⟨e1,e2⟩:=WI (n:=n) l0 l1 h2;exact⟨by rw[e1];exact kW hs.1 a2 fun i=>by rw[hs.2,cG (a0.trans g1)],e2.symm⟩
def Pv:An:= {join:= [(9,⟨[5,7,11],[0],[],[],[]⟩)],loop:= [(14,⟨[5,7,11,14,81,82],[0],[(83,false,vI)],[(4,45,[.val .bool, .val (.sl (.int .u32)), .val (.sl (.int .u32))])],[]⟩),(8,⟨[5,7],[0],[(11,false,vI)],[],[]⟩)],plan:= [(2,[2],[4],true,(.p 0 (.q 2 (.e 1 (.e 3 (.e 4 (.p 5 .done))))))),(10,[1,2],[],true,(.p 0 (.q 1 (.q 2 (.p 4 (.e 3 (.e 5 (pZ9 6 5 .done)))))))),(17,[0,2,5,7,9,12],[16],true,(.q 0 (.p 1 (.q 2 (.p 3 (.p 4 (.q 5 (.p 6 (.q 7 (.p 8 (.q 9 (.p 11 (.q 12 (.e 10 (.e 13 (.e 14 (.e 15 (.e 16 .done))))))))))))))))))]}
def Fj:A2 G7.args->Prop:=fun(x:Gk)=>let w:=(1:Int);let d:=(0:Int);True/\∀(r:jH),let y:=r.1.2.length;let v:=(F8 r.1.1 (Iz r.1.2));let i:=(↑y:Int);(H8 r.1.1/\List.length r.1.2<=9223372036854775807/\∀(x:Int×Int×QQ×(Bool×List Int)×List Int),x∈r.1.2->H8 x.1/\H8 x.2.1/\Qt x.2.2.1/\Qt x.2.2.2)/\True->B6d r.1->True/\∀(C:Qj),let n:=(C.1.1.length:Int);(aB C.1.1/\H8 C.1.2)/\True->C.1=(x.2.1,d)->D8 r.1/\rT7 fun D=>D.1=F8 r.1.1 (Iz r.1.2)->(List.length D.1<=7/\(∀(b:Int),b∈D.1->d<=b/\b<(D.1.length:Int)/\List.getD D.1 b.toNat d=b)/\d<=C.1.2/\C.1.2<=n)/\∀(A:jK) (o:Qj),let u:=(A.1.length:Int);NF A.1/\True->((Ty.int i64).sl.pair (Ty.int i64)).wf o.1/\True->(A.1.length=List.length D.1/\V7 D.1 A.1/\∀(e:QQ),e∈A.1->∃(q:Rat),qs (64:Nat) q/\e=rc q)->o.1.1=C.1.1/\d<=o.1.2/\o.1.2<=n->(D8 r.1->Bi r.1/\Gq (128:Nat) A.1)/\∀(z:FF),let l:=(z.1.length:Int);NF z.1/\H8 z.2.1/\True->(¬D8 r.1->z.1= []/\z.2.1=w)/\(D8 r.1->(u≠r.1.1->z.1= []/\z.2.1=4)/\(u=r.1.1->(¬V7 v A.1->z.1= []/\z.2.1=14)/\(V7 v A.1->z.2.1=d/\Gq K2 z.1/\∃(t:Nat->Rat),(∀(b:Nat),b<Int.toNat r.1.1->Rg r.1.2 (Mb r.1.2 t) b=L9 A.1 b)/\z.1=ET y (Mb r.1.2 t))))->(D8 r.1->List.length r.1.2<=9/\Gq K2 z.1)/\∀(B:FF),let h:=(decide (B.2.1≠d));NF B.1/\H8 B.2.1/\True->(¬D8 r.1->B.1= []/\B.2.1=w)/\(D8 r.1->(List.length z.1≠List.length r.1.2->B.1= []/\B.2.1=4)/\(List.length z.1=List.length r.1.2->B.1=ET r.1.1.toNat (Rg r.1.2 (L9 z.1))/\B.2.1=d))->True/\Qu fun O=>let c:=(J8 (!O.1) true (decide (z.2.1≠d)));O.1=true->(J8 c true h=false->(∀(e:QQ),e∈A.1->D4 e)/\List.length A.1<=100000)/\∀(H:jK),(J8 c true h=false->(NF H.1/\True)/\H.1=List.map (fun(e:B7)=>rc (rv e)) A.1)->(J8 c true h=false->(∀(e:QQ),e∈B.1->D4 e)/\∀(e:QQ),e∈H.1->D4 e)/\∀(P:Z8),let s:=(J8 (J8 c true h) true !P.1);(J8 c true h=false->(True/\True)/\P.1=decide (B.1=H.1/\∀(e:QQ),e∈B.1->e=rc (rv e)))->(iB (J8 s true (decide (l≠i))) (false=true) (∃(I:C7->Prop),∃(μ: _->Nat),I (d,())/\∀(p:C7),let m:=(i64.wrap (p.1+w),());(Ty.int i64).wf p.1/\True->I p->(iB (decide (p.1<i)) (∃(J:Unit->Prop),(List.length r.1.2<=100000/\∀(F:List (Int×Int)×Unit),(List.length F.1<=9223372036854775807/\∀(x:Int×Int),x∈F.1->H8 x.1/\H8 x.2)/\True->F.1=Iz r.1.2->(V5 r.1.1 F.1/\List.length F.1<=9)/\∀(G:bA),let k:=(G.1.length:Int);Pu G.1/\H8 G.2.1/\True->G.1=Zl r.1.1 F.1 p.1/\G.2.1=Zk r.1.1 F.1 p.1->(iB (decide (G.2.1≠d)) (J ()) (True/\H1 fun K=>K.1=rc (0:Rat)->∃(I:oZ->Prop),∃(μ: _->Nat),I (d,K.1.1.1,K.1.1.2,K.1.2,())/\∀(p:oZ),let g:=((p.2.1,p.2.2.1),p.2.2.2.1);let f:=(gx F4 G.1 p.1);let a:=(gx (d,d,dQ,(false,[]),[]) r.1.2 f.1);(Ty.int i64).wf p.1/\Ty.bool.wf p.2.1/\(Ty.int u32).sl.wf p.2.2.1/\(Ty.int u32).sl.wf p.2.2.2.1/\True->I p->(iB (decide (p.1<k)) ((d<=p.1/\p.1<k)/\(d<=f.1/\f.1<i)/\(d<=f.1/\f.1<l)/\(D4 (gx dQ z.1 f.1)/\D4 a.2.2.1)/\H1 fun M=>(rv a.2.2.1≠(0:Rat)->M.1=rc (rv (gx dQ z.1 f.1)/rv a.2.2.1))->(D4 M.1/\D4 a.2.2.2)/\H1 fun N=>N.1=rc (rv M.1-rv a.2.2.2)->(D4 f.2/\D4 N.1)/\H1 fun r=>r.1=rc (rv f.2*rv N.1)->(D4 g/\D4 r.1)/\H1 fun L=>let j:=(i64.wrap (p.1+w),L.1.1.1,L.1.1.2,L.1.2,());L.1=rc (rv g+rv r.1)->I j/\μ j<μ p) (D4 g/\Ck fun r=>r.1=(rv g).num.sign->(iB (decide (r.1≠d)) (false=true) (J ())))))))/\∀(Q:Unit),True->J Q->I m/\μ m<μ p) (true=true))))
def B5o {n:Int} {E:List Wc} {i:Nat} (u:D8 (n,E)) (hi:i<E.length):0<Ye E i:=(u.2.2.2 _ (B9 (d:=dB) hi)).2.2.2.2.2
def A7j {g:D2->Rat} {l:List D2} {e:D2} :Gi g (l++ [e])=Gi g l+g e:=by
 rw[nI,Gi,Gi,rP]
def B6r {g:D2->Rat} {s:Nat} {l:List D2} (h:∀e∈l,qs s (g e)):qs ((s+1)*l.length+1) (Gi g l):=by
 induction l with
 |nil=>exact W8 (by simp)
 |cons e l u=>
  rw[Gi,rH];refine F9 (AK (h e (rF ..)) (u fun x hx=>h x (qL _ hx))) ?_;rw[Nat.mul_succ];omega
def B6q {n:Nat} {f:Nat->Rat} {X:List B7} (hl:X.length=n) (h:∀b,b<n->f b=L9 X b):ET n f=X.map fun e=>rc (rv e):=by
 refine g0d (by rw[Ok,sC,hl]) fun i h1 u=> ?_
 have hi:i<n:=by rw[Ok]at h1;exact h1
 have e1:=Zm (f:=f) hi;rw[qF,qM h1]at e1;rw[List.getElem_map];refine Eq.trans e1 ?_;rw[h i hi];unfold L9;rw[qF,qM (by omega)];rfl
def Lq (x:A2 G7.args) (hw:awf G7.args x) (hp:G7.pre x):Fj x:=by
 obtain⟨d1,d2,_⟩:=x;simp only[Fj,iB,Ck,H1,Qu,rT7];refine⟨by trivial, ?_⟩;rintro⟨⟨n,E⟩,_⟩ b6 hg;have ax:∀e∈E,Ep e.2.2.1/\Ep e.2.2.2:=fun e he=>⟨U9 (b6.1.2.2 e he).2.2.1,U9 (b6.1.2.2 e he).2.2.2⟩
 change Int at n;change List Wc at E;have hg:B6d (n,E):=hg;have a7:=A6q hg;obtain⟨hv,n1,n6,a4, -⟩:=id hg;simp only at n1 n6 a4 hv⊢;refine⟨by trivial, ?_⟩;rintro⟨⟨tl,ti⟩,_⟩ _ ht;simp only at ht⊢;have bh:tl=d2:=tP Prod.fst ht;have b4:ti=0:=tP Prod.snd ht;refine⟨hv, ?_⟩;rintro⟨s,_⟩ _ hs;change List Int at s;simp only at hs⊢;obtain⟨b2,a9⟩:=Iw hv;rw[<-hs]at b2 a9;simp only at b2 a9;have a3:∀b∈s,0<=b/\b<(s.length:Int)/\s.getD b.toNat 0=b:=fun b hb=>by
  obtain⟨i,hi,rfl⟩:=O7 (0:Int) hb;obtain⟨h1,h2,h3⟩:=a9 i (by omega);obtain⟨h4, -, -⟩:=a9 (Y5 (n,E) i) (by omega);rw[h1,qJ,h4,h3];exact⟨by omega,by omega,rfl⟩
 refine⟨⟨by omega,a3,by rw[b4];exact qG _,by rw[b4];exact qD _⟩, ?_⟩;rintro⟨X,_⟩ ⟨o,_⟩ _ _ ⟨b9,ak,ad⟩ _;change List B7 at X;simp only at b9 ak ad⊢;have am:Gq 128 X:=fun e he=>by
  obtain⟨q,h1,rfl⟩:=ad e he;exact AW (F9 h1 (by decide))
 have ba:X.length=n.toNat:=by omega
 refine⟨fun _=>⟨a7,am⟩, ?_⟩;rintro⟨F,b8,_⟩ _ ⟨-,hF⟩;change Int at b8;obtain⟨-,hF⟩:=hF hv;obtain⟨-,hF⟩:=hF (by omega);obtain⟨au,ac,t,b3,a8⟩:=hF (hs▸ak);simp only at au ac a8 b3⊢;have aa:F.length=E.length:=by rw[a8,Ok]
 have aj:∀k,k<E.length->L9 F k=Mb E t k:=fun k hk=>by rw[a8];exact A4n hk
 have a5:∀k,k<E.length->F.getD k zr=rc (Mb E t k):=fun k hk=>by rw[a8];exact Zm hk
 have ab:∀k,k<E.length->qs K2 (Mb E t k):=fun k hk=>by
  have:=ac _ (B9 (d:=zr) (by omega:k<F.length));rw[a5 k hk]at this;exact this
 refine⟨fun _=>⟨a4,ac⟩, ?_⟩;rintro⟨Y,b7,_⟩ _ ⟨-,ao⟩;change Int at b7;obtain⟨-,ap⟩:=ao hv;obtain⟨hY,av⟩:=ap aa;clear ao ap;simp only at hY av⊢;have bb:∀b,qs (9*(K2+1)+1) (Rg E (L9 F) b):=fun b=>by
  refine F9 (A0v (k:=K2) (by decide) (fun i hi=> ?_) b) ?_
  . rw[aj i hi];exact ab i hi
  . exact g1w (rL _ a4)
 have aq:Y=X.map fun e=>rc (rv e):=by
  rw[hY];refine B6q ba fun b hb=> ?_
  rw[<-b3 b hb];exact DA (fun i hi=>aj i hi) b
 refine⟨by trivial, ?_⟩;rintro⟨aw,_⟩ _ ar;change Bool at aw;simp only at ar⊢;subst ar;subst au av;simp only[show J8 (J8 (!true) true (decide ((0:Int)≠0))) true (decide ((0:Int)≠0))=false from rfl];refine⟨fun _=>⟨fun e he=>J4 (am e he) (by decide),by omega⟩, ?_⟩;rintro⟨C,_⟩ hC;obtain⟨_,hC⟩:=hC trivial;change List B7 at C;simp only at hC⊢;refine⟨fun _=>⟨fun e he=> ?_,fun e he=> ?_⟩, ?_⟩
 . rw[hY]at he;obtain⟨i,hi,rfl⟩:=iC he;exact N6 (bb i) (by decide)
 . rw[hC]at he;obtain⟨y,hy,rfl⟩:=rX.1 he;obtain⟨q,h1,rfl⟩:=ad y hy;rw[G1];exact N6 h1 (by decide)
 rintro⟨sm,_⟩ a0;obtain⟨_,a0⟩:=a0 trivial;change Bool at sm;simp only at a0⊢;have a0:sm=true:=by
  rw[a0];refine rD ⟨by rw[hC,aq],fun e he=> ?_⟩;rw[aq]at he;obtain⟨y,hy,rfl⟩:=rX.1 he;rw[G1]
 subst a0;rw[show decide ((F.length:Int)≠(E.length:Int))=false from rI (by omega)];refine⟨fun h=>(by cases h),fun _=> ?_⟩;refine⟨fun p=>0<=p.1/\p.1<=(E.length:Int),fun p=>((E.length:Int)-p.1).toNat,⟨qG _,qD _⟩, ?_⟩;rintro⟨i,_⟩ _ ⟨i0,i1⟩;change Int at i;simp only at i0 i1⊢;refine⟨fun hi=> ?_,fun _=>by trivial⟩;have hi:=qA hi;refine⟨fun _=>True,⟨by omega, ?_⟩,fun _ _ _=>by rw[wv (by omega)];exact⟨⟨by omega,by omega⟩,by omega⟩⟩;rintro⟨Q,_⟩ _ hQ;simp only at hQ⊢;subst hQ;have ae:i<((Iz E).length:Int):=by rw[DO];exact hi
 refine⟨⟨Ux hv,by rw[DO];exact a4⟩, ?_⟩;rintro⟨lp,le,_⟩ _ ⟨a6,af⟩;change List D2 at lp;change Int at le;simp only at a6 af⊢;refine⟨fun _=>by trivial,fun be=> ?_⟩;have ay:le=0:=rB (qB be);have ag:i∉D5 n (Iz E):=fun hm=>by
  have:=(KT (n:=n) (ls:=Iz E) i0 ae hm).2;rw[ay,this]at af;cases af
 obtain⟨e1, -⟩:=WI (n:=n) (ls:=Iz E) i0 ae ag;rw[e1]at a6;have a2:=WJ (Ux hv) i0 ae ag;rw[<-a6]at a2;simp only[DO]at a2;have bd:lp.length<=9:=by rw[a6];exact rA (B2j i) (by rw[DO];exact a4)
 have a1:=A7h hv i0 hi ag t;simp only at a1;rw[<-a6]at a1;have b5:∀e∈lp,qs (1+(K2+2+2+1)) (rv e.2*(Mb E t e.1.toNat/Ye E e.1.toNat-UX E e.1.toNat)):=fun e he=>by
  obtain⟨⟨e0,e1⟩,ah⟩:=a2 e he;obtain⟨q1,q2⟩:=DS (N:=(n,E)) a7 ax (i:=e.1.toNat) (show e.1.toNat<E.length by omega);have q0:qs 1 (rv e.2):=by rcases ah with h|h<;>rw[h,oK]<;>exact iU (by decide)
  exact F9 (AL q0 (AN (OV (ab _ (by omega)) q1) q2)) (by decide)
 refine⟨by trivial, ?_⟩;rintro⟨z,_⟩ _ hz;change B7 at z;simp only at hz⊢;refine⟨fun p=>0<=p.1/\p.1<=(lp.length:Int)/\((p.2.1,p.2.2.1),p.2.2.2.1)=rc (Gi (fun e=>rv e.2*(Mb E t e.1.toNat/Ye E e.1.toNat-UX E e.1.toNat)) (lp.take p.1.toNat)),fun p=>((lp.length:Int)-p.1).toNat,⟨qG _,qD _,hz⟩, ?_⟩;rintro⟨j,b,mm,d,_⟩ _ ⟨j0,j1,j2⟩;change Int at j;simp only at j0 j1 j2⊢;have bf:qs ((1+(K2+2+2+1)+1)*9+1) (Gi (fun e=>rv e.2*(Mb E t e.1.toNat/Ye E e.1.toNat-UX E e.1.toNat)) (lp.take j.toNat)):=by
  refine F9 (B6r fun e he=>b5 e (rU he)) ?_;have:(lp.take j.toNat).length<=9:=by rw[qT];omega
  have:=sU (1+(K2+2+2+1)+1) this;omega
 refine⟨fun hj=> ?_,fun hj=> ?_⟩
 . have hj:=qA hj;have b1:gx F4 lp j∈lp:=H0 j0 hj;have bg:lp.take (j+1).toNat=lp.take j.toNat++ [gx F4 lp j]:=by
    rw[show(j+1).toNat=j.toNat+1 from by omega,rS,G9 (d:=F4) j0 hj];rfl
   obtain⟨⟨e0,e1⟩,ah⟩:=a2 _ b1;have ai:=b5 _ b1;generalize gx F4 lp j=e at*;have hk:e.1.toNat<E.length:=by omega
   have eE:gx (0,0,dQ,(false,[]),[]) E e.1=E.getD e.1.toNat dB:=E5 e0 e1;have eF:gx dQ F e.1=rc (Mb E t e.1.toNat):=by rw[E5 e0 (by omega)];exact a5 _ hk
   have az:E.getD e.1.toNat dB∈E:=B9 hk;obtain⟨q1,q2⟩:=DS (N:=(n,E)) a7 ax hk;have qf:=ab _ hk;have hs:=B5o hv hk;rw[eE,eF];refine⟨⟨j0,hj⟩,⟨e0,e1⟩,⟨e0,by omega⟩,⟨N6 qf (by decide),J4 (a7.2.2 _ az).1 (by decide)⟩, ?_⟩;rintro⟨u,_⟩ _ hu;change B7 at u;simp only[G1]at hu⊢;have hu:=hu (fun h=>by
    have h:Ye E e.1.toNat=0:=h;rw[h]at hs;exact absurd hs g0i)
   subst hu;have q4:=OV qf q1;refine⟨⟨N6 q4 (by decide),J4 (a7.2.2 _ az).2 (by decide)⟩, ?_⟩;rintro⟨u,_⟩ _ hu;change B7 at u;simp only[G1]at hu⊢;subst hu;have q5:=AN q4 q2;have bc:D4 e.2:=by
    rcases ah with h|h<;>rw[h]<;>exact J4 (A5a (by decide)).1 (by decide)
   refine⟨⟨bc,N6 q5 (by decide)⟩, ?_⟩;rintro⟨u,_⟩ _ hu;change B7 at u;simp only[G1]at hu⊢;subst hu;rw[j2,G1];refine⟨⟨N6 bf (by decide),N6 ai (by decide)⟩, ?_⟩;rintro⟨u,_⟩ _ hu;change B7 at u;simp only[G1]at hu⊢;rw[wv (by omega)];refine⟨⟨by omega,by omega, ?_⟩,by omega⟩;rw[bg,A7j];exact hu
 . have hj:=qB hj;rw[D7 (by omega),a1]at j2;rw[j2];refine⟨N6 (W8 (k:=1) (by decide)) (by decide), ?_⟩;rintro⟨sg,_⟩ _ a3;change Int at sg;simp only[G1]at a3⊢;have a3:sg=0:=a3;subst a3;exact⟨fun h=>(by cases h),fun _=>by trivial⟩
def TB (x:A2 Jv.args) (hw:awf Jv.args x) (hp:Jv.pre x):MQ x:=by
 obtain⟨l,_⟩:=x;change List B7 at l;obtain⟨hs,hl⟩:(∀e∈l,D4 e)/\l.length<=100000:=hp;simp only[MQ,iB,H1];refine⟨fun p=>0<=p.2.1/\p.2.1<=(l.length:Int)/\p.1=(l.take p.2.1.toNat).map fun e=>rc (rv e),fun p=>((l.length:Int)-p.2.1).toNat,⟨qG _,qD _,rfl⟩, ?_⟩;rintro⟨z,i,_⟩ _ ⟨i0,i1,u⟩;change List B7 at z;change Int at i;simp only at i0 i1 u⊢;refine⟨fun hi=> ?_,fun hi=> ?_⟩
 . have hi:=qA hi;refine⟨⟨i0,hi⟩,hs _ (H0 i0 hi), ?_⟩;rintro⟨r,_⟩ _ hr;change B7 at r;simp only at hr⊢;have a0:z.length<=100000:=by rw[u,sC,qT];omega
   rw[wv (by omega)];refine⟨⟨by rw[qY];omega,by rw[qY];omega⟩,⟨by omega,by omega, ?_⟩,by omega⟩;show z++ [r]= _;rw[show(i+1).toNat=i.toNat+1 from by omega,rS,tY, <-u,hr,G9 (d:=dQ) i0 hi];rfl
 . have hi:=qB hi;show z= _;rw[u,qX (show l.length<=i.toNat by omega)]
end Go.Proofs.YthclcjfodjhmlaaGreat
namespace Go.Vc
open Go Go.RowKit Go.Gw Go.Shelf
open Go.IntKind (i64 u32)
structure El (t:Ty) (w:World) (Z:Nat->Prop) where
 c:List Value
 v:t.den
 h:C6 t w Z c v
def lK {t:Ty} {w:World} {Z:Nat->Prop} :∀ {l:List t.den} {xs:List Value},G4 (C6 t w Z) xs l->∃L:List (El t w Z),L.flatMap El.c=xs/\L.map El.v=l
 | [],_,h=>⟨[],h.symm,rfl⟩
 |x::l,_,⟨c1,c2,e,h1,u⟩=>by
  obtain⟨L,i1,i2⟩:=lK u;exact⟨⟨c1,x,h1⟩::L,by rw[yI,i1,e],by rw[rV,i2]⟩
def lN {t:Ty} {w w':World} {Z Z':Nat->Prop} (u:∀c x,C6 t w Z c x->C6 t w' Z' c x):∀L:List (El t w Z),G4 (C6 t w' Z') (L.flatMap El.c) (L.map El.v)
 | []=>rfl
 |p::L=>⟨p.c,L.flatMap El.c,rfl,u _ _ p.h,lN u L⟩
def mA {α:Type} {enc:α->List Value} {k:Nat} (u:∀x,(enc x).length=k):∀(L:List α) (i r:Nat) {x:α},L[i]? =some x->r<k->(L.flatMap enc)[i*k+r]? =(enc x)[r]?
 | [],_,_,_,h,_=>by cases h
 |y::L,0,r,x,h,hr=>by
  simp only[g1s,rE]at h;subst h;rw[yI,yA,sP,vG (by rw[u];exact hr)]
 |y::L,i+1,r,x,h,hr=>by
  rw[uG]at h;have e:(i+1)*k+r-k=i*k+r:=by rw[uP];omega
  rw[yI,uS (by rw[u,uP];omega),u,e];exact mA u L i r h hr
def mB {α:Type} {enc:α->List Value} {k:Nat} (u:∀x,(enc x).length=k):∀L:List α,(L.flatMap enc).length=L.length*k
 | []=>by simp
 |x::L=>by rw[yI,rN,mB u L,u,rH,uP];omega
def lZ {α:Type} [Inhabited α] {enc:α->List Value} {k:Nat} (hk:∀x,(enc x).length=k) (d:Array α) {j:Nat} (hj:j<d.size*k):(d.toList.flatMap enc)[j]? =some (Go.Sort.flatK enc k d)[j]!:=by
 have u:0<k:=by
  rcases vD k with h|h
  . rw[h,wP]at hj;omega
  . exact h
 have hi:j/k<d.size:=(tO u).2 hj;have hr:j%k<k:=wC _ u;have e:j=j/k*k+j%k:=by rw[tI];exact(wW j k).symm
 rw[Go.Sort.get_flatK enc k d j hj];have hx:d.toList[j/k]? =some d[j/k]!:=by
  rw[wJ,uJ hi,g0x d _ hi]
 have:=mA hk d.toList (j/k) (j%k) hx hr;rw[<-e]at this;have hl:j%k<(enc d[j/k]!).length:=by rw[hk];exact hr
 rw[this,qM hl,g0x (enc d[j/k]!) (j%k) hl]
def A7y {F cur:Array Value} {n:Nat} {xs:List Value} (hx:xs.length=n) (hF:F.size=n) (hn:n<=cur.size) (h:∀j,j<n->xs[j]? =some F[j]!):(Go.Sort.putCells id 0 F cur).size=cur.size/\(Go.Sort.putCells id 0 F cur).toList.take n=xs:=by
 refine⟨by simp[Go.Sort.putCells], ?_⟩;apply vY;intro j;by_cases u:j<n
 . rw[rZ u,h j u,wJ];unfold Go.Sort.putCells;rw[Array.getElem?_mapIdx,uJ (by omega)];simp only[vQ];rw[qZ ⟨rO _,by omega⟩];rfl
 . rw[rW (by simp;omega),rW (by omega)]
def B3n {α:Type} [Inhabited α] {d u:Array α} (h:Go.Sort.PermIn 0 d.size d u):u.toList.Perm d.toList:=by
 obtain⟨h1,_,h3⟩:=h;rw[g2y,g2y]at h3;simpa[List.extract_eq_take_drop,qX,h1]using h3
def A2r {α:Type} [Inhabited α] {lt:α->α->Bool} {u:Array α} {n:Nat} (hn:u.size=n) (h:Go.Sort.SortedIn lt 0 n u):u.toList.Pairwise fun a b=>lt b a=false:=by
 rw[uK];intro i j hi hj a1;have a0:i<u.size:=by simpa using hi
 have a2:j<u.size:=by simpa using hj
 have:=h i j (rO _) a1 (by omega);rw[g0x u i a0,g0x u j a2]at this;simpa using this
def B7w {w:World} {b m:Nat} {f:Array Value->Array Value} {os:Array Obj} :w.heap.size<=(Go.Sort.grow (Go.Sort.mapBlock (Go.Sort.ahead w m) b f) os).heap.size:=by
 simp[Go.Sort.grow,Go.Sort.mapBlock,Go.Sort.ahead]
def oV {w:World} {b m j:Nat} {f:Array Value->Array Value} {os:Array Obj} (hj:j<w.heap.size) (u:j≠b):(Go.Sort.grow (Go.Sort.mapBlock (Go.Sort.ahead w m) b f) os).heap[j]? =w.heap[j]?:=by
 rw[Go.Sort.heap_grow_old _ _ (by simpa[Go.Sort.mapBlock,Go.Sort.ahead]using hj)];unfold Go.Sort.mapBlock;simp only;rw[g2s,qO (Ne.symm u)];rfl
def B7v {w:World} {b m:Nat} {f:Array Value->Array Value} {os:Array Obj} {cur:Array Value} {e:TypeId} (hh:w.heap[b]? =some (.cells cur e (0,0))):(Go.Sort.grow (Go.Sort.mapBlock (Go.Sort.ahead w m) b f) os).heap[b]? =some (.cells (f cur) e (0,0)):=by
 have u:b<w.heap.size:=(sA.1 hh).1;rw[Go.Sort.heap_grow_old _ _ (by simpa[Go.Sort.mapBlock,Go.Sort.ahead]using u)];unfold Go.Sort.mapBlock;simp only;rw[g2s,qZ rfl];have:(Go.Sort.ahead w m).heap[b]? =some (.cells cur e (0,0)):=hh;rw[this];rfl
def HN {P:Program} {f:FuncId} (u:Gt P f=true) (args:Array Value) (w:World):(callFunc f args).run P w= .ok (.enter f args) w:=by
 unfold Gt at u;split at u
 . rename_i fn a0;simp only[qC,rR]at u;have h2:¬fn.body=none:=by intro hb;rw[hb]at u;simp at u
   have h1:¬fn.name= "runtime.NumGoroutine" :=by simpa using u.1
   simp[callFunc,a0,h1,h2,go_sem]
 . cases u
def B7x {α β:Type} {φ:α->α->Int} (v:β->α) (h1:∀a,¬φ a a<0) (h2:∀a b c,φ a b<0->φ b c<0->φ a c<0) (h3:∀a b c,¬φ a b<0->¬φ b c<0->¬φ a c<0):
 Go.Sort.SWO (Go.Proofs.ltOf fun x y:β=>φ (v x) (v y)):=by
 refine⟨fun x=> ?_,fun x y z h u=> ?_,fun x y z h u=> ?_⟩
 . exact rI (h1 _)
 . exact rD (h2 _ _ _ (qA h) (qA u))
 . exact rI (h3 _ _ _ (qB h) (qB u))
def A8l {t:Ty} {φ:t.den->t.den->Int} {e:TypeId} {w w':World} {Z:Nat->Prop} {fv:Value} {g a0:Nat} {cur F:Array Value} {k:Nat} {x:List t.den} {L L':List (El t w Z)}
 (hZ:∀b,Z b->b<w.heap.size) (ab:¬Z g) (hk:t.size=k)
 (ac:w.heap[g]? =some (.cells cur e (0,0))) (a2:L.length<=a0) (a6:a0<=maxLen) (a5:cur.size=a0*k) (aa:L.map El.v=x)
 (hp:L'.Perm L) (hs:L'.Pairwise fun a b=>¬φ b.v a.v<0)
 (hF:F.size=L.length*k) (a9:∀j,j<L.length*k->(L'.flatMap El.c)[j]? =some F[j]!)
 (ad:w'.os=w.os) (a4:w'.tape=w.tape) (a7:w'.output=w.output) (ae:w.heap.size<=w'.heap.size)
 (a1:∀j,j<w.heap.size->j≠g->w'.heap[j]? =w.heap[j]?) (hg:w'.heap[g]? =some (.cells (Go.Sort.putCells id 0 F cur) e (0,0))):
 Iq (nL w (Bx t e φ).args [.slice (some ⟨g,0,none⟩) L.length a0,fv]) w w'/\∃(r:Bn (Bx t e φ).res) (o:Oa (Bx t e φ).args) (us:List Value) (Zn:Nat->Prop),(Bx t e φ).post (x,()) r/\(O6 (Bx t e φ).args=true->(Bx t e φ).mpost (x,()) r o)/\Value.tuple #[]=BA us/\(∀b,Zn b->(w.heap.size<=b/\b<w'.heap.size)\/((Bx t e φ).shared=true/\Z b))/\Og w.heap.size w' Zn (Bx t e φ).res us r/\Xb w w' Zn (Bx t e φ).args [.slice (some ⟨g,0,none⟩) L.length a0,fv] o:=by
 have u:L'.length=L.length:=hp.length_eq;have hc:∀p:El t w Z,p.c.length=k:=fun p=>by rw[<-hk];exact C6.length p.h
 have a8:(L'.flatMap El.c).length=L.length*k:=by rw[mB hc,u]
 obtain⟨p1,p2⟩:=A7y a8 hF (by rw[a5];exact rL _ a2) a9;have a3:O3 Z w w':=fun b hb=>a1 b (hZ b hb) (fun e=>ab (e▸hb))
 refine⟨⟨ad,a4,a7,ae,fun j hj hm=>a1 j hj (fun ej=>hm ?_),trivial⟩,(),(L'.map El.v,()),[],Z,trivial,fun _=>⟨?_, ?_⟩,rfl,fun b hb=> .inr ⟨rfl,hb⟩,rfl, ?_⟩
 . subst ej;refine⟨(.row t e, .slice (some ⟨j,0,none⟩) L.length a0),rF, ?_⟩;rfl
 . rw[<-aa];exact hp.map _
 . exact wT.2 hs
 . refine⟨⟨L'.flatMap El.c,⟨?_, .inr ⟨g,a0,Go.Sort.putCells id 0 F cur, ?_,rO _,hg, ?_,a6, ?_, ?_⟩⟩, ?_⟩,trivial⟩
   . simp only[sC];rw[a8,u,hk]
   . simp only[sC,u]
   . simp only[sC,u];exact a2
   . rw[p1,a5,hk]
   . simp only[sC,u,hk];exact p2
   . refine lN (fun c y hy=> ?_) L';exact C6.mono (fun b hb=>hb) a3 hy
def A9k (P:Program) (g:FuncId) (t:Ty) (φ:t.den->t.den->Int):Prop:=
 ∀(w:World) (Z:Nat->Prop) (c1 u:List Value) (x y:t.den),C6 t w Z c1 x->C6 t w Z u y->Calls P g #[.agg c1.toArray, .agg u.toArray] w fun e w'=>e= .returned (.int .i64 (φ x y))/\∃q os,w'=Go.Sort.grow (w.drewN q) os
def oR {P:Program} {ρ:Ren} (LL:Go.Proofs.SlLaysF0.n6 P ρ) {t:Ty} {e:TypeId} {g:FuncId} {φ:t.den->t.den->Int} (aE:∀w,(isAgg (ρ.t 24)).run P w= .ok true w) (zE:∀w,(Go.sizeOf (ρ.t 24)).run P w= .ok t.size w)
 (h1:∀a,¬φ a a<0) (h2:∀a b c,φ a b<0->φ b c<0->φ a c<0) (h3:∀a b c,¬φ a b<0->¬φ b c<0->¬φ a c<0) (am:Gt P g=true) (aj:A9k P g t φ):A3k P (ρ.f 6) g t e φ:=by
 rintro w Z v l hZ ⟨xs,a8,ak,ah⟩ ag;obtain⟨L,rfl,rfl⟩:=lK ak;have hL:(L.map El.v).length=L.length:=sC ..;rw[hL]at a8 ag;obtain⟨ar,hv⟩:=a8;have a2:∀(p:Option Addr) (a1:Nat),L= []->Gw.bV P (ρ.f 6) [.slice p 0 a1, .func (.func g) #[] #[]] w fun u w'=>u= .tuple #[]/\w'=w:=fun p a1 _=>
  Calls.mono (Go.Proofs.AnyF.slices_SortFunc_none LL p a1 (.func (.func g) #[] #[]) w) fun _ _ ⟨he,hw⟩=>⟨_,he,rfl,hw⟩
 rcases hv with⟨rfl,hn⟩ | ⟨b,a1,cur,rfl,_,a0,a6,a7,ae,ab⟩
 . have a5:L= []:=qQ hn;subst a5;refine(a2 none 0 rfl).mono ?_;rintro _ _ ⟨rfl,rfl⟩;refine⟨Iq.of (S4.refl _),(),([],()),[],(fun _=>False),trivial,fun _=>⟨wR _,List.Pairwise.nil⟩,rfl,fun _ hb=>hb.elim,rfl,⟨⟨[],World.ownsRow_nil _ _ _ _,rfl⟩,trivial⟩⟩
 . have ac:¬Z b:=ah b rfl;have hc:∀p:El t w Z,p.c.length=t.size:=fun p=>C6.length p.h
   have ai:b<w.heap.size:=(sA.1 a0).1;rcases a5:L with _ | ⟨p0,L0⟩
   . subst a5;refine(a2 _ a1 rfl).mono ?_;rintro _ _ ⟨rfl,rfl⟩;refine⟨Iq.of (S4.refl _),(),([],()),[],(fun _=>False),trivial,fun _=>⟨wR _,List.Pairwise.nil⟩,rfl,fun _ hb=>hb.elim,rfl,⟨⟨[],⟨by simp, .inr ⟨b,a1,cur,rfl,rO _,a0,a6,a7,ae,by simp⟩⟩,rfl⟩,trivial⟩⟩
   . rw[<-a5];clear a2
     haveI:Inhabited (El t w Z):=⟨p0⟩
     have hH:Go.Sort.HoldsK El.c t.size w b 0 L.toArray:=by
      intro j hj;rw[Go.Sort.size_flatK]at hj;have ao:j<L.length*t.size:=by simpa using hj
      have h5:=lZ hc L.toArray hj;rw[sP];refine⟨?_, ?_⟩
      . have h6:cur[j]? =some (Go.Sort.flatK El.c t.size L.toArray)[j]!:=by
         rw[<-h5];simp only;rw[<-ab,rZ ao,wJ]
        simp only[World.cell?,a0];exact h6
      . simp[World.frozen?,a0]
     have ad:Go.Proofs.CmpLays P g #[] El.c t.size (fun x y:El t w Z=>φ x.v y.v) b 0 L.toArray.size w:=by
      intro m os dk aq x y;have a4:O3 Z w (Go.Proofs.sortWorldK El.c t.size w b 0 m dk os):=by
       intro i hi;have:i≠b:=fun e=>ac (e▸hi)
       exact oV (hZ i hi) this
      exact aj _ Z x.c y.c x.v y.v (C6.mono (fun _ h=>h) a4 x.h) (C6.mono (fun _ h=>h) a4 y.h)
     have a9:=Go.Proofs.AnyQ.slices_SortFunc LL t.size aE zE El.c hc (fun x=>C6.oneCell x.h) (fun x y:El t w Z=>φ x.v y.v) (B7x El.v h1 h2 h3) g #[] b 0 a1 L.toArray w (HN am) ad hH ai (by simp;omega);refine Calls.mono a9 ?_;rintro _ w' ⟨rfl,d',n,os,a3,aa,rfl⟩;refine⟨_,rfl, ?_⟩;have hp:=B3n a3;have hs:=A2r a3.1 aa;have af:d'.size=L.length:=by rw[a3.1];simp
     refine A8l (k:=t.size) (F:=Go.Sort.flatK El.c t.size d') (L:=L) (L':=d'.toList) (cur:=cur) (x:=L.map El.v) hZ ac rfl a0 a6 a7 ae rfl hp ?_ ?_ ?_ rfl rfl rfl ?_ ?_ ?_
     . exact hs.imp fun h=>qB h
     . rw[Go.Sort.size_flatK,af]
     . intro j hj;exact lZ hc d' (by rw[af];exact hj)
     . exact B7w
     . intro i hi ap;exact oV hi ap
     . exact B7v a0
end Go.Vc
namespace Go.Proofs
open Go.Proofs.Tryz
open Go.Shelf
open Go.IntKind (i64 u32)
def Tryz.sortEnt_ren:Go.Shelf.Ren:=⟨fun|6=>119|15=>144|14=>143|28=>169|29=>170|20=>161|21=>162|22=>163|23=>164|24=>165|25=>166|26=>167|27=>168|46=>177|47=>178|48=>179|49=>180|50=>181|57=>185|n=>n,fun|22=>36|24=>48|25=>140|3=>3|39=>127|0=>0|53=>80|55=>106|4=>4|46=>181|45=>180|50=>185|5=>5|9=>9|66=>192|70=>196|76=>200|77=>201|n=>n,fun|n=>n⟩
def Tryz.sortEnt:Go.Proofs.SlLaysF0.n6 prog sortEnt_ren:= {
 mixed:=by kernel_rfl
 f6:=⟨f119.name,by decide,func119.trans (tP some (by kernel_rfl))⟩
 f14:=⟨f143.name,by decide,func143.trans (tP some (by kernel_rfl))⟩
 f15:=func144.trans (tP some (by kernel_rfl))
 f20:=⟨f161.name,by decide,func161.trans (tP some (by kernel_rfl))⟩
 f21:=⟨f162.name,by decide,func162.trans (tP some (by kernel_rfl))⟩
 f22:=⟨f163.name,by decide,func163.trans (tP some (by kernel_rfl))⟩
 f23:=⟨f164.name,by decide,func164.trans (tP some (by kernel_rfl))⟩
 f24:=⟨f165.name,by decide,func165.trans (tP some (by kernel_rfl))⟩
 f25:=⟨f166.name,by decide,func166.trans (tP some (by kernel_rfl))⟩
 f26:=⟨f167.name,by decide,func167.trans (tP some (by kernel_rfl))⟩
 f27:=⟨f168.name,by decide,func168.trans (tP some (by kernel_rfl))⟩
 f28:=func169.trans (tP some (by kernel_rfl))
 f29:=func170.trans (tP some (by kernel_rfl))
 f46:=⟨f177.name,by decide,func177.trans (tP some (by kernel_rfl))⟩
 f47:=func178.trans (tP some (by kernel_rfl))
 f48:=func179.trans (tP some (by kernel_rfl))
 f49:=⟨f180.name,by decide,func180.trans (tP some (by kernel_rfl))⟩
 f50:=⟨f181.name,by decide,func181.trans (tP some (by kernel_rfl))⟩
 f57:=⟨f185.name,by decide,func185.trans (tP some (by kernel_rfl))⟩
 t0:=underlying0
 a0:=isAgg0
 z0:=sizeOf0
 v0:=zeroValue0
 t3:=underlying3
 a3:=isAgg3
 z3:=sizeOf3
 v3:=zeroValue3
 t4:=underlying4
 a4:=isAgg4
 z4:=sizeOf4
 v4:=zeroValue4
 t5:=underlying5
 a5:=isAgg5
 z5:=sizeOf5
 v5:=zeroValue5
 t9:=underlying9
 a9:=isAgg9
 z9:=sizeOf9
 v9:=zeroValue9
 t22:=underlying36
 a22:=isAgg36
 z22:=sizeOf36
 v22:=zeroValue36
 t25:=underlying140
 a25:=isAgg140
 z25:=sizeOf140
 v25:=zeroValue140
 t39:=underlying127
 a39:=isAgg127
 z39:=sizeOf127
 v39:=zeroValue127
 t45:=underlying180
 a45:=isAgg180
 z45:=sizeOf180
 v45:=zeroValue180
 t46:=underlying181
 a46:=isAgg181
 z46:=sizeOf181
 v46:=zeroValue181
 t50:=underlying185
 a50:=isAgg185
 z50:=sizeOf185
 v50:=zeroValue185
 t53:=underlying80
 a53:=isAgg80
 z53:=sizeOf80
 v53:=zeroValue80
 t55:=underlying106
 a55:=isAgg106
 z55:=sizeOf106
 v55:=zeroValue106
 t66:=underlying192
 a66:=isAgg192
 z66:=sizeOf192
 v66:=zeroValue192
 t70:=underlying196
 a70:=isAgg196
 z70:=sizeOf196
 v70:=zeroValue196
 t76:=underlying200
 a76:=isAgg200
 z76:=sizeOf200
 v76:=zeroValue200
 t77:=underlying201
 a77:=isAgg201
 z77:=sizeOf201
 v77:=zeroValue201}
def Tryz.cmpInt_ren:Go.Shelf.Ren:=⟨fun|5=>121|7=>145|n=>n,fun|22=>3|3=>3|4=>4|n=>n,fun|n=>n⟩
def Tryz.cmpInt:Go.Proofs.SlLaysC2.n5 prog cmpInt_ren:= {
 mixed:=by kernel_rfl
 f5:=⟨f121.name,by decide,func121.trans (tP some (by kernel_rfl))⟩
 f7:=⟨f145.name,by decide,func145.trans (tP some (by kernel_rfl))⟩
 t3:=underlying3
 a3:=isAgg3
 z3:=sizeOf3
 v3:=zeroValue3
 t4:=underlying4
 a4:=isAgg4
 z4:=sizeOf4
 v4:=zeroValue4
 t22:=underlying3
 a22:=isAgg3
 z22:=sizeOf3
 v22:=zeroValue3}
end Go.Proofs
namespace Go.Proofs.YthclcjfodjhmlaaGreat
open Go.Proofs.Tryz
open Go.Vc Go.Gw Go.Lib Go.Shelf
open Go.IntKind (i64 u32)
def Yh (w:World) (o:Obj):w.alloc o= {w with heap:=w.heap.push o} :=rfl
def B0e (a b:Int) (r1 r2:List Value) (w:World):Calls prog 120 #[.agg (.int .i64 a::r1).toArray, .agg (.int .i64 b::r2).toArray] w fun e w'=>e= .returned (.int .i64 (Lib.compareInt a b))/\∃q os,w'=Go.Sort.grow (w.drewN q) os:=by
 have u:∀args w,(callFunc 121 args).run prog w= .ok (.enter 121 args) w:=Go.Vc.HN (by kernel_rfl);have hc:=fun(w:World)=>AnyG.cmp_Compare_int cmpInt a b w
 go_enter func120,ntmps120
 go_wp2_with (go_at_fn (121);refine(hc _).mono ?_;rintro e w' ⟨rfl,hw⟩;rw[hw])
 go_ret
 refine⟨rfl,0, #[.cells (Value.int .i64 a::r1).toArray 48, .cells (Value.int .i64 b::r2).toArray 48], ?_⟩;rw[Yh,Yh];simp[Go.Sort.grow,World.drewN];apply g0b.1;simp
def B0d (a b:Int):Lib.compareInt a b=K6 a b:=by
 unfold Lib.compareInt K6
 (repeat' split)<;>first|rfl|omega
def B9m:A9k prog 120 tE (fun a b:D2=>K6 a.1 b.1):=by
 rintro w Z c1 c2 x y ⟨u1,u,rfl,⟨rfl,_⟩,_⟩ ⟨u2,r2,rfl,⟨rfl,_⟩,_⟩;have:=B0e x.1 y.1 u r2 w;rw[B0d]at this;exact this
def B7r:PS prog 119 (TU 120 tE 48 (fun a b=>K6 a.1 b.1)):=by
 refine YD (tys:= []) (oR (ρ:=sortEnt_ren) sortEnt (t:=tE) (e:=48) (g:=120) (φ:=fun a b:D2=>K6 a.1 b.1) isAgg48 sizeOf48 (fun a=> ?_) (fun a b c=> ?_) (fun a b c=> ?_) (by kernel_rfl) B9m);all_goals (simp only[K6];(repeat' split)<;>omega)
def A6d (a b:Int) (r1 r2:List Value) (w:World):Calls prog 152 #[.agg (.int .i64 a::r1).toArray, .agg (.int .i64 b::r2).toArray] w fun e w'=>e= .returned (.int .i64 (Lib.compareInt a b))/\∃q os,w'=Go.Sort.grow (w.drewN q) os:=by
 have u:∀args w,(callFunc 121 args).run prog w= .ok (.enter 121 args) w:=Go.Vc.HN (by kernel_rfl);have hc:=fun(w:World)=>AnyG.cmp_Compare_int cmpInt a b w
 go_enter func152,ntmps152
 go_wp2_with (go_at_fn (121);refine(hc _).mono ?_;rintro e w' ⟨rfl,hw⟩;rw[hw])
 go_ret
 refine⟨rfl,0, #[.cells (Value.int .i64 a::r1).toArray 48, .cells (Value.int .i64 b::r2).toArray 48], ?_⟩;rw[Yh,Yh];simp[Go.Sort.grow,World.drewN];apply g0b.1;simp
def B5q:A9k prog 152 tE (fun a b:D2=>K6 a.1 b.1):=by
 rintro w Z c1 c2 x y ⟨u1,u,rfl,⟨rfl,_⟩,_⟩ ⟨u2,r2,rfl,⟨rfl,_⟩,_⟩;have:=A6d x.1 y.1 u r2 w;rw[B0d]at this;exact this
def B4f:PS prog 119 (TU 152 tE 48 (fun a b=>K6 a.1 b.1)):=by
 refine YD (tys:= []) (oR (ρ:=sortEnt_ren) sortEnt (t:=tE) (e:=48) (g:=152) (φ:=fun a b:D2=>K6 a.1 b.1) isAgg48 sizeOf48 (fun a=> ?_) (fun a b c=> ?_) (fun a b c=> ?_) (by kernel_rfl) B5q);all_goals (simp only[K6];(repeat' split)<;>omega)
def B3i (n:Int) (w:World):Calls prog 114 #[.int .i64 n] w fun e w'=>e= .returned (.func (.func 115) #[] #[.pointer (some ⟨w.heap.size,0,none⟩)])/\w'=w.alloc (.cells #[.int .i64 n] 3):=by
 go_enter func114,ntmps114
 go_wp2
 go_ret
 exact⟨rfl,rfl⟩
def C0p (hm:A7 prog 115 J2):PS prog 114 (B1d prog [(false, .int .i64)] false .bool (.int .i64) (fun n x=>decide (x.1<0\/n<=x.1))):=by
 refine B1e ?_;rintro w Z v n ⟨hv,hn⟩;obtain rfl:v= .int .i64 n:=by simpa using hv
 refine Calls.mono (B3i _ w) ?_;rintro _ _ ⟨rfl,rfl⟩;have a3:(w.alloc (.cells #[Value.int .i64 n] 3)).heap.size=w.heap.size+1:=by simp
 refine⟨_,rfl,S4.alloc w _,(fun b=>b=w.heap.size),fun b hb=> .inr ⟨by omega,by rw[a3,hb];omega⟩,115,[.pointer (some ⟨w.heap.size,0,none⟩)],rfl,by kernel_rfl, ?_⟩;rintro w1 Z1 vs ⟨i,_⟩ hs h0 hz ⟨v1,a8,rfl,a4,rfl⟩ _;have hc:(w.alloc (.cells #[Value.int .i64 n] 3)).heap[w.heap.size]? =some (.cells #[Value.int .i64 n] 3 (0,0)):=by rw[Yh];simp
 have a2:w1.heap[w.heap.size]? =some (.cells #[Value.int .i64 n] 3 (0,0)):=(hs _ rfl).trans hc;have a1:Aa prog w1 (fun b=>Z1 b\/b=w.heap.size) J2.args [v1, .pointer (some ⟨w.heap.size,0,none⟩)] (i,n,()):=by
  refine⟨_,_,rfl, ?_,_,_,rfl, ?_,rfl⟩
  . exact a4
  . exact⟨w.heap.size,0,[Value.int .i64 n],rfl, .inr rfl,fun j u hj=>by
     rcases j with _ |j
     . simp only[g1s,rE]at hj;subst hj;rw[K5];simp[World.cell?,a2]
     . simp at hj,rfl,hn⟩
 have:=hm w1 (fun b=>Z1 b\/b=w.heap.size) [v1, .pointer (some ⟨w.heap.size,0,none⟩)] (i,n,()) (fun b hb=>hb.elim (hz b) fun e=>h0 b e) a1 trivial trivial;refine Gw.bV.mono this ?_;rintro u w2 ⟨hx,⟨r,_⟩,o,us,Zn,a0,_,rfl,a6,⟨v2,a7,rfl,a5,_,rfl⟩,_⟩;refine⟨hx.ext fun b hb=> ?_,Zn,fun b hb=> ?_, ?_⟩
 . obtain⟨p,hp,_⟩:=hb;cases hp
 . rcases a6 b hb with h| ⟨h,_⟩
   . exact .inl h
   . cases h
 . have hr:r=decide (i<0\/n<=i):=a0;show Bj false .bool w2 Zn v2 (decide (i<0\/n<=i));rw[<-hr];exact a5
end Go.Proofs.YthclcjfodjhmlaaGreat
namespace Go.Proofs.YthclcjfodjhmlaaGreat
open Go.Proofs.Tryz
open Go.Vc Go.Gw
open Go.IntKind (i64 u32)
def H5 {P:Program} {tys:List (Nat×TI)} {sp:I5} {f:FuncId} {fn:Func} {s:A5} {vc:A2 s.args->Prop} (an:An) (hf:P.funcs[f]? =some fn) (hv:∀x,awf s.args x->s.pre x->vc x) (hty:H7 P tys=true) (hsp:Qx P sp) (he:∀x,C1a P tys sp an s fn x=vc x:=by intro x;kernel_rfl) (hb:fn.body.isSome=true:=by kernel_rfl) (hn:Nat.ble s.args.length fn.ntmps=true:=by kernel_rfl) (u:Ci fn.ntmps (fn.body.getD .skip)=true:=by kernel_rfl):A7 P f s:=
 B2p hf hb hn u hty hsp he hv
def Zz:A7 prog 115 J2:=H5 Ym func115 Tm A4 (A1)
def QN:A7 prog 6 Ms:=H5 kC func6 YQ A4 (A1)
def nR:A7 prog 52 Mr:=H5 kB func52 YP A4 (A1)
def Hc:A7 prog 25 Ah:=H5 JX func25 BL A4 (A0 nR (A1))
def Jp:A7 prog 21 Nf:=H5 kN func21 ZR A4 (A1)
def R9:A7 prog 104 Mu:=H5 kE func104 YW A4 (A1)
def Bb:A7 prog 75 Mw:=H5 kF func75 ZB A4 (A0 R9 (A1))
def QO:A7 prog 71 Mx:=H5 kG func71 ZE A4 (A0 Bb (A1))
def QP:A7 prog 51 My:=H5 kH func51 ZF A4 (A0 QO (A1))
def IJ:A7 prog 53 So:=H5 pZ func53 bK A4 (A0 Bb (A1))
def Vb:A7 prog 72 Jt:=H5 fE func72 SZ A4 (A1)
def XB:A7 prog 76 Sf:=H5 pQ func76 bB A4 (A0 R9 (A1))
def XC:A7 prog 105 Fe:=H5 UN func105 MK A4 (A0 R9 (A1))
def XD:A7 prog 77 Si:=H5 pT func77 bE A4 (A0 R9 (A0 XC (A1)))
def Ou:A7 prog 99 Am:=H5 KD func99 BZ A4 (A0 R9 (A1))
def aU:A7 prog 134 Hm:=H5 aJ func134 PO A4 (A0 R9 (A1))
def nS:A7 prog 135 Mt:=H5 kD func135 YS A4 (A0 R9 (A1))
def A1w:A7 prog 136 Sj:=H5 pU func136 bF A4 (A1)
def FX:A7 prog 101 Hl:=H5 aI func101 PN A4 (A0 XB (A0 XD (A0 Ou (A0 R9 (A0 aU (A0 nS (A0 A1w (A1))))))))
def A1u:A7 prog 100 Sg:=H5 pR func100 bC A4 (A0 FX (A0 R9 (A1)))
def A1y:A7 prog 73 Sm:=H5 pX func73 bI A4 (A0 Bb (A0 A1u (A1)))
def IH:A7 prog 43 Sl:=H5 pW func43 bH A4 (A0 Bb (A0 XB (A0 XD (A1))))
def Mh:A7 prog 70 Ff:=H5 UO func70 MP A4 (A0 Bb (A0 Ou (A1)))
def A1x:A7 prog 102 Sk:=H5 pV func102 bG A4 (A0 Bb (A1))
def A1z:A7 prog 103 Sp:=H5 A0a func103 bL A4 (A0 IH (A0 IJ (A1)))
def aV:A7 prog 74 Hn:=H5 aK func74 PP A4 (A0 IH (A0 Mh (A0 Bb (A0 FX (A0 A1x (A0 A1z (A1)))))))
def Cz:A7 prog 42 Mz:=H5 kI func42 ZJ A4 (A0 Jp (A0 QP (A0 IJ (A0 QO (A0 Vb (A0 A1y (A0 aV (A1))))))))
def dU:A7 prog 40 AR:=H5 A5v func40 jO A4 (A0 Cz (A0 Mh (A1)))
def Ru:A7 prog 13 Br:=H5 NL func13 FM A4 (A0 Hc (A0 dU (A1)))
def Xn:A7 prog 26 P3:=H5 Xd func26 Ql A4 (A0 Hc (A0 dU (A1)))
def SR:A7 prog 5 Dm:=H5 SC func5 JD A4 (A0 QN (A0 Ru (A0 Jp (A0 Hc (A0 Xn (A1))))))
def Bc:A7 prog 41 Na:=H5 kJ func41 ZM A4 (A0 Cz (A1))
def A1v:A7 prog 78 Sh:=H5 pS func78 bD A4 (A0 R9 (A1))
def II:A7 prog 44 Sn:=H5 pY func44 bJ A4 (A0 Bb (A0 A1v (A1)))
def Ve:A7 prog 45 Sw:=H5 A0g func45 bR A4 (A0 Bc (A1))
def Vd:A7 prog 14 Sq:=H5 A0b func14 bM A4 (A0 Bc (A0 Cz (A0 IH (A0 II (A0 Ve (A1))))))
def XE:A7 prog 28 Su:=H5 A0e func28 bP A4 (A0 Bc (A0 Cz (A0 Ve (A0 IJ (A1)))))
def XF:A7 prog 22 Sv:=H5 A0f func22 bQ A4 (A0 Vd (A0 XE (A1)))
def KY:A7 prog 27 Ai:=H5 JY func27 BM A4 (A0 Ru (A1))
def Xm:A7 prog 7 O9:=H5 Xc func7 Qk A4 (A0 Vd (A0 Jp (A0 XF (A0 KY (A0 XE (A1))))))
def LD:A7 prog 12 Jx:=H5 fI func12 TD A4 (A1)
def AC:A7 prog 29 Fh:=H5 UR func29 MV A4 (A1)
def iR:A7 prog 8 Jy:=H5 fJ func8 TE A4 (A0 LD (A0 AC (A1)))
def H3:A7 prog 91 Cf:=H5 UM func91 MJ A4 (A1)
def L2:A7 prog 63 X7:=H5 GU func63 Xz A4 (A0 H3 (A1))
def W6:A7 prog 62 Ar:=H5 KE func62 CE A4 (A0 L2 (A1))
def Wf:A7 prog 88 Dl:=H5 SB func88 JC A4 (A0 L2 (A1))
def H6:A7 prog 58 Bv:=H5 NP func58 FQ A4 (A0 W6 (A0 Wf (A1)))
def Kr:A7 prog 129 Dp:=H5 SF func129 JG A4 (A1)
def KZ:A7 prog 89 Ak:=H5 KB func89 BT A4 (A0 H3 (A0 Kr (A1)))
def Cm:A7 prog 60 Au:=H5 KF func60 CF A4 (A0 KZ (A1))
def J9:A7 prog 90 P4:=H5 Xe func90 Qm A4 (A0 H3 (A1))
def Da:A7 prog 61 R4:=H5 Yn func61 Tr A4 (A0 J9 (A1))
def Bm:A7 prog 93 Dn:=H5 SE func93 JF A4 (A0 H3 (A1))
def W5:A7 prog 96 Af:=H5 JV func96 BH A4 (A1)
def SQ:A7 prog 92 Dk:=H5 SA func92 JB A4 (A0 Bm (A0 W5 (A1)))
def Rw:A7 prog 132 M5:=H5 Rb func132 Nr A4 (A0 J9 (A0 H3 (A1)))
def aS:A7 prog 169 Hj:=H5 aG func169 PK A4 (A1)
def Hb:A7 prog 154 K3:=H5 Tu func154 Oc A4 (A0 aS (A1))
def IG:A7 prog 156 P9:=H5 GX func156 Yc A4 (A1)
def Xo:A7 prog 158 L5:=H5 Xf func158 Qn A4 (A0 H3 (A1))
def Xp:A7 prog 133 P5:=H5 (sp:=Xs) Xg func133 Qo A4 (A0 H3 (A0 Hb (A0 IG (A0 Xo (Fi (HR (cx:=⟨prog,tys⟩) (fn:=f157) (c:=f157.body.getD .skip) func157 (by kernel_rfl) (by kernel_rfl) A4 (T4 (A1) (Ir))) (A1))))))
def Ot:A7 prog 95 Aj:=H5 KA func95 BP A4 (A0 L2 (A0 J9 (A0 H3 (A0 Bm (A0 Kr (A0 Rw (A0 Xp (A1))))))))
def EV:A7 prog 175 U4:=H5 EH func175 Vw A4 (A1)
def LA:A7 prog 155 Al:=H5 KC func155 BV A4 (A0 EV (A1))
def IF:A7 prog 130 X9:=H5 GW func130 Yb A4 (A0 Hb (A0 LA (A1)))
def Hd:A7 prog 67 Fc:=H5 UK func67 MH A4 (A0 H3 (A1))
def AA:A7 prog 98 Fd:=H5 UL func98 MI A4 (A0 L2 (A0 H3 (A1)))
def IE:A7 prog 131 X8:=H5 GV func131 Ya A4 (A0 Hd (A0 J9 (A0 AA (A1))))
def XA:A7 prog 94 Fb:=H5 UJ func94 MG A4 (A0 L2 (A0 J9 (A0 H3 (A0 Bm (A0 Ot (A0 Kr (A0 IF (A0 IE (A1)))))))))
def Fs:A7 prog 64 Y0:=H5 GY func64 Yd A4 (A0 SQ (A0 Bm (A0 XA (A0 Ot (A1)))))
def S6:A7 prog 59 W1:=H5 NO func59 FP A4 (A0 Cm (A0 Da (A0 W6 (A0 Fs (A1)))))
def WZ:A7 prog 97 Fa:=H5 UI func97 MF A4 (A0 H3 (A1))
def WW:A7 prog 65 Ew:=H5 UD func65 MB A4 (A0 W5 (A0 WZ (A0 AA (A1))))
def Mg:A7 prog 66 Ex:=H5 UE func66 MC A4 (A0 Hd (A0 W5 (A1)))
def Q6:A7 prog 31 Dq:=H5 SG func31 JH A4 (A0 H6 (A0 S6 (A0 Cm (A0 Da (A0 W6 (A0 L2 (A0 Fs (A0 WW (A0 Mg (A0 Hd (A1)))))))))))
def Fm:A7 prog 32 Ds:=H5 SL func32 JM A4 (A0 Q6 (A1))
def W0:A7 prog 33 Ap:=H5 SJ func33 JK A4 (A0 Cm (A0 Da (A0 W6 (A0 Fs (A0 Mg (A0 Hd (A1)))))))
def Kp:A7 prog 46 Dh:=H5 RX func46 IY A4 (A0 H6 (A1))
def ID:A7 prog 87 X6:=H5 GT func87 Xy A4 (A0 J9 (A0 W5 (A1)))
def Q9:A7 prog 57 O0:=H5 EK func57 Vy A4 (A0 ID (A1))
def Zx:A7 prog 47 Eu:=H5 UB func47 LZ A4 (A0 Q6 (A0 Fm (A0 Q9 (A1))))
def LE:A7 prog 106 Av:=H5 KG func106 CG A4 (A1)
def AD:A7 prog 107 R5:=H5 Yo func107 Ts A4 (A1)
def Hf:A7 prog 109 N8:=H5 Uc func109 Oe A4 (A1)
def Xq:A7 prog 108 P6:=H5 Xh func108 Qp A4 (A0 Hf (A1))
def EX:A7 prog 80 U6:=H5 EL func80 Vz A4 (A0 LE (A0 AD (A0 Xq (A0 Hf (A1)))))
def OP:A7 prog 54 Bq:=H5 NK func54 FJ A4 (A0 EX (A1))
def Ks:A7 prog 110 I1:=H5 Kj func110 Ic A4 (A1)
def Hz:A7 prog 81 G8:=H5 Hw func81 Fu A4 (A0 Ks (A1))
def Zw:A7 prog 82 R2:=H5 Yk func82 Th A4 (A0 H6 (A1))
def IB:A7 prog 55 X4:=H5 GR func55 Xw A4 (A0 Q6 (A0 Hz (A0 Zw (A1))))
def WX:A7 prog 137 Ey:=H5 UG func137 MD A4 (A0 Bm (A0 W5 (A1)))
def Wg:A7 prog 111 Aq:=H5 SK func111 JL A4 (A0 S6 (A0 WX (A1)))
def Wh:A7 prog 138 Du:=H5 SN func138 JO A4 (A0 H6 (A1))
def OO:A7 prog 145 Bo:=H5 NI func145 FG A4 (A1)
def Mf:A7 prog 121 W9:=H5 GP func121 Xu A4 (A0 OO (A1))
def LG:A7 prog 152 Ax:=H5 KJ func152 CL A4 (A0 Mf (A1))
def Kw:A7 prog 159 U7:=H5 EN func159 Wb A4 (A1)
def Er:A7 prog 161 F2:=H5 Eo func161 Cs A4 (A1)
def Ib:A7 prog 184 Je:=QG fun _ h=>h
def Jq:A7 prog 176 H4:=H5 Jl func176 Hs A4 (A0 Er (A0 Ib (A1)))
def Eg:A7 prog 160 E8:=H5 Dz func160 Cl A4 (A0 Jq (A1))
def Ov:A7 prog 139 Aw:=H5 KI func139 CK A4 (A0 Q6 (A0 LG (A0 Kw (A0 Eg (A1)))))
def OU:A7 prog 140 Bw:=H5 NQ func140 FR A4 (A0 S6 (A1))
def Mi:A7 prog 112 Ch:=H5 US func112 MY A4 (A0 Wh (A0 Ov (A0 OU (A1))))
def EU:A7 prog 83 U2:=H5 EB func83 Vv jL (A0 Kp (A0 Wg (A0 Mi (A1))))
def Oq:A7 prog 117 S7:=H5 JZ func117 BN A4 (A1)
def SU:A7 prog 141 Dt:=H5 SM func141 JN A4 (A0 H6 (A0 Kw (A1)))
def Kq:A7 prog 113 U3:=H5 SD func113 JE A4 (A0 Oq (A0 SU (A1)))
def Kt:A7 prog 142 I2:=H5 Kk func142 Ie A4 (A1)
def Ia:A7 prog 116 F3:=H5 Hx func116 Fv A4 (A0 Kt (A1))
def OR:A7 prog 84 Bt:=H5 (sp:=PD) NM func84 FN jL (A0 S6 (A0 Kq (Fi (C0p Zz) (A0 Ia (A0 Oq (Fi B7r (Fi (HR (cx:=⟨prog,C1k⟩) (fn:=f118) (c:=f118.body.getD .skip) func118 (by kernel_rfl) (by kernel_rfl) jL (T4 (A1) (Ir))) (A1))))))))
def Rx:A7 prog 151 M6:=H5 Rc func151 Nv A4 (A1)
def LF:A7 prog 125 S8:=H5 KH func125 CJ A4 (A0 Mi (Fi B4f (A0 Rx (A1))))
def ST:A7 prog 148 Ao:=H5 SI func148 JJ A4 (A0 H6 (A0 S6 (A1)))
def aX:A7 prog 149 Ej:=H5 aM func149 PR A4 (A0 Q6 (A0 Q9 (A1)))
def Xr:A7 prog 171 P7:=H5 Xi func171 Qq A4 (A0 Q6 (A0 W0 (A0 H6 (A0 S6 (A1)))))
def EY:A7 prog 150 O1:=H5 EM func150 Wa A4 (A0 Wh (A0 Ov (A0 Xr (A1))))
def OQ:A7 prog 85 Q7:=H5 (sp:=Sz) Qy func85 FL DZ (A0 Q9 (A0 Kq (A0 LF (Fi (HR (cx:=⟨prog,SX⟩) (fn:=f122) (c:=f122.body.getD .skip) func122 (by kernel_rfl) (by kernel_rfl) DZ (T4 (A0 Mi (A1)) (Ir))) (Fi (HR (cx:=⟨prog,SX⟩) (fn:=f123) (c:=f123.body.getD .skip) func123 (by kernel_rfl) (by kernel_rfl) DZ (T4 (Fi (HR (cx:=⟨prog,SX⟩) (fn:=f146) (c:=f146.body.getD .skip) func146 (by kernel_rfl) (by kernel_rfl) DZ (T4 (A1) (T4 (A1) (T4 (A1) (T4 (A1) (Ir)))))) (A1)) (Ir))) (Fi (HR (cx:=⟨prog,SX⟩) (fn:=f124) (c:=f124.body.getD .skip) func124 (by kernel_rfl) (by kernel_rfl) DZ (T4 (A0 W0 (A0 Wg (A0 ST (A0 aX (A0 EY (Fi (HR (cx:=⟨prog,SX⟩) (fn:=f147) (c:=f147.body.getD .skip) func147 (by kernel_rfl) (by kernel_rfl) DZ (T4 (A1) (T4 (A1) (Ir)))) (A1))))))) (Ir))) (A1))))))) FK
def Rt:A7 prog 172 M0:=H5 Ra func172 Nl A4 (A1)
def Va:A7 prog 173 N7:=H5 Ub func173 Od A4 (A0 Kq (A1))
def IA:A7 prog 186 X0:=H5 GQ func186 Xv A4 (A1)
def Zu:A7 prog 182 R0:=H5 Yi func182 Te A4 (A0 IA (A1))
def IC:A7 prog 183 X5:=H5 GS func183 Xx A4 (A0 L2 (A0 Wf (A1)))
def EW:A7 prog 174 U5:=H5 EJ func174 Vx A4 (A0 H6 (A0 Cm (A0 W6 (A0 Mg (A0 Mf (A0 Zu (A0 IC (A1))))))))
def Zy:A7 prog 153 R3:=H5 Yl func153 Tj A4 (A0 Q9 (A0 Rt (A0 Va (A0 EW (A1)))))
def KW:A7 prog 126 Ae:=H5 JU func126 BC A4 (A0 Zy (A1))
def WV:A7 prog 127 Ev:=H5 UC func127 MA A4 (A0 Fm (A0 W0 (A0 H6 (A1))))
def SS:A7 prog 128 Dr:=H5 SH func128 JI A4 (A0 W0 (A0 H6 (A1)))
def SP:A7 prog 86 Dj:=H5 RZ func86 JA A4 (A0 KW (A0 WV (A0 SS (A1))))
def SO:A7 prog 56 Di:=H5 RY func56 IZ A4 (A0 EU (A0 OR (A0 OQ (A0 SP (A1)))))
def Rs:A7 prog 30 Bp:=H5 NJ func30 FH A4 (A0 Fm (A0 W0 (A0 Kp (A0 Zx (A0 OP (A0 IB (A0 SO (A0 Q9 (A1)))))))))
def We:A7 prog 9 Dg:=H5 RV func9 IX A4 (A0 Rs (A0 Q6 (A0 Fm (A0 W0 (A1)))))
def iN:A7 prog 79 Ju:=H5 fF func79 TA A4 (A0 Vb (A1))
def LB:A7 prog 49 Jw:=H5 fH func49 TC A4 (A0 Vb (A0 iN (A1)))
def OT:A7 prog 48 Bu:=H5 NN func48 FO A4 (A0 Bc (A0 LB (A1)))
def QR:A7 prog 19 Nc:=H5 kL func19 ZO A4 (A0 OT (A0 LB (A1)))
def He:A7 prog 39 Cg:=H5 UP func39 MS A4 (A0 Cz (A0 Mh (A1)))
def KX:A7 prog 34 Ag:=H5 JW func34 BK A4 (A0 He (A1))
def aT:A7 prog 35 Hk:=H5 aH func35 PM A4 (A0 He (A1))
def WY:A7 prog 10 Ez:=H5 UH func10 ME A4 (A0 We (A0 QR (A0 Rs (A0 KX (A0 aT (A1))))))
def aW:A7 prog 36 Ho:=H5 aL func36 PQ A4 (A0 AC (A1))
def nW:A7 prog 37 Jd:=A7n (fun x=>((x.2.1.filter fun i=>decide (i∉x.2.2.2.2.1)).length:Nat)) fun n u=>A1n n (A0 u (A0 He (A1))) (ZX n)
def AB:A7 prog 24 Nd:=H5 kM func24 ZP A4 (A0 Bc (A0 QP (A1)))
def XG:A7 prog 68 Fg:=H5 UQ func68 MT A4 (A1)
def A2c:A7 prog 69 Sx:=H5 A0h func69 bS A4 (A0 Vd (A0 Jp (A1)))
def nU:A7 prog 38 Ng:=H5 kO func38 ZU A4 (A0 AB (A0 XG (A0 A2c (A1))))
def nV:A7 prog 11 Nh:=H5 kP func11 ZV A4 (A0 aW (A0 nW (A0 nU (A0 He (A1)))))
def A2b:A7 prog 15 Ss:=H5 A0d func15 bO A4 (A0 Bc (A0 Cz (A0 II (A0 Ve (A1)))))
def Zv:A7 prog 18 R1:=H5 Yj func18 Tg A4 (A0 Kp (A0 Zx (A1)))
def iO:A7 prog 20 Jv:=H5 fG func20 TB A4 (A0 Bc (A1))
def A2a:A7 prog 50 Sr:=H5 A0c func50 bN A4 (A0 AB (A0 Bc (A0 Cz (A0 II (A0 Ve (A1))))))
def nT:A7 prog 23 Nb:=H5 kK func23 ZN A4 (A0 A2a (A1))
def Qf:A7 prog 4 G7:=H5 Pv func4 Lq A4 (A0 SR (A0 QN (A0 Xm (A0 iR (A0 We (A0 WY (A0 nV (A0 LD (A0 Vd (A0 A2b (A0 Zv (A0 QR (A0 iO (A0 Jp (A0 XF (A0 nT (A0 AB (A1))))))))))))))))))
end Go.Proofs.YthclcjfodjhmlaaGreat
