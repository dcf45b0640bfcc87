/- Part. -/
import Derived.Test.YtdbnghliccifcaaGreatKTH
set_option linter.all false
namespace Go.Proofs.YtdbnghliccifcaaGreat
open Go.Proofs.Tryz
open Go.Vc Go.Gw
open Go.IntKind (i64 u64 u32)
noncomputable def EX:G2:= [(144,Ch)]
def DY:An:= {loop:= [(3,⟨[1,3,24],[0,1,2,3,4,5,6,7,8,9,10,13],[(25,false,vI)],[],[(11, .nest qe 204 4),(12, .row qb 3)]⟩),(13,⟨[3,5,44,45,46,59,60],[0,1,2,3,4,5,6,7,9,10,12,13],[(61,false,vI)],[],[(11, .nest qe 204 4)]⟩),(9,⟨[3,44,45],[0,1,2,3,4,5,6,7,10,12,13],[(46,false,vI)],[],[(9, .row qd 49),(11, .nest qe 204 4)]⟩)],plan:= [(1,[1,4,7,10],[],true,(.p 0 (.q 1 (.p 3 (.q 4 (.p 6 (.q 7 (.p 9 (.q 10 (.al [2,5,8,11] [12] (.e 13 (.p 14 .done)))))))))))),(11,[3],[8],true, .done),(15,[3,5],[9],false, .done)]}
noncomputable def Vb:G2:= []
def Ti:An:= {plan:= [(1,[0,3,4,7,10],[],false,(.q 0 (.p 1 (.p 2 (.q 3 (.q 4 (.p 5 (.p 6 (.q 7 (.p 8 (.p 9 (.q 10 (.p 11 (.e 12 (.e 13 (.p 14 .done))))))))))))))))]}
noncomputable def Vd:G2:= []
def Tj:An:= {plan:= [(1,[0,3,4,7,10],[],false,(.q 0 (.p 1 (.p 2 (.q 3 (.q 4 (.p 5 (.p 6 (.q 7 (.p 8 (.p 9 (.q 10 (.p 11 (.e 12 (.e 13 (.p 14 .done))))))))))))))))]}
noncomputable def Ve:G2:= []
def Tk:An:= {plan:= [(1,[0,3,4,7,10],[],false,(.q 0 (.p 1 (.p 2 (.q 3 (.q 4 (.p 5 (.p 6 (.q 7 (.p 8 (.p 9 (.q 10 (.p 11 (.e 12 (.e 13 (.p 14 .done))))))))))))))))]}
noncomputable def Vf:G2:= []
def Tl:An:= {plan:= [(1,[0,3,4,7,10],[],false,(.q 0 (.p 1 (.p 2 (.q 3 (.q 4 (.p 5 (.p 6 (.q 7 (.p 8 (.p 9 (.q 10 (.p 11 (.e 12 (.e 13 (.p 14 .done))))))))))))))))]}
noncomputable def EY:G2:= [(183,V7 (Lk ⟨prog,SS⟩ [(20,Vb,Ti),(23,Vd,Tj),(28,Ve,Tk),(33,Vf,Tl)] f183.results.toList (f183.body.getD .skip) f183.ntmps))]
def DZ:An:= {join:= [(8,⟨[1,6,14,15],[1,2,3,4,5,6,7,9,10,13,14,15],[(5,false,vI)],[],[(11, .nest qe 204 4)]⟩),(10,⟨[1,6],[1,2,3,4,5,6,7,9,10,13,14,15],[(5,false,vI)],[],[(11, .nest qe 204 4)]⟩),(14,⟨[1,3],[1,2,3,4,5,6,7,15],[],[(13,176,[.fix 9, .fix 10, .fix 11, .own qb 3])],[(9, .row qd 49),(10, .nest qd 49 105),(11, .nest qe 204 4)]⟩),(20,⟨[3],[1,2,3,4,5,6,7,9,10,13,17],[(2,false,vI)],[],[(11, .nest qe 204 4)]⟩)],loop:= [(4,⟨[1,6,14],[1,2,3,4,5,6,7,9,10,13,14,15],[(5,false,vI),(15,false,vI)],[],[(11, .nest qe 204 4)]⟩),(16,⟨[1,3,66],[1,2,3,4,5,6,7,9,10,11,13,15,17],[(2,false,vI)],[],[(19, .itM false qb false .bool 18)]⟩)],plan:= [(13,[1,4,7,10],[14,17],false, .done),(18,[3,6,9,11,14,17,22,25,28,30,33,36],[],true, .done)],bump:=18}
noncomputable def Vg:G2:= []
def Tm:An:= {loop:= [(1,⟨[0,2,6,7],[1,2,3,4,5,6,7,9,10,13,15,16,17],[(8,false,vI)],[],[(11, .nest qe 204 4)]⟩)],plan:= [(3,[0,3,5],[9],false, .done)]}
noncomputable def Sn:G2:= []
def Qn:An:= {loop:= [(1,⟨[0,2,6,7],[1,2,3,4,5,6,7,9,10,13,15,16,17,18,19],[(8,false,vI)],[],[(11, .nest qe 204 4)]⟩)],plan:= [(3,[0,3,5],[9],false, .done)]}
noncomputable def EZ:G2:= [(63,Al),(110,N0),(123,V5),(185,Ak),(186,Dw),(184,V7 (Lk ⟨prog,SS⟩ [(29,Vg,Tm),(107,Sn,Qn)] f184.results.toList (f184.body.getD .skip) f184.ntmps))]
def EA:An:= {join:= [(10,⟨[1,3,4,8,9,10],[1,2,3,4,5,6,7,9,10,13,15,16,17,18],[(12,false,[.own qb 3])],[],[(11, .nest qe 204 4)]⟩),(14,⟨[1,3,4,8,9,10,15,53,54,55],[1,2,3,4,5,6,7,9,10,11,13,15,16,17,18,19],[(16,false,[.fixB 20])],[(20,58,[.val .bool, .val qa, .val qa])],[]⟩),(15,⟨[1,3,4,8,9,10,15,16,53,54,55],[1,2,3,4,5,6,7,9,11,13,15,16,17,18,19,20],[],[],[(10, .nest qd 49 105)]⟩)],loop:= [(7,⟨[1,3,4,8,9,10,44],[1,2,3,4,5,6,7,9,10,11,13,15,16,17,18],[(12,false,[.own qb 3])],[],[(20, .itM false qb false .bool 19)]⟩),(18,⟨[1,3,4,8,9,10,15,53,54,55,114,115],[1,2,3,4,5,6,7,9,10,13,15,16,17,18,19],[(116,false,vI)],[],[(11, .nest qe 204 4)]⟩),(11,⟨[1,3,4,8,9,10,53,54],[1,2,3,4,5,6,7,13,15,16,17,18,19],[(55,false,vI)],[],[(9, .row qd 49),(10, .nest qd 49 105),(11, .nest qe 204 4)]⟩)],plan:= [(13,[0,3,6,9],[12],true, .done),(14,[5,8,13],[16,18],false, .done),(15,[0,3,5,8,11,12,14],[17],true, .done),(20,[0,3,5],[9],false, .done)]}
def Qm:An:= {join:= [(13,⟨[2,5,6,7,8,45,46],[1,2,3,4,5,6,7],[(9,false,vI),(10,false,vI),(11,false,[.val .bool])],[(13,176,[.fix 9, .fix 10, .fix 11, .own qb 3])],[(9, .row qd 49),(10, .nest qd 49 105),(11, .nest qe 204 4)]⟩),(16,⟨[2,5,6,7,8,9,10,45,46],[1,4,5,6,9,10,11,13,15],[],[],[(2, .row qb 3),(3, .row qb 3),(7, .row qb 3)]⟩),(22,⟨[2,5,6,7,12,13,79,80,81],[1,2,3,5,6,9,11,13,14],[],[],[(4, .row qd 49),(10, .nest qd 49 105)]⟩)],loop:= [(10,⟨[2,5,6,7,45],[1,4,5,6],[(46,false,vI)],[(13,176,[.fix 9, .fix 10, .fix 11, .own qb 3])],[(2, .row qb 3),(3, .row qb 3),(7, .row qb 3),(9, .row qd 49),(10, .nest qd 49 105),(11, .nest qe 204 4)]⟩),(19,⟨[2,5,7,79,80],[1,2,3,6,9,11,13,14],[(6,false,[.val qg]),(81,false,vI)],[],[(4, .row qd 49),(5, .row qd 49),(10, .nest qd 49 105)]⟩)],plan:= [(6,[],[16],true,(.p 0 (.p 2 (pZ9 4 3 (pZ9 9 3 (.al [1,3,7,12,15] [8,13,14] (.e 16 .done))))))),(15,[1],[12,14,16],false, .done),(21,[7],[15,17],false, .done),(22,[2,7,10],[17],true, .done)]}
noncomputable def Sm:G2:= [(52,J6),(58,M9),(143,U6),(140,V7 (Lk ⟨prog,SS⟩ [(44,EX,DY)] f140.results.toList (f140.body.getD .skip) f140.ntmps)),(141,V7 (Lk ⟨prog,SS⟩ [(51,EY,DZ)] f141.results.toList (f141.body.getD .skip) f141.ntmps)),(142,V7 (Lk ⟨prog,SS⟩ [(76,EZ,EA)] f142.results.toList (f142.body.getD .skip) f142.ntmps))]
abbrev C3z:=(List (List EE)×List Nat)×Unit
abbrev C4l:=Int×(List (Int×Bool)×List (Int×Bool))×Unit
abbrev C4m:=Int×(List (List (Int×Bool))×List Nat)×Wf×Unit
abbrev LG:=Int×(List (List (Int×Bool))×List Nat)×Unit
abbrev C4n:=Int×Int×(List (List (Int×Bool))×List Nat)×Unit
abbrev C4o:=Int×Int×Bool×Wf×List (List EE)×(List (List EE)×List Nat)×(List (List (Int×Bool))×List Nat)×Unit
abbrev C4s:=Int×List (List EE)×(List (List (Int×Bool))×List Nat)×Unit
abbrev C4t:=Int×List (List EE)×(List (List EE)×List Nat)×(List (List (Int×Bool))×List Nat)×Unit
abbrev C4u:=Int×Wf×Wf×Wf×Wf×List (List EE)×(List (List EE)×List Nat)×(List (List (Int×Bool))×List Nat)×Unit
abbrev C4x:=List (List EE)×(List (List EE)×List Nat)×Unit
abbrev C5c:=Wf×(List (Int×Bool)×List (Int×Bool))×Unit
abbrev C5d:=Wf×(List (List (Int×Bool))×List Nat)×Unit
abbrev C5g:=Wf×Int×List (List EE)×List (List EE)×(List (List EE)×List Nat)×Unit
abbrev C5i:=Wf×List (List EE)×(List (List EE)×List Nat)×(List (List (Int×Bool))×List Nat)×Unit
abbrev C5j:=Wf×Wf×Wf×Unit
def Il(x:Vl):Prop:=let b5:=(281474976710656:Int);let bd:=x.1.2.1.toNat;let a6:=(6:Int);let a5:=(4:Int);let b1:=(9223372036854775807:Int);let ad:=(140737488355328:Nat);let a7:=x.1.1.toNat;let f:=(1:Int);let U:=(0:Int);let bw:Prop:=(U<=x.1.2.1/\x.1.2.1<=x.1.2.1/\(↑(8:Nat):Int)*x.1.2.1<=b5/\x.1.2.1<=b1);let ac:Prop:=(∀(v:List EE),v∈ []->U8 v);let ba:(Nat)->(Nat)->Prop:=(λi k=>i<x.1.1.toNat->k<x.1.1.toNat->luM ([],[],(U,U,[]),U,U,[]) x.1.1.toNat i k=el x.1 (ix [] i) (ix [] k));let m:Prop:=(U<=x.1.1/\x.1.1<=x.1.1/\(↑(8:Nat):Int)*x.1.1<=b5/\x.1.1<=b1);let b8:Prop:=(∀(T:Nat),(1:Nat)<=T->aW x.1.1.toNat x.1.1.toNat (el x.1) T->∀(i k:Nat),i<x.1.1.toNat->qs (T+T) (el (U,U,[]) i k)/\qs (T+T) (el (U,U,[]) i k));let e:Prop:=(U<=x.1.1/\x.1.1<=x.1.1/\(↑(24:Nat):Int)*x.1.1<=b5/\x.1.1<=b1);True/\∀(r:Ax),True/\True->r.1=decide (A7 x.1)->((!r.1)=true->(¬A7 x.1->([],[],(U,U,[]),U,U,[])=jT/\f=f)/\(A7 x.1->(x.1.1≠x.1.2.1->([],[],(U,U,[]),U,U,[])=jT/\f=a5)/\(x.1.1=x.1.2.1->(¬nonsing x.1.1.toNat (el x.1)->([],[],(U,U,[]),U,U,[])=jT/\f=a6)/\(nonsing x.1.1.toNat (el x.1)->Bi ([],[],(U,U,[]),U,U,[]) x.1.1/\f=U/\ac/\ac/\b8/\∀(i k:Nat),ba i k))))/\((!r.1)=false->(decide (x.1.1≠x.1.2.1)=true->(¬A7 x.1->([],[],(U,U,[]),U,U,[])=jT/\a5=f)/\(A7 x.1->(x.1.1≠x.1.2.1->([],[],(U,U,[]),U,U,[])=jT/\a5=a5)/\(x.1.1=x.1.2.1->(¬nonsing x.1.1.toNat (el x.1)->([],[],(U,U,[]),U,U,[])=jT/\a5=a6)/\(nonsing x.1.1.toNat (el x.1)->Bi ([],[],(U,U,[]),U,U,[]) x.1.1/\a5=U/\ac/\ac/\b8/\∀(i k:Nat),ba i k))))/\(decide (x.1.1≠x.1.2.1)=false->m/\m/\e/\e/\m/\e/\e/\bw/\bw/\∃(I:C4m->Prop),∃(j: _->Nat),I (U,(List.replicate bd [],Pr (Ty.mp false (Ty.int i64) false Ty.bool) bd),List.replicate bd U,())/\∀(p:C4m),let ab:=p.1.toNat;(Ty.int i64).wf p.1/\p.2.1.1.length.le 9223372036854775807/\aD p.2.2.1/\True->I p->(decide (p.1<x.1.2.1)=true->(U<=p.1/\p.1<(↑p.2.1.1.length:Int))/\(U<=p.1/\p.1<(p.2.2.1.length:Int))/\I (i64.wrap (p.1+f),(p.2.1.1.set ab [],PK ab p.2.1.2),List.set p.2.2.1 ab p.1,())/\j (i64.wrap (p.1+f),(p.2.1.1.set ab [],PK ab p.2.1.2),List.set p.2.2.1 ab p.1,())<j p)/\(decide (p.1<x.1.2.1)=false->∃(I:C4s->Prop),∃(j: _->Nat),I (U,List.replicate a7 [],p.2.1,())/\∀(l:C4s),let ao:=(gx [] x.1.2.2 l.1);let K:Prop:=(l.1<(x.1.2.2.length:Int));(Ty.int i64).wf l.1/\Kj l.2.1/\l.2.2.1.1.length.le 9223372036854775807/\True->I l->(decide K=true->(U<=l.1/\K)/\Jw ao/\∀(r:Qc),IY r.1/\True->IT (A4 ao) r.1->(U<=l.1/\l.1<(l.2.1.length:Int))/\∃(I_1:LG->Prop),∃(ag: _->Nat),I_1 (U,l.2.2.1,())/\∀(p:LG),let bk:=(i64.wrap (l.1+f),List.set l.2.1 l.1.toNat r.1,p.2.1,());let ak:=(gx D7 ao p.1);let ai:=ak.1.toNat;let G:Prop:=(p.1<(↑ao.length:Int));(Ty.int i64).wf p.1/\p.2.1.1.length.le 9223372036854775807/\True->I_1 p->(decide G=true->(U<=p.1/\G)/\(U<=ak.1/\ak.1<(↑p.2.1.1.length:Int))/\¬Int.toNat ak.1∈p.2.1.2/\I_1 (i64.wrap (p.1+f),(p.2.1.1.set ai (Ej (Ty.int i64) l.1 true (p.2.1.1.getD ai [])),p.2.1.2),())/\ag (i64.wrap (p.1+f),(p.2.1.1.set ai (Ej (Ty.int i64) l.1 true (p.2.1.1.getD ai [])),p.2.1.2),())<ag p)/\(decide G=false->I bk/\j bk<j l))/\(decide K=false->∃(I:C4u->Prop),∃(j: _->Nat),I (U,p.2.2.1,List.replicate a7 U,List.replicate a7 U,List.replicate a7 U,l.2.1,(List.replicate a7 [],Pr tE.sl a7),l.2.2.1,())/\∀(b:C4u),let bn:=(b.2.2.1.length:Int);let z:=(↑b.2.1.length:Int);(Ty.int i64).wf b.1/\(Ty.int i64).sl.wf b.2.1/\aD b.2.2.1/\aD b.2.2.2.1/\aD b.2.2.2.2.1/\Kj b.2.2.2.2.2.1/\b.2.2.2.2.2.2.1.1.length.le 9223372036854775807/\b.2.2.2.2.2.2.2.1.1.length.le 9223372036854775807/\True->I b->(decide (b.1<x.1.1)=true->∃(J:C4o->Prop),(∃(J_1:LG->Prop),(∃(I:C4n->Prop),∃(j: _->Nat),I (U,U,b.2.2.2.2.2.2.2.1,())/\∀(a:C4n),let bp:=(↑a.2.2.1.1.length:Int);let a3:=a.1.toNat;let t:=a.2.1.toNat;let M:Prop:=(a.2.1<z);let bv:Prop:=((↑(a.2.2.1.1.getD (b.2.1.getD t U).toNat []).length:Int)<(↑((a.2.2.1.1.set (b.2.1.getD t U).toNat (a.2.2.1.1.getD (b.2.1.getD t U).toNat [])).getD (b.2.1.getD a3 U).toNat []).length:Int));(Ty.int i64).wf a.1/\(Ty.int i64).wf a.2.1/\a.2.2.1.1.length.le 9223372036854775807/\True->I a->(decide M=true->∃(J:LG->Prop),((U<=a.2.1/\M)/\(U<=b.2.1.getD t U/\b.2.1.getD t U<bp)/\¬(b.2.1.getD t U).toNat∈a.2.2.1.2/\(a.2.2.1.1.getD (b.2.1.getD t U).toNat []).length<=9223372036854775807/\(U<=a.1/\a.1<z)/\(U<=b.2.1.getD a3 U/\b.2.1.getD a3 U<bp)/\¬(b.2.1.getD a3 U).toNat∈a.2.2.1.2/\((a.2.2.1.1.set (b.2.1.getD t U).toNat (a.2.2.1.1.getD (b.2.1.getD t U).toNat [])).getD (b.2.1.getD a3 U).toNat []).length<=9223372036854775807/\(decide bv=true->J (a.2.1,((a.2.2.1.1.set (b.2.1.getD t U).toNat (a.2.2.1.1.getD (b.2.1.getD t U).toNat [])).set (b.2.1.getD a3 U).toNat ((a.2.2.1.1.set (b.2.1.getD t U).toNat (a.2.2.1.1.getD (b.2.1.getD t U).toNat [])).getD (b.2.1.getD a3 U).toNat []),a.2.2.1.2),()))/\(decide bv=false->J (a.1,((a.2.2.1.1.set (b.2.1.getD t U).toNat (a.2.2.1.1.getD (b.2.1.getD t U).toNat [])).set (b.2.1.getD a3 U).toNat ((a.2.2.1.1.set (b.2.1.getD t U).toNat (a.2.2.1.1.getD (b.2.1.getD t U).toNat [])).getD (b.2.1.getD a3 U).toNat []),a.2.2.1.2),())))/\∀(c:LG),let a0:=c.1.toNat;let E:Prop:=((↑(c.2.1.1.getD (b.2.1.getD a0 U).toNat []).length:Int)<=f);(Ty.int i64).wf c.1/\c.2.1.1.length.le 9223372036854775807/\True->J c->(U<=c.1/\c.1<z)/\(U<=b.2.1.getD a0 U/\b.2.1.getD a0 U<(↑c.2.1.1.length:Int))/\¬(b.2.1.getD a0 U).toNat∈c.2.1.2/\(c.2.1.1.getD (b.2.1.getD a0 U).toNat []).length<=9223372036854775807/\(decide E=true->J_1 (c.1,(c.2.1.1.set (b.2.1.getD a0 U).toNat (c.2.1.1.getD (b.2.1.getD a0 U).toNat []),c.2.1.2),()))/\(decide E=false->I (c.1,i64.wrap (a.2.1+f),(c.2.1.1.set (b.2.1.getD a0 U).toNat (c.2.1.1.getD (b.2.1.getD a0 U).toNat []),c.2.1.2),())/\j (c.1,i64.wrap (a.2.1+f),(c.2.1.1.set (b.2.1.getD a0 U).toNat (c.2.1.1.getD (b.2.1.getD a0 U).toNat []),c.2.1.2),())<j a))/\(decide M=false->J_1 (a.1,a.2.2.1,())))/\∀(a:LG),let az:=(i64.wrap (a.1+f));let n:=a.1.toNat;let R:Prop:=(U<=a.1/\a.1<z);let F:Prop:=((↑(a.2.1.1.getD (b.2.1.getD n U).toNat []).length:Int)=U);(Ty.int i64).wf a.1/\a.2.1.1.length.le 9223372036854775807/\True->J_1 a->R/\(U<=b.2.1.getD n U/\b.2.1.getD n U<(↑a.2.1.1.length:Int))/\¬(b.2.1.getD n U).toNat∈a.2.1.2/\(a.2.1.1.getD (b.2.1.getD n U).toNat []).length<=9223372036854775807/\(decide F=true->J (U,U,false,b.2.1,b.2.2.2.2.2.1,b.2.2.2.2.2.2.1,(a.2.1.1.set (b.2.1.getD n U).toNat (a.2.1.1.getD (b.2.1.getD n U).toNat []),a.2.1.2),()))/\(decide F=false->R/\∃(J_2:C5i->Prop),let bt:Prop:=(((Int.toNat a.1+(List.drop az.toNat (List.take z.toNat b.2.1)).length)*(8:Nat)<=ad/\Int.toNat a.1+(List.drop az.toNat (List.take z.toNat b.2.1)).length<=9223372036854775807)/\J_2 (List.take n b.2.1++List.drop az.toNat (List.take z.toNat b.2.1),b.2.2.2.2.2.1,b.2.2.2.2.2.2.1,(a.2.1.1.set (b.2.1.getD n U).toNat (a.2.1.1.getD (b.2.1.getD n U).toNat []),a.2.1.2),()));((U<=U/\U<=a.1/\a.1<=z)/\(U<=i64.wrap (a.1+f)/\i64.wrap (a.1+f)<=z/\z<=z)/\bt/\bt)/\∀(c:C5i),let bq:=(c.2.1.length:Int);(Ty.int i64).sl.wf c.1/\Kj c.2.1/\c.2.2.1.1.length.le 9223372036854775807/\c.2.2.2.1.1.length.le 9223372036854775807/\True->J_2 c->∃(J_3:LG->Prop),((U<=b.2.1.getD n U/\b.2.1.getD n U<(↑c.2.2.2.1.1.length:Int))/\¬(b.2.1.getD n U).toNat∈c.2.2.2.1.2/\∃(I:C4l->Prop),∃(j: _->Nat),I ((-1:Int),(c.2.2.2.1.1.getD (b.2.1.getD n U).toNat [],c.2.2.2.1.1.getD (b.2.1.getD n U).toNat []),())/\∀(d:C4l),let ah:=(decide (d.1<U));let bf:=(↑(List.getD c.2.1 d.1.toNat []).length:Int);let O:Prop:=(U<=d.1/\d.1<bq);(Ty.int i64).wf d.1/\(∀(x:Int×Bool),x∈d.2.1.2->N8 x.1/\True)/\True->I d->(d.2.1.2= []->(false=true->False)/\(false=false->J_3 (d.1,(c.2.2.2.1.1.set (b.2.1.getD n U).toNat d.2.1.1,c.2.2.2.1.2),())))/\∀(ae:List (Int×Bool)) (y:Int×Bool) (af:List (Int×Bool)),let bg:=(↑(List.getD c.2.1 y.1.toNat []).length:Int);let ap:=(d.2.1.1,ae++af);let Q:Prop:=(U<=y.1/\y.1<bq);let D:Prop:=(bg=bf);let bl:=(M0 (decide D) (decide (y.1<d.1)) false);let bz:Prop:=(bg<bf);let av:=(decide bz);d.2.1.2=ae++y::af->(true=true->(decide (d.1<U)=false->Q)/\(decide (d.1<U)=false->O)/\(M0 ah true av=false->Q)/\(M0 ah true av=false->O)/\(M0 (M0 ah true av) true bl=true->I (y.1,ap,())/\j (y.1,ap,())<j d)/\(M0 (M0 ah true av) true bl=false->I (d.1,ap,())/\j (d.1,ap,())<j d))/\(true=false->J_3 (d.1,(c.2.2.2.1.1,(b.2.1.getD n U).toNat::c.2.2.2.1.2),())))/\∀(p:LG),(Ty.int i64).wf p.1/\p.2.1.1.length.le 9223372036854775807/\True->J_3 p->J (p.1,b.2.1.getD n U,true,c.1,c.2.1,c.2.2.1,p.2.1,())))/\∀(a:C4o),let aq:=a.2.1.toNat;let V:=(List.getD a.2.2.2.2.1 a.1.toNat []);(Ty.int i64).wf a.1/\(Ty.int i64).wf a.2.1/\Ty.bool.wf a.2.2.1/\(Ty.int i64).sl.wf a.2.2.2.1/\Kj a.2.2.2.2.1/\a.2.2.2.2.2.1.1.length.le 9223372036854775807/\a.2.2.2.2.2.2.1.1.length.le 9223372036854775807/\True->J a->((!a.2.2.1)=true->(¬A7 x.1->([],[],(U,U,[]),U,U,[])=jT/\a6=f)/\(A7 x.1->(x.1.1≠x.1.2.1->([],[],(U,U,[]),U,U,[])=jT/\a6=a5)/\(x.1.1=x.1.2.1->(¬nonsing x.1.1.toNat (el x.1)->([],[],(U,U,[]),U,U,[])=jT/\a6=a6)/\(nonsing x.1.1.toNat (el x.1)->Bi ([],[],(U,U,[]),U,U,[]) x.1.1/\a6=U/\ac/\ac/\b8/\∀(i k:Nat),ba i k))))/\((!a.2.2.1)=false->∃(J:C5j->Prop),let bu:Prop:=((U<=b.1/\b.1<(b.2.2.2.1.length:Int))/\(U<=a.2.1/\a.2.1<(b.2.2.2.2.1.length:Int))/\J (List.set b.2.2.1 b.1.toNat a.1,List.set b.2.2.2.1 b.1.toNat a.2.1,List.set b.2.2.2.2.1 aq b.1,()));((U<=b.1/\b.1<bn)/\bu/\bu)/\∀(c:C5j),aD c.1/\aD c.2.1/\aD c.2.2.1/\True->J c->(U<=a.1/\a.1<(a.2.2.2.2.1.length:Int))/\∃(I_1:LG->Prop),∃(ag: _->Nat),I_1 (U,a.2.2.2.2.2.2.1,())/\∀(d:LG),let bs:=(↑d.2.1.1.length:Int);let an:=(gx D7 V d.1);let aj:=an.1.toNat;let B:Prop:=(d.1<(↑V.length:Int));(Ty.int i64).wf d.1/\d.2.1.1.length.le 9223372036854775807/\True->I_1 d->(decide B=true->(U<=d.1/\B)/\(U<=an.1/\an.1<bs)/\¬Int.toNat an.1∈d.2.1.2/\I_1 (i64.wrap (d.1+f),(d.2.1.1.set aj (Pp (Ty.int i64) a.1 (d.2.1.1.getD aj [])),d.2.1.2),())/\ag (i64.wrap (d.1+f),(d.2.1.1.set aj (Pp (Ty.int i64) a.1 (d.2.1.1.getD aj [])),d.2.1.2),())<ag d)/\(decide B=false->ER K1 V/\∀(a1:F5),UE a1.1/\True->a1.1=rc (A4 V a.2.1)->N6 a1.1/\∀(a9:B8c),UE a9.1/\True/\True->(rv a1.1=(0:Rat)->a9.2.1=false)/\(rv a1.1≠(0:Rat)->a9.1=rc (rv a1.1)⁻¹/\a9.2.1=true)->∃(J:C5d->Prop),((U<=a.2.1/\a.2.1<bs)/\¬Int.toNat a.2.1∈d.2.1.2/\∃(I:C5c->Prop),∃(j: _->Nat),I ([],(d.2.1.1.getD aq [],d.2.1.1.getD aq []),())/\∀(p:C5c),(Ty.int i64).sl.wf p.1/\(∀(x:Int×Bool),x∈p.2.1.2->N8 x.1/\True)/\True->I p->(p.2.1.2= []->(false=true->False)/\(false=false->J (p.1,(d.2.1.1.set aq p.2.1.1,d.2.1.2),())))/\∀(ae:List (Int×Bool)) (y:Int×Bool) (af:List (Int×Bool)),let bm:=(p.1++ [y.1],(p.2.1.1,ae++af),());p.2.1.2=ae++y::af->(true=true->((p.1.length+ [y.1].length)*(8:Nat)<=ad/\p.1.length+ [y.1].length<=9223372036854775807)/\I bm/\j bm<j p)/\(true=false->J (p.1,(d.2.1.1,Int.toNat a.2.1::d.2.1.2),())))/\∀(g:C5d),(Ty.int i64).sl.wf g.1/\g.2.1.1.length.le 9223372036854775807/\True->J g->∃(I_2:C4t->Prop),∃(bx: _->Nat),I_2 (U,a.2.2.2.2.1,a.2.2.2.2.2.1,g.2.1,())/\∀(h:C4t),let bh:=(i64.wrap (b.1+f),a.2.2.2.1,c.1,c.2.1,c.2.2.1,h.2.1,h.2.2.1,h.2.2.2.1,());let Y:=h.1.toNat;let aa:=(List.getD h.2.1 (g.1.getD Y U).toNat []);let P:Prop:=(h.1<(↑g.1.length:Int));let C:Prop:=(U<=g.1.getD Y U/\g.1.getD Y U<(↑h.2.2.1.1.length:Int));let q:Prop:=(U<=g.1.getD Y U/\g.1.getD Y U<(h.2.1.length:Int));(Ty.int i64).wf h.1/\Kj h.2.1/\h.2.2.1.1.length.le 9223372036854775807/\h.2.2.2.1.1.length.le 9223372036854775807/\True->I_2 h->(decide P=true->(U<=h.1/\P)/\∃(J:A7r->Prop),let A:(F5)->(F5)->Prop:=(λr w=>UE w.1/\True->w.1=rc (rv r.1*rv a9.1)->J (w.1.1.1,w.1.1.2,w.1.2,()));let S:(F5)->Prop:=(λr=>(N6 r.1/\N6 a9.1)/\∀(w:F5),A r w);(q/\(ER K1 aa/\∀(r:F5),UE r.1/\True->r.1=rc (A4 aa a.2.1)->(S r)/\(N6 r.1/\N6 a9.1)/\∀(w:F5),A r w)/\ER K1 aa/\∀(r:F5),UE r.1/\True->r.1=rc (A4 aa a.2.1)->S r)/\∀(a4:A7r),let b6:=(a4.1,a4.2.1);let b3:=(b.1,b6,a4.2.2.1);Ty.bool.wf a4.1/\(Ty.int u32).sl.wf a4.2.1/\(Ty.int u32).sl.wf a4.2.2.1/\True->J a4->∃(J:C3z->Prop),let u:Prop:=((((h.2.2.1.1.getD (g.1.getD Y U).toNat []).length+ [b3].length)*(64:Nat)<=ad/\(h.2.2.1.1.getD (g.1.getD Y U).toNat []).length+ [b3].length<=9223372036854775807)/\C/\(g.1.getD Y U).toNat=(g.1.getD Y U).toNat/\J ((h.2.2.1.1.set (g.1.getD Y U).toNat (h.2.2.1.1.getD (g.1.getD Y U).toNat []++ [b3]),h.2.2.1.2),()));let bc:Prop:=(¬(g.1.getD Y U).toNat∈h.2.2.1.2/\u);let L:Prop:=(bc/\¬(g.1.getD Y U).toNat∈h.2.2.1.2/\u/\u);(C/\((bc/\bc)/\(¬(g.1.getD Y U).toNat∈h.2.2.1.2/\u/\u/\u)/\L)/\(¬(g.1.getD Y U).toNat∈h.2.2.1.2/\(u/\u/\u)/\(u/\u)/\u)/\L/\¬(g.1.getD Y U).toNat∈h.2.2.1.2/\(u/\u)/\u)/\∀(bb:C3z),bb.1.1.length.le 9223372036854775807/\True->J bb->q/\N6 (b6,a4.2.2.1)/\∀(w:F5),UE w.1/\True->w.1=rc (-rv (b6,a4.2.2.1))->(ER K1 aa/\sz K1 w.1/\ER K1 V)/\∀(ax:Qc),let b2:=(List.set h.2.1 (g.1.getD Y U).toNat ax.1);IY ax.1/\True->IT (fun(i:Int)=>A4 aa i+rv w.1*A4 V i) ax.1->q/\∃(I:LG->Prop),∃(j: _->Nat),I (U,h.2.2.2.1,())/\∀(o:LG),let am:=(gx D7 V o.1);let ar:=am.1.toNat;let be:Prop:=(o.1<(↑V.length:Int));(Ty.int i64).wf o.1/\o.2.1.1.length.le 9223372036854775807/\True->I o->(decide be=true->(U<=o.1/\be)/\(U<=am.1/\am.1<(↑o.2.1.1.length:Int))/\¬Int.toNat am.1∈o.2.1.2/\I (i64.wrap (o.1+f),(o.2.1.1.set ar (Pp (Ty.int i64) (g.1.getD Y U) (o.2.1.1.getD ar [])),o.2.1.2),())/\j (i64.wrap (o.1+f),(o.2.1.1.set ar (Pp (Ty.int i64) (g.1.getD Y U) (o.2.1.1.getD ar [])),o.2.1.2),())<j o)/\(decide be=false->(U<=g.1.getD Y U/\g.1.getD Y U<(↑b2.length:Int))/\∃(I:LG->Prop),∃(j: _->Nat),I (U,o.2.1,())/\∀(s:LG),let al:=(i64.wrap (h.1+f),List.set h.2.1 (g.1.getD Y U).toNat ax.1,bb.1,s.2.1,());let X:=(gx D7 (b2.getD (g.1.getD Y U).toNat []) s.1);let au:=X.1.toNat;let b9:Prop:=(s.1<(↑(b2.getD (g.1.getD Y U).toNat []).length:Int));(Ty.int i64).wf s.1/\s.2.1.1.length.le 9223372036854775807/\True->I s->(decide b9=true->(U<=s.1/\b9)/\(U<=X.1/\X.1<(↑s.2.1.1.length:Int))/\¬Int.toNat X.1∈s.2.1.2/\I (i64.wrap (s.1+f),(s.2.1.1.set au (Ej (Ty.int i64) (g.1.getD Y U) true (s.2.1.1.getD au [])),s.2.1.2),())/\j (i64.wrap (s.1+f),(s.2.1.1.set au (Ej (Ty.int i64) (g.1.getD Y U) true (s.2.1.1.getD au [])),s.2.1.2),())<j s)/\(decide b9=false->I_2 al/\bx al<bx h)))/\(decide P=false->I bh/\j bh<j b))))/\(decide (b.1<x.1.1)=false->∃(I:C5g->Prop),∃(j: _->Nat),I (b.2.2.2.2.1,U,List.replicate a7 [],List.replicate a7 [],b.2.2.2.2.2.2.1,())/\∀(a:C5g),let bo:=(x.1.1,x.1.1,a.2.2.1);let b0:=(a.1.length:Int);let a2:=a.2.1.toNat;let Z:=(b.2.2.1,b.2.2.2.1,bo,x.1.1,x.1.1,a.2.2.2.1);let W:=(List.getD b.2.2.1 a2 U);let b4:=(List.getD b.2.2.2.2.2.1 W.toNat []);let H:Prop:=(a.2.1<bn);let ay:Prop:=(U<=a.2.1/\a.2.1<(a.2.2.1.length:Int));let b7:(F5)->Prop:=(λr=>((a.2.2.2.2.1.1.getD W.toNat []).length+ [(a.2.1,r.1)].length)*(64:Nat)<=ad/\(a.2.2.2.2.1.1.getD W.toNat []).length+ [(a.2.1,r.1)].length<=9223372036854775807);(Ty.int i64).sl.wf a.1/\(Ty.int i64).wf a.2.1/\Kj a.2.2.1/\Kj a.2.2.2.1/\a.2.2.2.2.1.1.length.le 9223372036854775807/\True->I a->(decide H=true->(U<=a.2.1/\H)/\∃(J:C4x->Prop),let a8:(F5)->Prop:=(λr=>let bj:=(a.2.1,r.1);(((a.2.2.2.2.1.1.getD W.toNat []).length+ [bj].length)*(64:Nat)<=ad/\(a.2.2.2.2.1.1.getD W.toNat []).length+ [bj].length<=9223372036854775807)/\ay/\J (List.set a.2.2.1 a2 (a.2.2.2.2.1.1.getD W.toNat []++ [bj]),(a.2.2.2.2.1.1,W.toNat::a.2.2.2.2.1.2),()));let N:Prop:=(True/\∀(r:F5),UE r.1/\True->r.1=ri f->a8 r);let aw:(F5)->Prop:=(λr=>¬W.toNat∈a.2.2.2.2.1.2/\a8 r);((U<=List.getD b.2.2.1 a2 U/\List.getD b.2.2.1 a2 U<(↑a.2.2.2.2.1.1.length:Int))/\((¬W.toNat∈a.2.2.2.2.1.2/\N)/\True/\∀(r:F5),UE r.1/\True->r.1=ri f->(aw r)/\¬W.toNat∈a.2.2.2.2.1.2/\(b7 r)/\ay/\J (List.set a.2.2.1 a2 (a.2.2.2.2.1.1.getD W.toNat []++ [(a.2.1,r.1)]),(a.2.2.2.2.1.1,W.toNat::a.2.2.2.2.1.2),()))/\(¬W.toNat∈a.2.2.2.2.1.2/\N/\True/\∀(r:F5),UE r.1/\True->r.1=ri f->(a8 r)/\(a8 r)/\(b7 r)/\ay/\J (List.set a.2.2.1 a2 (a.2.2.2.2.1.1.getD W.toNat []++ [(a.2.1,r.1)]),(a.2.2.2.2.1.1,W.toNat::a.2.2.2.2.1.2),()))/\True/\∀(r:F5),UE r.1/\True->r.1=ri f->((aw r)/\aw r)/\(¬W.toNat∈a.2.2.2.2.1.2/\(a8 r)/\(a8 r)/\a8 r)/\(aw r)/\¬W.toNat∈a.2.2.2.2.1.2/\(a8 r)/\(b7 r)/\ay/\J (List.set a.2.2.1 a2 (a.2.2.2.2.1.1.getD W.toNat []++ [(a.2.1,r.1)]),(a.2.2.2.2.1.1,W.toNat::a.2.2.2.2.1.2),()))/\∀(c:C4x),Kj c.1/\c.2.1.1.length.le 9223372036854775807/\True->J c->(U<=List.getD b.2.2.1 a2 U/\List.getD b.2.2.1 a2 U<(b.2.2.2.2.2.1.length:Int))/\(ER K1 b4/\List.length a.1<=100000)/\∀(a1:List EE×Bool×Unit),let bi:=(a.1,i64.wrap (a.2.1+f),c.1,List.set a.2.2.2.1 a2 a1.1,c.2.1,());IY a1.1/\True/\True->(K2 a.1 b0->(∀(k:Int),A4 b4 k≠(0:Rat)->U<=k/\k<b0)->IT (fun(i:Int)=>if U<=i/\i<b0 then A4 b4 (↑(List.idxOf i a.1):Int)else(0:Rat)) a1.1/\a1.2.1=true)->(U<=a.2.1/\a.2.1<(a.2.2.2.1.length:Int))/\I bi/\j bi<j a)/\(decide H=false->(¬A7 x.1->Z=jT/\U=f)/\(A7 x.1->(x.1.1≠x.1.2.1->Z=jT/\U=a5)/\(x.1.1=x.1.2.1->(¬nonsing x.1.1.toNat (el x.1)->Z=jT/\U=a6)/\(nonsing x.1.1.toNat (el x.1)->Bi Z x.1.1/\U=U/\(∀(v:List EE),v∈a.2.2.1->U8 v)/\(∀(v:List EE),v∈a.2.2.2.1->U8 v)/\(∀(T:Nat),(1:Nat)<=T->aW x.1.1.toNat x.1.1.toNat (el x.1) T->∀(i k:Nat),i<x.1.1.toNat->qs (T+T) (el bo i k)/\qs (T+T) (el (x.1.1,x.1.1,a.2.2.2.1) i k))/\∀(i k:Nat),i<x.1.1.toNat->k<x.1.1.toNat->luM Z x.1.1.toNat i k=el x.1 (ix b.2.2.1 i) (ix b.2.2.2.1 k))))))))))
def FE (x:A3 P3.args):C1n prog SS Sm Qm P3 f103 x=Il x:=by kernel_rfl
def C6e (n:Nat) (M:J1) (b:Wf) (rows c:List (List C8)) (a:List S9) (q:Int×Int×Bool×Wf×List (List C8)×NR×NB×Unit):Prop:=q.2.2.2.2.1=rows/\q.2.2.2.2.2.1.1=c/\jR n q.2.2.2.2.2.1.2/\q.2.2.2.2.2.2.1.1=a/\jR n q.2.2.2.2.2.2.1.2/\(q.2.2.1=false->¬nonsing n (el M))/\(q.2.2.1=true->q.2.1∈b/\q.1∈S1 (a.getD q.2.1.toNat [])/\q.2.2.2.1.Nodup/\∀x,x∈q.2.2.2.1↔x∈b/\x≠q.2.1)
def B8j (n:Nat) (b:Wf) (a:List S9) (q:Int×NB×Unit):Prop:=0<=q.1/\q.1<(b.length:Int)/\q.2.1.1=a/\jR n q.2.1.2
def C2s (n:Nat) (a:Wf) (b:List S9) (q:Int×Int×NB×Unit):Prop:=0<=q.1/\q.1<(a.length:Int)/\0<=q.2.1/\q.2.1<=(a.length:Int)/\q.2.2.1.1=b/\jR n q.2.2.1.2
def C6f (n:Nat) (a:Wf) (b:Nat) (rows d:List (List C8)) (c:List S9) (q:Wf×List (List C8)×NR×NB×Unit):Prop:=q.1=a.take b++a.drop (b+1)/\q.2.1=rows/\q.2.2.1.1=d/\jR n q.2.2.1.2/\q.2.2.2.1.1=c/\jR n q.2.2.2.1.2
def C6n (es:S9) (q:Int×(S9×S9)×Unit):Prop:=q.2.1.1=es/\(∀y∈q.2.1.2,y∈es)/\((q.1<0/\q.2.1.2.length=es.length)\/q.1∈S1 es)
def C6o (n:Nat) (a:List S9) (c:Int) (q:Int×NB×Unit):Prop:=q.1∈S1 (a.getD c.toNat [])/\q.2.1.1=a/\jR n q.2.1.2
def C6l (es:S9) (q:Wf×(S9×S9)×Unit):Prop:=q.2.1.1=es/\(q.1++S1 q.2.1.2).Perm (S1 es)
def C6m (n:Nat) (a:List S9) (c:Int) (q:Wf×NB×Unit):Prop:=q.1.Perm (S1 (a.getD c.toNat []))/\q.2.1.1=a/\jR n q.2.1.2
def J8 (n:Nat) (M:J1) (k:Nat) (d P:Wf) (rows b:List (List C8)) (r c:Int) (a:Wf) (q:Int×List (List C8)×NR×NB×Unit):Prop:=0<=q.1/\q.1<=(a.length:Int)/\(∀s,1<=s->aW n n (el M) s->CI n k (s+s) d P rows b r c (a.take q.1.toNat) q.2.1 q.2.2.1.1 q.2.2.2.1.1)/\jR n q.2.2.1.2/\jR n q.2.2.2.1.2
def C2w (x:Rat) (q:Bool×Wf×Wf×Unit):Prop:=((q.1,q.2.1),q.2.2.1)=rc x
def C6h (n:Nat) (P place:Wf) (rows b:List (List C8)) (q:Wf×Int×List (List C8)×List (List C8)×NR×Unit):Prop:=q.1=place/\0<=q.2.1/\q.2.1<=(n:Int)/\q.2.2.1.length=n/\q.2.2.2.1.length=n/\q.2.2.2.2.1.1=b/\(∀m∈q.2.2.2.2.1.2,n<=m\/∃a:Nat,(a:Int)<q.2.1/\m=ix P a)/\(∀a:Nat,(a:Int)<q.2.1->q.2.2.1.getD a []=b.getD (ix P a) []++ [((a:Int),rc 1)])/\∀a:Nat,(a:Int)<q.2.1->IT (λi=>if 0<=i/\i<(n:Int)then A4 (rows.getD (ix P a) []) ((List.idxOf i place:Nat):Int)else 0) (q.2.2.2.1.getD a [])
def EI.okFin {n k:Nat} {S:Nat->Nat} {A:Nat->Nat->Rat} {g P Q place:Wf} {rows c:List (List C8)} {b:List S9} (h:EI n k S A g P Q place rows c b) (i:n<=16384) {a:Nat} (d:a<k) (f:S a<=K1):ER K1 (rows.getD (ix P a) []):=by
 obtain⟨b,c,_⟩:=h.can _ (h.elim.plt a d);have:=Fc (n:=(n:Int)) (v:=rows.getD (ix P a) []) ⟨b.1,λe he=>⟨(c e he).1,(c e he).2,(b.2 e he).1⟩⟩;exact⟨b.1,Tt b λj=>H4 (h.fin a d j) f,ω⟩
def EI.cnt {n k:Nat} {S:Nat->Nat} {A:Nat->Nat->Rat} {a P Q place:Wf} {rows c:List (List C8)} {b:List S9} (h:EI n k S A a P Q place rows c b) (d:n<=16384) {i:Int} (f:0<=i) (g:i<(a.length:Int)):(0<=a.getD i.toNat 0/\a.getD i.toNat 0<((b.length:Nat):Int))/\(a.getD i.toNat 0).toNat<n/\(b.getD (a.getD i.toNat 0).toNat []).length<=9223372036854775807/\a.getD i.toNat 0∈a:=by
 have b:a.getD i.toNat 0∈a:=E2 ω;obtain⟨a,c1⟩:=h.crange b;have:=h.colLen b;rw[h.lcols];exact⟨⟨a,c1⟩,ω,ω,b⟩
set_option maxHeartbeats 4000000
def FF:sr P3 Il:=λx c0 fb=>by
 obtain⟨⟨R,C,D⟩,_⟩:=x;have f3:WH (R,C,D):=CZ c0.1.2.2.2;change Int at R C;change List (List C8)at D;obtain⟨fk,ez⟩:S4 K1 (R,C,D)/\(A7 (R,C,D)->R=C->∃T:Nat,1<=T/\8*T+8<=K1/\aW R.toNat R.toNat (el (R,C,D)) T):=fb;simp only[Il];refine⟨trivial,?_⟩;rintro⟨u,_⟩ _ I;simp only at I|-;by_cases a7:A7 (R,C,D)
 case neg=>
  have I:u=false:=by rw[I];exact rI a7
  rw[I];exact⟨λ_=>⟨λ_=>⟨rfl,trivial⟩,λh=>absurd h a7⟩,λh=>(by cases h)⟩
 have I:u=true:=by rw[I];exact rF a7
 rw[I];obtain⟨g5,g6,g7,g8,ef,eg⟩:=id a7;simp only at g5 g6 g7 g8 ef eg;refine⟨λh=>(by cases h),λ_=>⟨λbu=>?_,λcg=>?_⟩⟩
 . have bu:=qA bu;exact⟨λh=>absurd a7 h,λ_=>⟨λ_=>⟨rfl,trivial⟩,λh=>absurd h bu⟩⟩
 have cg:R=C:=rA (qB cg);subst cg;obtain⟨n,rfl⟩:∃n:Nat,R=(n:Int):=⟨R.toNat,ω⟩;obtain⟨V,cr,gy,bz⟩:=ez a7 rfl;rw[qO]at bz;simp only[qO];have b1:0<=(n:Int)/\(n:Int)<=(n:Int)/\8*(n:Int)<=281474976710656/\(n:Int)<=9223372036854775807:=⟨ω,qH _,ω,ω⟩;have bi:0<=(n:Int)/\(n:Int)<=(n:Int)/\24*(n:Int)<=281474976710656/\(n:Int)<=9223372036854775807:=⟨ω,qH _,ω,ω⟩;refine⟨b1,b1,bi,bi,b1,bi,bi,b1,b1,KD n,λp=>((n:Int)-p.1).toNat,KD.init,?_⟩;rintro⟨(bf:Int),⟨(ag:List S9),em⟩,left,_⟩ _ H;simp only;have bt:=H.1;have dr:=H.2.1;have f4:ag.length=n:=H.2.2.1;have f5:left.length=n:=H.2.2.2.2.2.1;simp only at bt dr;refine⟨λf=>?_,λf=>?_⟩
 . have f:=qA f;rw[wv ω];exact⟨⟨bt,ω⟩,⟨bt,ω⟩,H.next f,ω⟩
 have f:=qB f;have cn:(n:Int)<=bf:=ω
 have gp:(D.length:Int)=(n:Int):=ef;refine⟨GA n D,λp=>((n:Int)-p.1).toNat,GA.init H cn,?_⟩;rintro⟨(X:Int),ed,⟨a1,d3⟩,_⟩ _ an;change List (List C8)at ed;change List S9 at a1;simp only;have av:=an.1;have dz:=an.2.1;have fh:ed.length=n:=an.2.2.1;simp only at av dz;refine⟨λw=>?_,λw=>?_⟩
 . have w:=qA w;have fl:X<(n:Int):=ω
   have cm:=G4 (d:=([]:List C8)) av w;rw[Li av w]at cm|-;have cu:=eg _ cm;have a6:=Uy a7 fk cm;refine⟨⟨av,w⟩, .inl ⟨a6.1,a6.2.1,a6.2.2⟩,?_⟩;rintro⟨(ax:List C8),_⟩ _ c0;simp only at c0|-;refine⟨⟨av,ω⟩,QA n (λi=>A4 (D.getD i [])) X (D.getD X.toNat []),λp=>(((D.getD X.toNat []).length:Int)-p.1).toNat,an.row,?_⟩;rintro⟨(c3:Int),⟨(cols2:List S9),d4⟩,_⟩ _ b8;simp only;have ex:=b8.1;have ey:=b8.2.1;simp only at ex ey;have e2:∀e∈D.getD X.toNat [],0<=e.1/\e.1<(n:Int):=λe a2=>⟨(cu.2 e a2).1,(cu.2 e a2).2.1⟩
   have f9:=a6.2.2;refine⟨λE=>?_,λE=>?_⟩
   . have E:=qA E;rw[wv ω];obtain⟨r,s,a9⟩:=b8.rng e2 E;exact⟨r,s,a9,b8.next e2 E,ω⟩
   have E:=qB E;rw[wv ω];exact⟨an.next fl cu c0 b8 ω,ω⟩
 have w:=qB w;have ds:(n:Int)<=X:=ω
 refine⟨B6p n ((n:Int),(n:Int),D),λp=>((n:Int)-p.1).toNat,B6p.init a7 f3 rfl rfl H cn an ds,?_⟩;clear H bt dr f4 f5 an av dz fh f cn w ds;rintro⟨(o:Int),(M:Wf),(P:Wf),(Q:Wf),(place:Wf),rows,⟨c2,gi⟩,⟨ag,em⟩,_⟩ _ ⟨cx,fo,ak,b3,d5⟩;change List (List C8)at rows c2;change List S9 at ag;simp only at cx fo ak b3 d5|-;have a:=ak V cr bz;refine⟨λb9=>?_,λb9=>?_⟩
 . have b9:=qA b9;have cl:o.toNat<n:=ω
   have b6:V+V<=K1:=ω
   have gv:=a.more cl;have bb:=a.lrows;have dn:=a.llow;have dm:=a.lcols;have gw:M.length<=n:=OI a.rnd λx hx=>a.crange hx
   refine⟨C6e n ((n:Int),(n:Int),D) M rows c2 ag,⟨B8j n M ag,⟨C2s n M ag,λq=>((M.length:Int)-q.2.1).toNat,⟨qH _,by simp only;omega,qH _,by simp only;omega,rfl,d5⟩,?_⟩,?_⟩,?_⟩
   . rintro⟨(b:Int),(j:Int),⟨b2,d2⟩,_⟩ _ ⟨a0,a3,ab,cw,rfl,N⟩;simp only at a0 a3 ab cw N|-;refine⟨λk=>?_,λk=>⟨a0,a3,rfl,N⟩⟩;have k:=qA k;obtain⟨c5,bg,c6,ay⟩:=a.cnt ω ab k;obtain⟨ei,ej,ek,gc⟩:=a.cnt ω a0 a3;simp only[KZ];refine⟨B8j n M b2,⟨⟨ab,k⟩,c5,N _ bg,c6,⟨a0,a3⟩,ei,N _ ej,ek,λ_=>⟨ab,k,rfl,N⟩,λ_=>⟨a0,a3,rfl,N⟩⟩,?_⟩;rintro⟨(eh:Int),⟨cols2,d4⟩,_⟩ _ ⟨az,b0,rfl,ah⟩;simp only at az b0 ah|-;obtain⟨bj,bk,bl,gm⟩:=a.cnt ω az b0;rw[wv ω];exact⟨⟨az,b0⟩,bj,ah _ bk,bl,λ_=>⟨az,b0,rfl,ah⟩,λ_=>⟨⟨az,b0,by simp only;omega,by simp only;omega,rfl,ah⟩,ω⟩⟩
   . rintro⟨(b:Int),⟨b2,d2⟩,_⟩ _ ⟨a0,a3,rfl,N⟩;simp only at a0 a3 N|-;obtain⟨c5,bg,c6,ay⟩:=a.cnt ω a0 a3;simp only[KZ];refine⟨⟨a0,a3⟩,c5,N _ bg,c6,λaj=>?_,λaj=>?_⟩
     . have aj:=qA aj;exact⟨rfl,rfl,b3,rfl,N,λ_=>a.stuck ay (qM (g3t.1 aj)),λh=>(by cases h)⟩
     have aj:=qB aj;rw[wv ω];simp only[qO,vF];rw[(ω:(b+1).toNat=b.toNat+1)];have ba:b.toNat+(List.drop (b.toNat+1) M).length<=n:=by rw[sL];omega
     generalize ac:M.getD b.toNat 0=c at*;obtain⟨bh,c1⟩:=a.crange ay;have co:=a.pick (b:=b.toNat) ω;rw[ac]at co;refine⟨⟨a0,a3⟩,C6f n M b.toNat rows c2 b2,⟨⟨qH _,a0,ω⟩,⟨ω,ω,qH _⟩,⟨⟨ω,ω⟩,rfl,rfl,rfl,b3,rfl,N⟩,⟨ω,ω⟩,rfl,rfl,rfl,b3,rfl,N⟩,?_⟩;rintro⟨(fx:Wf),ec,⟨h0,gj⟩,⟨cols2,d4⟩,_⟩ _ ⟨ai,rfl,rfl,b4,rfl,aq⟩;simp only at ai b4 aq|-;obtain⟨gs,dc⟩:=a.col c ay;have fi:∀y:Int×Bool,y∈cols2.getD c.toNat []->0<=y.1/\y.1<(ec.length:Int):=λy a8=>by
      obtain⟨cb,g9,_⟩:=(dc y.1).1 (mY a8);rw[bb];exact⟨cb,g9⟩
     have bu:0<(cols2.getD c.toNat []).length:=by
      rcases vN (cols2.getD c.toNat []).length with J|J
      . exact absurd (g3t.2 J) aj
      exact J
     have ce:c<(cols2.length:Int):=by rw[dm];exact c1
     refine⟨C6o n cols2 c,⟨⟨bh,ce⟩,aq _ bg,C6n (cols2.getD c.toNat []),λq=>q.2.1.2.length,⟨rfl,λy a8=>a8, .inl ⟨by show(-1:Int)<0;decide,rfl⟩⟩,?_⟩,?_⟩
     . rintro⟨(i:Int),⟨eo,(left:S9)⟩,_⟩ _ ⟨rfl,ae,B⟩;simp only at ae B|-;refine⟨λa4=>⟨λh=>(by cases h),λ_=>⟨?_,KZ _ _ _,aq⟩⟩,λl1 y l2 a4=>⟨λ_=>?_,λh=>(by cases h)⟩⟩
       . rcases B with⟨_,B⟩ |B
         . rw[a4]at B;simp only[xZ]at B;omega
         exact B
       have a8:=fi y (ae y (by rw[a4];simp));have fm:y.1∈S1 (cols2.getD c.toNat []):=mY (ae y (by rw[a4];simp));have e0:∀z∈l1++l2,z∈cols2.getD c.toNat []:=λz J=>ae z (by
        rw[a4];rcases qS.1 J with J|J
        . exact sE _ J
        exact tA _ (qI _ J))
       have bq:(l1++l2).length<left.length:=by rw[a4,rN,rN,rJ];omega
       have ad:¬i<0->i∈S1 (cols2.getD c.toNat [])/\0<=i/\i<(ec.length:Int):=λh=>by
        rcases B with⟨E,_⟩ |E
        . exact absurd E h
        obtain⟨cb,g9,_⟩:=(dc i).1 E;rw[bb];exact⟨E,cb,g9⟩
       have f6:∀ {q:Bool},M0 (decide (i<0)) true q=false->¬i<0:=λ{q} h E=>by
        rw[rF E]at h;cases h
       refine⟨λ_=>a8,λh=>(ad (qB h)).2,λ_=>a8,λh=>(ad (f6 h)).2,λ_=>⟨⟨rfl,e0, .inr fm⟩,bq⟩,λh=>⟨⟨rfl,e0, .inr (ad ?_).1⟩,bq⟩⟩;intro E;rw[rF E]at h;cases h
     rintro⟨i,⟨ga,gf⟩,_⟩ _ ⟨ae,rfl,be⟩;exact⟨rfl,rfl,b4,rfl,be,λh=>(by cases h),λ_=>⟨ay,ae,ai▸co.1,ai▸co.2⟩⟩
   rintro⟨(u:Int),(c:Int),(e7:Bool),(fw:Wf),l,⟨Y,c9⟩,⟨b2,d2⟩,_⟩ _ ⟨rfl,rfl,N,rfl,ah,e5,e6⟩;simp only at N ah e5 e6|-;cases e7 with
   |false=>exact⟨λ_=>⟨λh=>absurd a7 h,λ_=>⟨λh=>absurd rfl h,λ_=>⟨λ_=>⟨rfl,trivial⟩,λh=>absurd h (e5 rfl)⟩⟩⟩,λh=>(by cases h)⟩
   |true=>
   obtain⟨ac,I,ff,fg⟩:=e6 rfl;obtain⟨bh,c1⟩:=a.crange ac;obtain⟨fr,fs,fu,eb⟩:=a.row ac I;have er:=a.lP;have gq:=a.lQ;have bx:=a.lpl;refine⟨λh=>(by cases h),λ_=>?_⟩;have fq:0<=o/\o<(P.length:Int):=⟨cx,ω⟩;have e8:0<=o/\o<(Q.length:Int):=⟨cx,ω⟩;have e9:0<=c/\c<(place.length:Int):=⟨bh,ω⟩;refine⟨λq=>q.1=P.set o.toNat u/\q.2.1=Q.set o.toNat c/\q.2.2.1=place.set c.toNat o,⟨fq,⟨e8,e9,rfl,rfl,rfl⟩,e8,e9,rfl,rfl,rfl⟩,?_⟩;rintro⟨P',Q',ea,_⟩ _ ⟨bj,bk,bl⟩;simp only at bj bk bl|-;have cq:ER K1 (l.getD u.toNat []):=a.okRow b6 ω ω;have bc:∀e∈l.getD u.toNat [],0<=e.1/\e.1<(n:Int):=(a.can u.toNat ω).2.1;have fd:=(a.can u.toNat ω).2.2;have dw:V9 l u.toNat c.toNat=A4 (l.getD u.toNat []) c:=by unfold V9;rw[(ω:((c.toNat:Nat):Int)=c)]
   rw[dw]at eb;generalize cp:l.getD u.toNat []=t at*;have gu:=cq.2.2;refine⟨⟨fr,by rw[bb];exact fs⟩,HG n M (inC b2) u t,λp=>((t.length:Int)-p.1).toNat,⟨qH _,qF _,dm,ah,λj k=>⟨a.crange k,lA ⟨(a.col j k).1,λx=>xS⟩⟩⟩,?_⟩;rintro⟨(bf:Int),⟨(a1:List S9),d3⟩,_⟩ _ A;simp only;have fy:=A.1;have fz:=A.2.1;simp only at fy fz;refine⟨λf=>?_,λf=>?_⟩
   . have f:=qA f;rw[wv ω];obtain⟨r,s,a9⟩:=A.rng bc f;exact⟨r,s,a9,A.next bc f,ω⟩
   have f:=qB f;have ci:∀W,1<=W->aW n n (el ((n:Int),(n:Int),D)) W->CI n o.toNat (W+W) M P l Y u c [] l Y a1:=λW r s=>CI.init (ak W r s) ac I A.2.2.1 λj k=>by
    have cb:=(A.2.2.2.2 j k).2;simp only at cb;rw[E9 (ω:(t.length:Int)<=bf)]at cb;rw[cp];exact cb
   have d6:jR n d3:=A.2.2.2.1;have f2:a1.length=n:=A.2.2.1;clear A;obtain⟨ck,bp⟩:=(ci V cr bz).col c ac;have dj:∀x∈S1 (a1.getD c.toNat []),0<=x/\x<(n:Int):=λx hx=>⟨((bp x).1 hx).2.1,((bp x).1 hx).2.2.1⟩
   have di:(S1 (a1.getD c.toNat [])).length<=n:=OI ck dj;refine⟨cq,?_⟩;rintro⟨(v:D4),_⟩ _ cs;simp only at cs|-;have ct:qs (V+V) (A4 t c):=fd c;refine⟨by rw[cs];exact Ik (H4 ct b6) δ,?_⟩;rintro⟨(cv:D4),h4,_⟩ _ au;simp only at au|-;rw[cs,L5]at au;obtain⟨au,_⟩:=au.2 eb;have ce:c<(a1.length:Int):=by rw[f2];exact c1
   refine⟨C6m n a1 c,⟨⟨bh,ce⟩,d6 _ ω,C6l (a1.getD c.toNat []),λq=>q.2.1.2.length,⟨rfl,wQ _⟩,?_⟩,?_⟩
   . rintro⟨(c7:Wf),⟨eo,(left:S9)⟩,_⟩ _ ⟨rfl,B⟩;simp only at B|-;refine⟨λa4=>⟨λh=>(by cases h),λ_=>⟨?_,KZ _ _ _,d6⟩⟩,λl1 y l2 a4=>⟨λ_=>?_,λh=>(by cases h)⟩⟩
     . subst a4;rw[show S1 []= []from rfl,vY]at B;exact B
     subst a4;have dv:(c7++ [y.1]++S1 (l1++l2)).Perm (S1 (a1.getD c.toNat [])):=by
      refine List.Perm.trans ?_ B;rw[uC];refine g2y c7 ?_;unfold S1;rw[vP,vP,rW,g3a];exact g4r.symm
     have es:=dv.length_eq;rw[rN,rN,qX]at es;have bq:(l1++l2).length<(l1++y::l2).length:=by rw[rN,rN,rJ];omega
     exact⟨⟨by rw[qX];omega,by rw[qX];omega⟩,⟨rfl,dv⟩,bq⟩
   rintro⟨(Z:Wf),⟨gb,gg⟩,_⟩ _ ⟨b5,rfl,d7⟩;simp only at b5 d7|-;have fa:Z.Nodup:=b5.nodup_iff.2 ck;have dt:∀x,x∈Z↔x≠u/\0<=x/\x<(n:Int)/\(∀g,g<o.toNat->x.toNat≠ix P g)/\V9 l x.toNat c.toNat≠0:=λx=>by rw[b5.mem_iff];exact bp x
   have f9:Z.length<=n:=by
    rw[b5.length_eq];exact di
   refine⟨J8 n ((n:Int),(n:Int),D) o.toNat M P l Y u c Z,λq=>((Z.length:Int)-q.1).toNat,⟨qH _,qF _,ci,N,d7⟩,?_⟩;clear ci ck bp dj di b5;rintro⟨(X:Int),cz,⟨cy,en⟩,⟨c8,gh⟩,_⟩ _ ⟨c4,g4,hG,bm,ca⟩;simp only at c4 g4 hG bm ca|-;have am:=hG V cr bz;refine⟨λw=>?_,λw=>?_⟩
   . have w:=qA w;have f1:Z.getD X.toNat 0∈Z:=E2 ω;have cj:Z.getD X.toNat 0∉Z.take X.toNat:=λhh=>by
      obtain⟨g,O,ar⟩:=vG.1 hh;rw[qY]at O;rw[g1n,H2 _ _ (ω:X.toNat<Z.length)]at ar;have:=(wM fa).1 ar;omega
     have e1:=Kz (d:=(0:Int)) c4 w;rw[L3 c4 w]at e1;obtain⟨ae,B,be,e4,gz⟩:=(dt _).1 f1;generalize Z.getD X.toNat 0=i at*;have aa:i.toNat<n:=ω
     have df:((i.toNat:Nat):Int)=i:=ω
     have fj:cz.getD i.toNat []=l.getD i.toNat []:=am.ru _ aa (by rw[df];exact cj);have dq:cy.getD i.toNat []=Y.getD i.toNat []:=by rw[am.lo _ aa,qL (by rw[df];exact cj)]
     have ba:=a.lowLen aa;have gn:=a.two (i:=u.toNat) (j:=i.toNat) ω aa ω fu e4;have a6:=a.okRow b6 ω aa;have dy:=(a.can _ aa).2.2;have ad:0<=i/\i<(cz.length:Int):=⟨B,by rw[am.lrows];exact be⟩;have dh:0<=i/\i<(cy.length:Int):=⟨B,by rw[am.llow];exact be⟩;have eu:i.toNat∉en:=bm _ aa;rw[fj,dq];have et:V9 l i.toNat c.toNat=A4 (l.getD i.toNat []) c:=by unfold V9;rw[(ω:((c.toNat:Nat):Int)=c)]
     have gr:4*(V+V)+1<=K1:=ω
     have fe:qs (V+V+(V+V)) (A4 (l.getD i.toNat []) c/A4 t c):=OR (dy c) ct;have F:∀(af:QQ×Unit),UE af.1/\True->af.1=rc (A4 (l.getD i.toNat []) c)->(N6 af.1/\N6 cv)/\∀(aw:QQ×Unit),UE aw.1/\True->aw.1=rc (rv af.1*rv cv)->C2w (A4 (l.getD i.toNat []) c/A4 t c) (aw.1.1.1,aw.1.1.2,aw.1.2,()):=λaf _ h1=>by
      refine⟨⟨by rw[h1];exact Ik (H4 (dy c) b6) δ,by rw[au];exact Ik (H4 (B2w ct) b6) δ⟩,λaw _ cb=>?_⟩;rw[h1,au,L5,L5, <-uO]at cb;exact cb
     refine⟨⟨c4,w⟩,C2w (A4 (l.getD i.toNat []) c/A4 t c),⟨ad,⟨a6,λaf ax h=>⟨F af ax h,F af ax h⟩⟩,a6,F⟩,?_⟩;rintro⟨(d9:Bool),(da:Wf),(db:Wf),_⟩ _ ch;have ch:((d9,da),db)=rc (A4 (l.getD i.toNat []) c/A4 t c):=ch;simp only;rw[ch];refine⟨λq=>q.1.1=cy.set i.toNat (Y.getD i.toNat []++ [(o,rc (A4 (l.getD i.toNat []) c/A4 t c))])/\jR n q.1.2,?_,?_⟩
     . have L1:((Y.getD i.toNat []).length+ [(o,rc (A4 (l.getD i.toNat []) c/A4 t c))].length)*64<=140737488355328/\(Y.getD i.toNat []).length+ [(o,rc (A4 (l.getD i.toNat []) c/A4 t c))].length<=9223372036854775807:=by
        have J:∀z:Nat,z<=n->(z+1)*64<=140737488355328/\z+1<=9223372036854775807:=λz J=>⟨ω,ω⟩
        exact J _ (qZ ba ω)
       repeat' apply And.intro
       all_goals first
        |exact dh.1
        |exact dh.2
        |exact eu
        |exact L1.1
        |exact L1.2
        |exact rfl
        |exact bm
        |exact True.intro
     rintro⟨⟨h3,gl⟩,_⟩ _ ⟨dk,d8⟩;simp only at dk d8|-;have dx:qs K1 (A4 (l.getD i.toNat []) c/A4 t c):=H4 fe ω;refine⟨ad,Ik dx δ,?_⟩;rintro⟨(fp:D4),_⟩ _ bv;simp only at bv|-;rw[L5]at bv;refine⟨⟨a6,by rw[bv];exact So (iS dx),cq⟩,?_⟩;rintro⟨(nw:List C8),_⟩ _ a5;simp only at a5|-;have a5:IT (λj=>A4 (l.getD i.toNat []) j-A4 (l.getD i.toNat []) c/A4 t c*A4 t j) nw:=⟨a5.1,λj=>(a5.2 j).trans (by dsimp only;rw[bv,L5,Rat.neg_mul, <-tK])⟩;have bw:∀e∈nw,0<=e.1/\e.1<(n:Int):=λe a2=>rA λhh=>by
      refine(a5.1.2 e a2).1 ?_;rw[<-N2 a5.1.1 a2];refine(a5.2 e.1).trans ?_;dsimp only;rw[C7 (v:=l.getD i.toNat []) (i:=e.1) λy a8 cb=>hh (by rw[<-cb];exact(a.can _ aa).2.1 y a8),C7 (v:=t) (i:=e.1) λy a8 cb=>hh (by rw[<-cb];exact bc y a8),sN,tK,wI,rD]
     have gt:nw.length<=n:=by
      have:=Fc (n:=(n:Int)) (v:=nw) ⟨a5.1.1,λe a2=>⟨(bw e a2).1,(bw e a2).2,(a5.1.2 e a2).1⟩⟩;omega
     refine⟨ad,HG n M (inC c8) i t,λp=>((t.length:Int)-p.1).toNat,⟨qH _,qF _,am.lcols,ca,λj k=>⟨a.crange k,lA ⟨(am.col j k).1,λx=>xS⟩⟩⟩,?_⟩;rintro⟨(c3:Int),⟨(d0:List S9),gd⟩,_⟩ _ A;simp only;have g0:=A.1;have g1:=A.2.1;simp only at g0 g1;refine⟨λf=>?_,λf=>?_⟩
     . have f:=qA f;rw[wv ω];obtain⟨r,s,a9⟩:=A.rng bc f;exact⟨r,s,a9,A.next bc f,ω⟩
     have f:=qB f;have dp:∀j:Int,j∈M->kZ (inC c8) i t j (d0.getD j.toNat []):=λj k=>by
      have cb:=(A.2.2.2.2 j k).2;simp only at cb;rwa[E9 (ω:(t.length:Int)<=c3)]at cb
     rw[show(cz.set i.toNat nw).getD i.toNat []=nw from C4 (by rw[am.lrows];exact aa)];refine⟨by rw[qW];exact ad,cW n M (λj x=>inC c8 j x/\¬(x=i/\∃e∈t,e.1=j)) i nw,λp=>((nw.length:Int)-p.1).toNat,⟨qH _,qF _,A.2.2.1,A.2.2.2.1,λj k=>⟨a.crange k,A9h ⟨(dp j k).1,(dp j k).2⟩⟩⟩,?_⟩;rintro⟨(ee:Int),⟨(d1:List S9),ge⟩,_⟩ _ G;simp only;have g2:=G.1;have g3:=G.2.1;simp only at g2 g3;refine⟨λf=>?_,λf=>?_⟩
     . have f:=qA f;rw[wv ω];obtain⟨r,s,a9⟩:=G.rng bw f;exact⟨r,s,a9,G.next bw f,ω⟩
     have f:=qB f;rw[wv ω];refine⟨⟨by simp only;omega,by simp only;omega,λW r s=>?_,d8,G.2.2.2.1⟩,ω⟩;have f8:=CI.next (ak W r s) ac I (hG W r s) B be ae e4 cj (q:=A4 (l.getD i.toNat []) c/A4 t c) (by rw[et,dw]) (nw:=nw) (by rw[cp];exact a5) (cols2:=d1) G.2.2.1 λj k=>by
      have cb:=(G.2.2.2.2 j k).2;simp only at cb;rw[E9 (ω:(nw.length:Int)<=ee)]at cb;rw[cp];exact cb
     simp only;rw[e1,dk, <-dq];rwa[(ω:((o.toNat:Nat):Int)=o)]at f8
   have w:=qB w;rw[wv ω];refine⟨⟨by simp only;omega,by simp only;omega,λW r s=>?_,bm,ca⟩,ω⟩;have de:=hG W r s;rw[E9 ω]at de;have ew:=CI.doneT (ak W r s) r s ac I de dt ff fg;simp only;rw[(ω:(o+1).toNat=o.toNat+1),bj,bk,bl];rwa[(ω:((o.toNat:Nat):Int)=o)]at ew
 have b9:=qB b9;have cl:o=(n:Int):=ω
 subst cl;simp only[qO]at ak a;have bb:=a.lrows;have dn:=a.llow;have er:=a.lP;have fc:=a.places;refine⟨C6h n P place rows c2,λq=>((n:Int)-q.2.1).toNat,⟨rfl,qH _,qF _,rK,rK,rfl,λm H=> .inl (Nat.le_of_not_lt λh=>b3 m h H),λg O=>by simp only at O;omega,λg O=>by simp only at O;omega⟩,?_⟩;rintro⟨ea,(j:Int),L,U,⟨Y,c9⟩,_⟩ _ ⟨rfl,ab,cw,ao,ap,rfl,cf,cc,cd⟩;change List (List C8)at L U;simp only at ab cw ao ap cf cc cd|-;refine⟨λk=>?_,λk=>?_⟩
 . have k:=qA k;have G:j.toNat<n:=ω
   have ep:P.getD j.toNat 0=(ix P j.toNat:Int):=a.P0 _ G;have bs:=a.elim.plt _ G;have ba:=a.lowLen bs;have f7:ix P j.toNat∉c9:=λH=>by
    rcases cf _ H with h| ⟨g,O,ar⟩
    . omega
    have:=a.elim.pinj _ _ G (ω:g<n) ar;omega
   have a6:=a.okFin ω G (ω:V+V<=K1);rw[ep];simp only[qO];have r:0<=j/\j<(P.length:Int):=⟨ab,k⟩;have s:0<=(ix P j.toNat:Int)/\(ix P j.toNat:Int)<(Y.length:Int):=⟨qF _,by rw[dn];exact sU.2 bs⟩;have a9:0<=j/\j<(L.length:Int):=⟨ab,by rw[ao];omega⟩;have J:∀z:Nat,z<=n->(z+1)*64<=140737488355328/\z+1<=9223372036854775807:=λz J=>⟨ω,ω⟩
   refine⟨r,λq=>q.1=L.set j.toNat (Y.getD (ix P j.toNat) []++ [(j,rc 1)])/\q.2.1.1=Y/\q.2.1.2=ix P j.toNat::c9,?_,?_⟩
   . repeat' first
      |exact f7
      |exact True.intro
      |exact r.1
      |exact r.2
      |exact s.1
      |exact s.2
      |exact a9.1
      |exact a9.2
      |exact rfl
      |exact(J _ (qZ ba (qU _))).1
      |exact(J _ (qZ ba (qU _))).2
      |apply And.intro
      | (rintro⟨u,_⟩ _ I
         have I:u=rc 1:=I.trans (YC 1);subst I)
   rintro⟨L4,⟨h2,gk⟩,_⟩ _ ⟨ai,b4,aq⟩;simp only at ai b4 aq|-;refine⟨⟨s.1,by rw[bb];exact sU.2 bs⟩,⟨a6,by rw[a.lpl];omega⟩,?_⟩;rintro⟨(ax:List C8),h5,_⟩ _ du;simp only at du|-;have bx:=a.lpl;obtain⟨e3,_⟩:=du (by rw[bx];exact fc.1) λi f0=>by
    rw[bx];obtain⟨e,a2,rfl⟩:=CJ f0;exact(a.can _ bs).2.1 e a2
   rw[bx]at e3;rw[wv ω];refine⟨⟨ab,by rw[ap];omega⟩,⟨rfl,by simp only;omega,by simp only;omega,by simp only;rw[ai,qW];exact ao,by simp only;rw[qW];exact ap,b4,λm H=>?_,λg O=>?_,λg O=>?_⟩,ω⟩
   . simp only at H|-;rw[aq]at H;rcases qV.1 H with h|h
     . exact .inr ⟨j.toNat,ω,h⟩
     rcases cf m h with h| ⟨g,O,ar⟩
     . exact .inl h
     exact .inr ⟨g,ω,ar⟩
   . simp only at O|-;rw[ai];by_cases b7:g=j.toNat
     . subst b7;rw[C4 (by rw[ao];exact G),(ω:((j.toNat:Nat):Int)=j)]
     rw[F2 b7];exact cc g ω
   simp only at O|-;by_cases b7:g=j.toNat
   . subst b7;rw[C4 (by rw[ap];exact G)];exact e3
   rw[F2 b7];exact cd g ω
 have k:=qB k;have G:j=(n:Int):=ω
 subst G;have bn:∀g,g<n->L.getD g []=Y.getD (ix P g) []++ [((g:Int),rc 1)]:=λg O=>cc g ω
 have bo:∀g,g<n->IT (λi=>if 0<=i/\i<(n:Int)then A4 (rows.getD (ix P g) []) ((List.idxOf i ea:Nat):Int)else 0) (U.getD g []):=λg O=>cd g ω
 have dd:=a.done ω ao ap bn bo;exact⟨λh=>absurd a7 h,λ_=>⟨λh=>absurd rfl h,λ_=>⟨λh=>absurd a.elim.nonsing h,λ_=>⟨dd.1,trivial,(a.cans ao ap bn bo).1,(a.cans ao ap bn bo).2,λW r s g b O=>(ak W r s).sizes (λg=>ω) bn bo O b,dd.2⟩⟩⟩⟩
def IZ:An:= {}
abbrev C4g:=(Wf×Wf×MM×Int×Int×List (List EE))×List QQ×Unit
def Oh(x:C4g):Prop:=let e:=(4:Int);let d:=(1:Int);let c:=(0:Int);let b:=(↑x.1.1.length:Int);let a:=(x.1.1.length:Int);let f:Prop:=((x.2.1.length:Int)≠a);(c<=a/\a<=(16384:Int)/\S4 K1 x.1.2.2.1/\S4 K1 x.1.2.2.2)/\Od λr=>(r.1=true↔Bi x.1 a)->(iB ((!r.1)) ((¬Bi x.1 b->d=d)/\(Bi x.1 b->(x.2.1.length≠x.1.1.length->d=e)/\(x.2.1.length=x.1.1.length->d=c))) ((iB (decide f) ((¬Bi x.1 b->e=d)/\(Bi x.1 b->(x.2.1.length≠x.1.1.length->e=e)/\(x.2.1.length=x.1.1.length->e=c))) ((¬Bi x.1 b->c=d)/\(Bi x.1 b->(x.2.1.length≠x.1.1.length->c=e)/\(x.2.1.length=x.1.1.length->c=c))))))
def RI:An:= {loop:= [(12,⟨[1,2,7,8,9,30,31,55,56],[0],[(57,false,vI)],[],[(1, .row tQ 58)]⟩),(7,⟨[1,2,7,8,30],[0],[(31,false,vI)],[],[(1, .row tQ 58)]⟩),(24,⟨[2,7,8,13,15,16,80,81,95,96],[0,2],[(97,false,vI)],[],[(1, .row tQ 58)]⟩),(19,⟨[2,7,8,13,80],[0],[(81,false,vI)],[],[(1, .row tQ 58),(2, .row tQ 58)]⟩)],plan:= [(14,[5,7,10,12],[15],true, .done),(26,[5,7,10,12],[15],true, .done),(28,[5,9],[15],true, .done),(29,[2,5,9],[11],true, .done)]}
abbrev C4w:=Int×List QQ×List QQ×Unit
def Wb(x:C4g):Prop:=let C:=(↑x.1.1.length:Int);let v:=(1:Int);let q:=(0:Int);let n:=(x.1.1.length:Int);let d:Prop:=(q<=n/\n<=n/\(↑(56:Nat):Int)*n<=(281474976710656:Int)/\n<=(9223372036854775807:Int));(List.length x.1.1<=16384/\S4 K1 x.1.2.2.1/\S4 K1 x.1.2.2.2)/\Ef λr=>(¬Bi x.1 n->r.1=v)/\(Bi x.1 n->(List.length x.2.1≠List.length x.1.1->r.1=4)/\(List.length x.2.1=List.length x.1.1->r.1=q))->(iB (decide (r.1≠q)) ((¬Bi x.1 C->Ps QQ= []/\r.1=v)/\(Bi x.1 C->(x.2.1.length≠x.1.1.length->Ps QQ= []/\r.1=4)/\(x.2.1.length=x.1.1.length->r.1=q/\0=x.1.1.length/\(∀(e:QQ),e∈ []->e=rc (rv e))/\∀(i:Nat),i<x.1.1.length->(B7 x.1.1.length fun(j:Nat)=>luM x.1 x.1.1.length i j*rv ([].getD (ix x.1.2.1 j) zr))=rv (x.2.1.getD (ix x.1.1 i) zr)))) (d/\∃(I:oS->Prop),∃(a: _->Nat),I (q,List.replicate n.toNat dQ,())/\∀(p:oS),let F:=p.1.toNat;let t:=(gx [] x.1.2.2.1.2.2 p.1);let D:=(↑t.length:Int);let N:=(i64.wrap (D-v));let f:Prop:=(p.1<n);(Ty.int i64).wf p.1/\WfL p.2.1/\True->I p->(iB (decide f) ((q<=p.1/\f)/\(q<=gx q x.1.1 p.1/\gx q x.1.1 p.1<(x.2.1.length:Int))/\(q<=p.1/\p.1<(p.2.1.length:Int))/\(q<=p.1/\p.1<(x.1.2.2.1.2.2.length:Int))/\(q<=q/\q<=i64.wrap (D-v)/\i64.wrap (D-v)<=D)/\∃(I_1:oS->Prop),∃(b: _->Nat),I_1 (q,List.set p.2.1 F (gx dQ x.2.1 (gx q x.1.1 p.1)),())/\∀(O:oS),let M:=(List.getD O.2.1 F dQ);let H:=(O.2.1.length:Int);let G:=(i64.wrap (p.1+v),O.2.1,());let l:=(gx D7 (List.drop q.toNat (List.take N.toNat t)) O.1);let w:=(List.getD O.2.1 l.1.toNat dQ);let g:Prop:=(q<=p.1/\p.1<H);let c:Prop:=(O.1<(↑(List.drop q.toNat (List.take N.toNat t)).length:Int));(Ty.int i64).wf O.1/\WfL O.2.1/\True->I_1 O->(iB (decide c) ((q<=O.1/\c)/\g/\(q<=l.1/\l.1<H)/\(sz K1 M/\sz K1 l.2/\sz K1 w)/\P6 λr=>let B:=(i64.wrap (O.1+v),List.set O.2.1 F r.1,());(rv w=(0:Rat)->r.1=List.getD O.2.1 F dQ)/\(rv w≠(0:Rat)->r.1=rc (rv M-rv l.2*rv w))->g/\I_1 B/\b B<b O) (I G/\a G<a p))) (d/\∃(I:C4w->Prop),∃(a: _->Nat),I (q,p.2.1,List.replicate n.toNat dQ,())/\∀(p:C4w),let s:=(i64.wrap (n-v)-p.1);let k:=(i64.wrap s);let o:=(gx [] x.1.2.2.2.2.2 k);let L:=(gx D7 o q);let A:=(↑o.length:Int);let h:Prop:=(p.1<n);(Ty.int i64).wf p.1/\WfL p.2.1/\WfL p.2.2.1/\True->I p->(iB (decide h) ((q<=i64.wrap s/\i64.wrap s<(x.1.2.2.2.2.2.length:Int))/\(q<=v/\v<=A/\A<=A)/\∃(I_1:oS->Prop),∃(b: _->Nat),I_1 (q,p.2.1,())/\∀(O:oS),let J:=(O.2.1.length:Int);let z:=(List.getD O.2.1 k.toNat dQ);let m:=(gx D7 (List.drop v.toNat (List.take A.toNat o)) O.1);let y:=(List.getD O.2.1 m.1.toNat dQ);let d:Prop:=(O.1<(↑(List.drop v.toNat (List.take A.toNat o)).length:Int));let c:Prop:=(q<=i64.wrap s/\i64.wrap s<J);(Ty.int i64).wf O.1/\WfL O.2.1/\True->I_1 O->(iB (decide d) ((q<=O.1/\d)/\c/\(q<=m.1/\m.1<J)/\(sz K1 z/\sz K1 m.2/\sz K1 y)/\P6 λr=>let E:=(i64.wrap (O.1+v),List.set O.2.1 k.toNat r.1,());(rv y=(0:Rat)->r.1=List.getD O.2.1 k.toNat dQ)/\(rv y≠(0:Rat)->r.1=rc (rv z-rv m.2*rv y))->c/\I_1 E/\b E<b O) (c/\(q<=q/\q<A)/\(N6 z/\N6 L.2)/\∀(r:B8c),let K:=(List.set O.2.1 k.toNat r.1);let u:=(i64.wrap (p.1+v),List.set O.2.1 k.toNat r.1,List.set p.2.2.1 (gx q x.1.2.1 k).toNat (K.getD k.toNat dQ),());UE r.1/\True/\True->(rv L.2=(0:Rat)->r.2.1=false)/\(rv L.2≠(0:Rat)->r.1=rc (rv z/rv L.2)/\r.2.1=true)->c/\(q<=i64.wrap s/\i64.wrap s<(x.1.2.1.length:Int))/\(q<=i64.wrap s/\i64.wrap s<(↑K.length:Int))/\(q<=gx q x.1.2.1 k/\gx q x.1.2.1 k<(p.2.2.1.length:Int))/\I u/\a u<a p))) ((¬Bi x.1 C->p.2.2.1= []/\q=v)/\(Bi x.1 C->(x.2.1.length≠x.1.1.length->p.2.2.1= []/\q=(4:Int))/\(x.2.1.length=x.1.1.length->q=q/\List.length p.2.2.1=x.1.1.length/\(∀(e:QQ),e∈p.2.2.1->e=rc (rv e))/\∀(i:Nat),i<x.1.1.length->(B7 x.1.1.length fun(j:Nat)=>luM x.1 x.1.1.length i j*rv (List.getD p.2.2.1 (ix x.1.2.1 j) zr))=rv (x.2.1.getD (ix x.1.1 i) zr)))))))))
def jU (k:Nat) (q:Rat) (x:D4):Prop:=sz k x/\Xe x/\rv x=q
def B4e {k:Nat} {q:Rat} (h:qs k q):jU k q (rc q):=⟨So h,gW q,L5 q⟩
def BZ {j k:Nat} {q:Rat} {x:D4} (h:jU j q x) (a:j<=k):jU k q x:=⟨G7 h.1 a,h.2⟩
def B5g {v:List C8} {i:Nat} (a:∀e∈v,0<=e.1/\e.1<(i:Int)) (h:Nat->Rat):V8 v (λj=>h j.toNat)=B7 i λj=>A4 v (j:Int)*h j:=by
 rw[gA a];exact A8 λj _=>by rw[qO]
def aC {s j k:Nat} {a f b r:D4} {x y:Rat} (d:jU j x a) (w:Xe f) (z:sz s f) (D:1<=s) (v:jU k y b) (A:1<=j) (B:1<=k) (t:rv b=0->r=a) (u:rv b≠0->r=rc (rv a-rv f*rv b)):jU (j+(s+k)+1) (x-rv f*y) r:=by
 obtain⟨g,h,i⟩:=id d;obtain⟨l,n,o⟩:=id v;subst i o;by_cases c:rv b=0
 . rw[t c,c,sN,tK,wI,rD];exact BZ d ω
 rw[u c];exact B4e (B2x (Ly h g A) (Pu (Ly w z D) (Ly n l B)))
def FW (Y n i:Nat) (Lm:Nat->Nat->Rat) (b:Nat->Rat) (z:List D4):Prop:=z.length=n/\∀j,j<i->jU Y (rv (z.getD j zr)) (z.getD j zr)/\rv (z.getD j zr)+B7 j (λm=>Lm j m*rv (z.getD m zr))=b j
def FI (s T Y i:Nat) (c:Rat) (w:List C8) (b:List D4) (t:Nat) (z:List D4):Prop:=∃a,z=b.set i a/\Xe a/\rv a=c-V8 (w.take t) (λj=>rv (b.getD j.toNat zr))/\(sz T a\/a=rc (rv a))/\∀m:Nat,(∀e∈w.take t,e.1<(m:Int))->sz (T+m*(s+Y+1)) a
variable {s T Y n i:Nat} {c:Rat} {w:List C8} {z0 z:List D4} {Lm:Nat->Nat->Rat} {b:Nat->Rat}
def FI.init {x:D4} (a:jU T c x):FI s T Y i c w z0 0 (z0.set i x):=
 ⟨x,rfl,a.2.1,by rw[a.2.2];simp only[zZ,V8];rw[tK,wI,rD], .inl a.1,λm _=>G7 a.1 (g4u _ _)⟩
def A8v {d:C8} {w:List C8} (f:asc w) {t:Int} (h:0<=t) (i:t<(w.length:Int)):∀y∈w.take t.toNat,y.1<(gx d w t).1:=λy g=>by
 have c:(w.take (t+1).toNat).Pairwise (λa b=>a.1<b.1):=g1c f;rw[(ω:(t+1).toNat=t.toNat+1),rP,H3 (d:=d) h i,tF]at c;exact c.2.2 y g (gx d w t) (by simp)
def B2f {d:C8} {w:List C8} {t:Int} (b:0<=t) (c:t<(w.length:Int)) {m:Nat} (a:∀e∈w.take (t+1).toNat,e.1<(m:Int)):(gx d w t).1<(m:Int):=a _ (by
 rw[(ω:(t+1).toNat=t.toNat+1),rP,H3 (d:=d) b c];simp)
def gX {T s Y a m:Nat} (h:a+1<=m):T+a*(s+Y+1)+(s+Y)+1<=T+m*(s+Y+1):=by
 have:=rM (s+Y+1) h;rw[tZ]at this;omega
def FI.next (k:FW Y n i Lm b z0) (hT:1<=T) (hY:1<=Y) (hs:1<=s) (hi:i<n) (hasc:asc w) (hw:∀e∈w,0<=e.1/\e.1<(i:Int)/\sz s e.2/\Xe e.2) {t:Int} (t0:0<=t) (t1:t<(w.length:Int)) (h:FI s T Y i c w z0 t.toNat z):
 (z.length=n/\sz (T+n*(s+Y+1)) (z.getD i zr)/\sz Y (z.getD (gx D7 w t).1.toNat zr))/\∀r,(rv (z.getD (gx D7 w t).1.toNat zr)=0->r=z.getD i zr)->(rv (z.getD (gx D7 w t).1.toNat zr)≠0->r=rc (rv (z.getD i zr)-rv (gx D7 w t).2*rv (z.getD (gx D7 w t).1.toNat zr)))->FI s T Y i c w z0 (t+1).toNat (z.set i r):=by
 obtain⟨A,rfl,H,M,F,O⟩:=h;have G:=G4 (d:=D7) t0 t1;obtain⟨Q,R,B,D⟩:=hw _ G;have E:=A8v (d:=D7) hasc t0 t1;have N:=NP (d:=D7) t0 t1 (λj=>rv (z0.getD j.toNat zr));have P:∀m:Nat,(∀e∈w.take (t+1).toNat,e.1<(m:Int))->(gx D7 w t).1<(m:Int):=λm f=>B2f t0 t1 f
 generalize gx D7 w t=e at*;have J:e.1.toNat≠i:=ω
 have I:=k.1;rw[F2 J,C4 ω];obtain⟨l,_⟩:=k.2 e.1.toNat ω;have g:=O e.1.toNat λy hy=>by have:=E y hy;omega
 have U:=gX (T:=T) (s:=s) (Y:=Y) (ω:e.1.toNat+1<=n);refine⟨⟨by rw[qW];exact I,G7 g ω,l.1⟩,λr u v=>?_⟩;have a:=aC (x:=rv A) ⟨g,H,rfl⟩ D B hs l ω hY u v;refine⟨r,by rw[g4l],a.2.1,?_,?_,λm f=>?_⟩
 . rw[a.2.2,N,M];grind
 . by_cases o:rv (z0.getD e.1.toNat zr)=0
   . rw[u o];exact F
   right;rw[v o,L5]
 exact G7 a.1 (gX (by have:=P m f;omega))
def FI.done (o:FW Y n i Lm b z0) (I:i<n) (H:∀e∈w,0<=e.1/\e.1<(i:Int)) (v:∀j,j<i->A4 w (j:Int)=Lm i j) {t:Nat} (G:w.length<=t) (h:FI s T Y i (b i) w z0 t z) (x:T<=Y) (E:qs Y (b i-B7 i λm=>Lm i m*rv (z0.getD m zr))):FW Y n (i+1) Lm b z:=by
 obtain⟨l,rfl,B,d,a,_⟩:=h;have D:=o.1;rw[qQ G]at d;have k:∀j,j<i->(z0.set i l).getD j zr=z0.getD j zr:=λj y=>F2 ω
 have F:V8 w (λj=>rv (z0.getD j.toNat zr))=B7 i λm=>Lm i m*rv (z0.getD m zr):=by
  rw[B5g H (λm=>rv (z0.getD m zr))];exact A8 λm c=>by rw[v m c]
 rw[F]at d;refine⟨by rw[qW];exact D,λj y=>?_⟩;by_cases A:j=i
 . subst A;rw[C4 ω];refine⟨⟨?_,B,rfl⟩,?_⟩
   . rcases a with a|a
     . exact G7 a x
     rw[a,d];exact So E
   rw[d,A8 (f:=λm=>Lm j m*rv ((z0.set j l).getD m zr)) (g:=λm=>Lm j m*rv (z0.getD m zr)) λm c=>by rw[k m c]];grind
 rw[k j ω];obtain⟨r,u⟩:=o.2 j ω;refine⟨r,?_⟩;rw[<-u];congr 1;exact A8 λm c=>by rw[k m ω]
def C1o {α:Type} (l:List α) (i:Nat) (d:α):l.set i (l.getD i d)=l:=by
 refine g0e (by rw[qW]) λj b a=>?_
 rw[g1w];split
 . rename_i e;subst e;rw[H2 _ _ a]
 rfl
def BW (Y n i:Nat) (U:Nat->Nat->Rat) (y:Nat->Rat) (z:List D4):Prop:=z.length=n/\(∀j,j<i->jU Y (y j) (z.getD j zr))/\∀j,i<=j->j<n->(∃q,z.getD j zr=rc q/\qs Y q)/\B7 n (λm=>U j m*rv (z.getD m zr))=y j
def BI (s Y n i:Nat) (c:Rat) (w:List C8) (z0:List D4) (t:Nat) (z:List D4):Prop:=∃a,z=z0.set i a/\Xe a/\rv a=c-V8 (w.take t) (λj=>rv (z0.getD j.toNat zr))/\∀m:Nat,(∀e∈w.take t,e.1<(m:Int))->sz (Y+m*(s+Y+1)) a
variable {s Y n i:Nat} {c:Rat} {w:List C8} {z0 z:List D4} {U:Nat->Nat->Rat} {y:Nat->Rat}
def BI.init (d:BW Y n (i+1) U y z0) (a:i<n):BI s Y n i (y i) w z0 0 z0:=by
 obtain⟨a,b,c⟩:=d.2.1 i (rR _);refine⟨z0.getD i zr,(C1o z0 i zr).symm,b,?_,λm _=>G7 a (g4u _ _)⟩;rw[c];simp only[zZ,V8];rw[tK,wI,rD]
def BI.next (f:BW Y n (i+1) U y z0) (hs:1<=s) (hY:1<=Y) (hi:i<n) (hasc:asc w) (hw:∀e∈w,(i:Int)<e.1/\e.1<(n:Int)/\sz s e.2/\Xe e.2) {t:Int} (t0:0<=t) (t1:t<(w.length:Int)) (h:BI s Y n i c w z0 t.toNat z):
 (z.length=n/\sz (Y+n*(s+Y+1)) (z.getD i zr)/\sz Y (z.getD (gx D7 w t).1.toNat zr))/\∀r,(rv (z.getD (gx D7 w t).1.toNat zr)=0->r=z.getD i zr)->(rv (z.getD (gx D7 w t).1.toNat zr)≠0->r=rc (rv (z.getD i zr)-rv (gx D7 w t).2*rv (z.getD (gx D7 w t).1.toNat zr)))->BI s Y n i c w z0 (t+1).toNat (z.set i r):=by
 obtain⟨l,rfl,B,H,J⟩:=h;have A:=G4 (d:=D7) t0 t1;obtain⟨P,Q,o,u⟩:=hw _ A;have v:=A8v (d:=D7) hasc t0 t1;have I:=NP (d:=D7) t0 t1 (λj=>rv (z0.getD j.toNat zr));have M:∀m:Nat,(∀e∈w.take (t+1).toNat,e.1<(m:Int))->(gx D7 w t).1<(m:Int):=λm b=>B2f t0 t1 b
 generalize gx D7 w t=e at*;have E:e.1.toNat≠i:=ω
 have D:=f.1;rw[F2 E,C4 ω];obtain⟨⟨q,F,G⟩,_⟩:=f.2.2 e.1.toNat ω ω;have k:=J e.1.toNat λy hy=>by have:=v y hy;omega
 have g:jU Y (rv (z0.getD e.1.toNat zr)) (z0.getD e.1.toNat zr):=by
  rw[F,L5];exact B4e G
 have R:=gX (T:=Y) (s:=s) (Y:=Y) (ω:e.1.toNat+1<=n);refine⟨⟨by rw[qW];exact D,G7 k ω,g.1⟩,λr N O=>?_⟩;have a:=aC (x:=rv l) ⟨k,B,rfl⟩ u o hs g ω hY N O;refine⟨r,by rw[g4l],a.2.1,?_,λm b=>?_⟩
 . rw[a.2.2,I,H];grind
 exact G7 a.1 (gX (by have:=M m b;omega))
def BI.done (f:BW Y n (i+1) U y z0) (Q:i<n) (d:∀e∈w,(i:Int)<e.1/\e.1<(n:Int)) (H:∀j,i<j->A4 w (j:Int)=U i j) (u:∀k m,m<k->k<n->U k m=0) (M:U i i≠0) {t:Nat} (O:w.length<=t) (h:BI s Y n i (y i) w z0 t z)
 (N:∀x:Nat->Rat,(∀j,i<=j->j<n->B7 n (λm=>U j m*x m)=y j)->qs Y (x i)):
 sz (Y+n*(s+Y+1)) (z.getD i zr)/\qs Y (rv (z.getD i zr)/U i i)/\BW Y n i U y (z.set i (rc (rv (z.getD i zr)/U i i))):=by
 obtain⟨c,rfl,R,A,E⟩:=h;have J:=f.1;rw[qQ O]at A E;rw[C4 ω,g4l];have P:=E n λe a=>(d e a).2
 have D:∀j,B7 n (λm=>U j m*rv ((z0.set i (rc (rv c/U i i))).getD m zr))=B7 n (λm=>if m=i then U j i*(rv c/U i i)else U j m*rv (z0.getD m zr)):=λj=>A8 λm _=>by
  by_cases o:m=i
  . subst o;rw[qT rfl,C4 ω,L5]
  rw[qL o,F2 o]
 have B:∀j,i<=j->j<n->B7 n (λm=>U j m*rv ((z0.set i (rc (rv c/U i i))).getD m zr))=y j:=λj l b=>by
  by_cases g:j=i
  . subst g;rw[D];have F:V8 w (λm=>rv (z0.getD m.toNat zr))=B7 n (λm=>if m=j then 0 else U j m*rv (z0.getD m zr)):=by
     rw[gA (n:=n) λe a=>⟨by have:=(d e a).1;omega,(d e a).2⟩];refine A8 λm o=>?_
     rw[qO];rcases g4m m j with hmj|hmj|hmj
     . rw[qL ω,C7 λe a I=>by have:=(d e a).1;omega,u j m hmj b]
     . rw[qT hmj,C7 λe a I=>by have:=(d e a).1;omega,sO]
     rw[qL ω,H m hmj]
    have G:B7 n (λm=>if m=j then U j j*(rv c/U j j)else U j m*rv (z0.getD m zr))=B7 n (λm=>(if m=j then U j j*(rv c/U j j)else 0)+if m=j then 0 else U j m*rv (z0.getD m zr)):=A8 λm _=>by
     split
     . rw[rD]
     rw[sX]
    rw[G,Bo, <-F,H0 b λm _ o=>qL o,qT rfl,A,uO,yR,uD,wN _ M,uH];grind
  rw[D, <-(f.2.2 j ω b).2];refine A8 λm o=>?_
  by_cases r:m=i
  . rw[qT r,r,u j i ω b,sO,sO]
  rw[qL r]
 have v:qs Y (rv c/U i i):=by
  have:=N _ B;rwa[C4 ω,L5]at this
 refine⟨P,v,by rw[qW];exact J,λj l=>?_,λj l b=>⟨?_,B j l b⟩⟩
 . rw[F2 ω];exact f.2.1 j ω
 by_cases g:j=i
 . subst g;exact⟨_,C4 ω,v⟩
 rw[F2 g];exact(f.2.2 j ω b).1
def B3z (b:∀k m,m<k->k<n->U k m=0) (c:∀i,i<n->U i i≠0):∀(i:Nat) (x:Nat->Rat),i<=n->(∀j,i<=j->j<n->B7 n (λm=>U j m*x m)=y j)->∃a:Nat->Rat,(∀j,i<=j->a j=x j)/\∀j,j<n->B7 n (λm=>U j m*a m)=y j
 |0,x,_,h=>⟨x,λ_ _=>rfl,λj d=>h j (rS _) d⟩
 |i+1,x,s,h=>by
  let q:=y i-B7 n (λm=>if m=i then 0 else U i m*x m)
  have r:∀j,B7 n (λm=>U j m*(if m=i then q/U i i else x m))=U j i*(q/U i i)+B7 n (λm=>if m=i then 0 else U j m*x m):=λj=>by
   rw[A8 (g:=λm=>(if m=i then U j i*(q/U i i)else 0)+if m=i then 0 else U j m*x m) λm _=>by
    by_cases e:m=i
    . subst e;rw[qT rfl,qT rfl,qT rfl,rD]
    rw[qL e,qL e,qL e,sX],Bo,H0 (k:=i) ω λm _ o=>qL o,qT rfl]
  obtain⟨a,d,f⟩:=B3z b c i (λm=>if m=i then q/U i i else x m) ω λj l hjn=>by
   rw[r];by_cases e:j=i
   . subst e;rw[uO,yR,uD,wN _ (c j hjn),uH];show y j-B7 n (λm=>if m=j then 0 else U j m*x m)+ _= _;grind
   rw[b j i ω hjn,sO,sX, <-h j ω hjn];refine A8 λm _=>?_
   by_cases e:m=i
   . subst e;rw[qT rfl,b j m ω hjn,sO]
   rw[qL e]
  exact⟨a,λj l=>by rw[d j ω,qL ω],f⟩
def B3h {n:Nat} {L U:Nat->Nat->Rat} {b:Nat->Rat} {v:Nat->Rat} {y:Nat->Rat} (d:∀j,j<n->y j+B7 j (λm=>L j m*y m)=b j) (f:∀j,j<n->B7 n (λm=>U j m*v m)=y j) (h:∀i,i<n->L i i=1) (l:∀i j,i<j->j<n->L i j=0) {i:Nat} (a:i<n):
 B7 n (λj=>B7 n (λk=>L i k*U k j)*v j)=b i:=by
 have c:B7 n (λj=>B7 n (λk=>L i k*U k j)*v j)=B7 n λk=>L i k*y k:=by
  rw[A8 (g:=λj=>B7 n λk=>L i k*(U k j*v j)) λj _=>by rw[<-OX];exact A8 λk _=>uD _ _ _,DK];exact A8 λk o=>by rw[Jc,f k o]
 rw[c, <-d i a];have c:∀t,i+1+t<=n->B7 (i+1+t) (λk=>L i k*y k)=y i+B7 i (λm=>L i m*y m):=by
  intro t
  induction t with
  |zero=>intro _;rw[tJ,B7,h i a,uP,xY]
  |succ t a=>intro d;rw[<-uQ,B7,a ω,l i (i+1+t) ω ω,sO,rD]
 have:=c (n-(i+1)) ω;rwa[(ω:i+1+(n-(i+1))=n)]at this
def AL:sr Ab Oh:=λx _ i=>by
 obtain⟨⟨P,Q,⟨j,lc,L⟩,⟨l,k,U⟩⟩,b,_⟩:=x;obtain⟨f,c,d⟩:=i;simp only[Oh,iB,Od];refine⟨⟨qF _,Int.ofNat_le.2 f,c,d⟩,?_⟩;rintro⟨(r:Bool),_⟩ _ a;simp only at a|-;cases r with
 |false=>
  have g:¬Bi (P,Q,(j,lc,L),(l,k,U)) (P.length:Int):=λh=>by have:=a.2 h;cases this
  exact⟨λ_=>⟨λ_=>by trivial,λh=>absurd h g⟩,λh=>(by cases h)⟩
 |true=>
  have h:=a.1 rfl;refine⟨λh=>(by cases h),λ_=>⟨λhne=>⟨λh2=>absurd h h2,λ_=>⟨λ_=>by trivial,λhe=>absurd (sD Int.ofNat he) (qA hne)⟩⟩,λheq=>⟨λh2=>absurd h h2,λ_=>⟨λhne=>absurd (g1q (rA (qB heq))) hne,λ_=>by trivial⟩⟩⟩⟩
def Ob {p:Wf} {n:Nat} (h:K2 p (n:Int)):p.length=n/\(∀a,a<n->p.getD a 0=(ix p a:Int)/\ix p a<n)/\∀a b,a<n->b<n->ix p a=ix p b->a=b:=by
 obtain⟨c,g,i⟩:=h;have k:p.length=n:=ω
 have c:∀a,a<n->p.getD a 0=(ix p a:Int)/\ix p a<n:=λa f=>by
  have:=g _ (E2 (d:=0) (ω:a<p.length));unfold ix;omega
 refine⟨k,c,λa b f j e=>?_⟩;have g:=(c a f).1;have f:=(c b j).1;rw[<-e]at f;have c:p.getD a 0=p.getD b 0:=g.trans f.symm;rw[H2 _ _ ω,H2 _ _ ω]at c;exact(wM i).1 c
def C0s {v:List C8} {n:Int} (h:F1 v n) {i:Nat} (r:(i:Int)<n) (k:∀j:Nat,(j:Int)<n->i<j->A4 v (j:Int)=0) (o:A4 v (i:Int)=1):v≠ []/\asc (v.take (v.length-1))/\(∀e∈v.take (v.length-1),e∈v/\0<=e.1/\e.1<(i:Int))/\∀j:Nat,j<i->A4 (v.take (v.length-1)) (j:Int)=A4 v (j:Int):=by
 obtain⟨f,y,z⟩:=(A3t h r).2 ⟨k,o⟩;have A:0<v.length:=vK.2 f;have c:v=v.take (v.length-1)++ [gx D7 v ((v.length:Int)-1)]:=by
  have:=Kz (d:=D7) (l:=v) (t:=(v.length:Int)-1) ω ω;rw[(ω:((v.length:Int)-1+1).toNat=v.length),vF,(ω:((v.length:Int)-1).toNat=v.length-1)]at this;exact this
 generalize gx D7 v ((v.length:Int)-1)=l at*;have b:=h.1;generalize u:v.take (v.length-1)=w at*;have s:∀e∈w,e.1<(i:Int):=λe a=>by
  rw[c]at b;have:=(tF.1 b).2.2 e a l (qK.2 rfl);omega
 refine⟨f,u▸g1c b,λe a=>?_,λj x=>?_⟩
 . have g:e∈v:=by rw[c];exact sE _ a
   exact⟨g,(h.2 e g).1,s e a⟩
 rw[c,R2];have:A4 [l] (j:Int)=0:=C7 λe a hej=>by
  rw[qK]at a;subst a;omega
 rw[this,rD]
def C5n {v:List C8} {n:Int} (h:F1 v n) {i:Nat} (c:∀j:Nat,j<i->A4 v (j:Int)=0) (d:A4 v (i:Int)≠0):1<=v.length/\gx D7 v 0∈v/\rv (gx D7 v 0).2=A4 v (i:Int)/\asc (v.drop 1)/\(∀e∈v.drop 1,e∈v/\(i:Int)<e.1/\e.1<n)/\∀j:Nat,i<j->A4 (v.drop 1) (j:Int)=A4 v (j:Int):=by
 obtain⟨k,b⟩:=(B4a h).2 ⟨c,d⟩;cases v with
 |nil=>exact absurd rfl k
 |cons e r=>
  have g:gx D7 (e::r) 0=e:=rfl;rw[g]at b|-;obtain⟨f,l⟩:=H7.1 h.1;refine⟨by rw[rJ];omega,rB,?_,l,λx a=>⟨qI _ a,?_,(h.2 x (qI _ a)).2.1⟩,λj o=>?_⟩
  . rw[<-b,N1 h.1]
  . have:=f x a;omega
  exact(Y9 ω).symm
def fwI (Y n:Nat) (ML:J1) (c:Nat->Rat) (p:Int×List D4×Unit):Prop:=0<=p.1/\p.1<=(n:Int)/\FW Y n p.1.toNat (el ML) c p.2.1
def fiI (s T Y i:Nat) (c:Rat) (w:List C8) (z0:List D4) (p:Int×List D4×Unit):Prop:=0<=p.1/\p.1<=(w.length:Int)/\FI s T Y i c w z0 p.1.toNat p.2.1
def bwI (Y n:Nat) (Q:Wf) (MU:J1) (y:Nat->Rat) (p:Int×List D4×List D4×Unit):Prop:=0<=p.1/\p.1<=(n:Int)/\BW Y n (n-p.1.toNat) (el MU) y p.2.1/\p.2.2.1.length=n/\∀j,n-p.1.toNat<=j->j<n->p.2.2.1.getD (ix Q j) zr=p.2.1.getD j zr
def biI (s Y n i:Nat) (c:Rat) (w:List C8) (z0:List D4) (p:Int×List D4×Unit):Prop:=0<=p.1/\p.1<=(w.length:Int)/\BI s Y n i c w z0 p.1.toNat p.2.1
def B7v {T:Nat} {b:List D4} (h:eV T b) {i:Nat} (a:i<b.length):sz T (b.getD i zr):=h _ (E2 a)
def IC:sr Aa Wb:=λx ar ci=>by
 obtain⟨⟨(P:Wf),(Q:Wf),⟨av,lc,L⟩,⟨b0,ai,U⟩⟩,b,_⟩:=x;change List (List C8)at L U;change List D4 at b;change Int at av lc b0 ai;have cb:WH (av,lc,L):=CZ ar.1.2.2.1.2.2.2;have cc:WH (b0,ai,U):=CZ ar.1.2.2.2.2.2.2;have ce:∀x∈b,Xe x:=λx hx=>KB (ar.2.1.2 x hx)
 obtain⟨ap,c8,c9,c6⟩:=ci;simp only[Wb,iB,P6,Ef];refine⟨⟨ap,c8,c9⟩,?_⟩;rintro⟨(s:Int),_⟩ _ X;simp only at X|-;by_cases M:Bi (P,Q,(av,lc,L),(b0,ai,U)) (P.length:Int)
 case neg=>
  have a6:s=1:=X.1 M;subst a6;exact⟨λ_=>⟨λ_=>⟨by trivial,by trivial⟩,λr=>absurd r M⟩,λr=>absurd r (by simp)⟩
 by_cases R:b.length=P.length
 case neg=>
  have a6:s=4:=(X.2 M).1 R;subst a6;exact⟨λ_=>⟨λr=>absurd M r,λ_=>⟨λ_=>⟨by trivial,by trivial⟩,λr=>absurd r R⟩⟩,λr=>absurd r (by simp)⟩
 have a6:s=0:=(X.2 M).2 R;subst a6;refine⟨λr=>absurd r (by simp),λ_=>?_⟩;obtain⟨D,T0,Y0,af,aj,b8,cm,cn,co,⟨cp,cq⟩,bb⟩:=c6 M R;obtain⟨bf,bg,⟨bo,ag,bk⟩,⟨bp,ah,bl⟩,H⟩:=id M;simp only at bf bg bo ag bp ah;obtain⟨_,b5,d2⟩:=Ob bf;obtain⟨cy,b6,bn⟩:=Ob bg;subst bo bp;have ag:lc=(P.length:Int):=ag;have ah:ai=(P.length:Int):=ah;subst ag ah;have ap:P.length<=16384:=ap;have bb:Y0+P.length*(D+Y0+1)+D<=K1:=bb;have ac:1<=Y0:=qZ aj b8;generalize an:P.length*(D+Y0+1)=d3 at*;have R:b.length=P.length:=R;have bx:L.length=P.length:=g1q bk.2.2.2.2.1;have c2:U.length=P.length:=g1q bl.2.2.2.2.1;have c0:∀i,i<P.length->F1 (L.getD i []) (P.length:Int)/\Xd (L.getD i []):=λi f=>by
  have J:=E2 (d:=([]:List C8)) (ω:i<L.length);exact⟨bk.2.2.2.2.2 _ J,cb _ J⟩
 have c3:∀i,i<P.length->F1 (U.getD i []) (P.length:Int)/\Xd (U.getD i []):=λi f=>by
  have J:=E2 (d:=([]:List C8)) (ω:i<U.length);exact⟨bl.2.2.2.2.2 _ J,cc _ J⟩
 have c4:∀i,i<P.length->ix P i<b.length/\Xe (b.getD (ix P i) zr):=λi f=>by
  have:=(b5 i f).2;exact⟨ω,ce _ (E2 ω)⟩
 refine⟨⟨qF _,qH _,ω,ω⟩,fwI Y0 P.length (↑P.length, ↑P.length,L) (λi=>rv (b.getD (ix P i) zr)),λp=>((P.length:Int)-p.1).toNat,⟨qH _,qF _,rK,λj c=>absurd c (uV j)⟩,?_⟩;rintro⟨(i:Int),(z:List D4),_⟩ _ ⟨N,cv,A⟩;simp only at N cv A|-;refine⟨λf=>?_,λf=>?_⟩
 . have f:=qA f;have G:i.toNat<P.length:=ω
   obtain⟨bv,d0⟩:=b5 _ G;obtain⟨ak,c5⟩:=c4 _ G;rw[L3 (d:=(0:Int)) N f,Li N (ω:i<(L.length:Int)),bv];obtain⟨Y,ao⟩:=c0 _ G;obtain⟨ch,O,u,au⟩:=C0s Y (i:=i.toNat) ω (λj c a4=>(H i.toNat j (sU.2 G) c).1 a4) (H i.toNat i.toNat (sU.2 G) (sU.2 G)).2.1;have cf:0<(L.getD i.toNat []).length:=vK.2 ch;have d1:=Fc Y;have bz:∀e∈L.getD i.toNat [],sz D e.2:=cm _ (E2 (l:=L) (ω:i.toNat<L.length));have ad:∀j:Nat,el ((P.length:Int),(P.length:Int),L) i.toNat j=A4 (L.getD i.toNat []) (j:Int):=λ_=>rfl
   generalize L.getD i.toNat []=v at*;rw[wv ω,(ω:((v.length:Int)-1).toNat=v.length-1)];simp only[show Int.toNat 0=0 from rfl,tO];generalize v.take (v.length-1)=w at*;have V:∀e∈w,0<=e.1/\e.1<(i.toNat:Int)/\sz D e.2/\Xe e.2:=λe h=>by
    obtain⟨b4,bt,bu⟩:=u e h;exact⟨bt,bu,bz e b4,ao e b4⟩
   have cr:w.length<=16384:=by
    have:=Fc (n:=(i.toNat:Int)) (v:=w) ⟨O,λe h=>⟨(u e h).2.1,(u e h).2.2,(Y.2 e (u e h).1).2.2⟩⟩;omega
   refine⟨⟨N,f⟩,⟨qF _,sU.2 ak⟩,⟨N,by rw[A.1];exact f⟩,⟨N,by rw[bx];exact f⟩,⟨qH _,ω,ω⟩,fiI D T0 Y0 i.toNat (rv (b.getD (ix P i.toNat) zr)) w z,λp=>((w.length:Int)-p.1).toNat,⟨qH _,qF _,?_⟩,?_⟩
   . show FI D T0 Y0 i.toNat (rv (b.getD (ix P i.toNat) zr)) w z 0 (z.set i.toNat (gx dQ b ↑(ix P i.toNat)));rw[L3 (d:=dQ) (qF _) (sU.2 ak),qO];exact FI.init ⟨B7v co ak,c5,rfl⟩
   rintro⟨(aa:Int),(y:List D4),_⟩ _ ⟨E,az,B⟩;simp only at E az B|-;refine⟨λo=>?_,λo=>?_⟩
   . have o:=qA o;obtain⟨⟨a0,a9,aw⟩,_⟩:=FI.next A aj ac af G O V E o B
     have am:=G4 (d:=D7) E o;obtain⟨b3,ab,a2,bs⟩:=V _ am;rw[an]at a9;rw[wv ω];refine⟨⟨E,o⟩,⟨N,by rw[a0];exact f⟩,⟨b3,by rw[a0];omega⟩,⟨G7 a9 ω,G7 a2 ω,G7 aw ω⟩,?_⟩;rintro⟨(s:D4),_⟩ _ ⟨ax,ay⟩;exact⟨⟨N,by rw[a0];exact f⟩,⟨by simp only;omega,by simp only;omega,(FI.next A aj ac af G O V E o B).2 s ax ay⟩,ω⟩
   have o:=qB o;rw[wv ω];refine⟨⟨by simp only;omega,by simp only;omega,?_⟩,ω⟩;simp only;rw[(ω:(i+1).toNat=i.toNat+1)];refine FI.done A G (λe h=>⟨(u e h).2.1,(u e h).2.2⟩) (λj c=>(au j c).trans (ad j).symm) (ω:w.length<=aa.toNat) B b8 ?_;have:=cp i.toNat (λm=>if m=i.toNat then rv (b.getD (ix P i.toNat) zr)-B7 i.toNat (λm=>el ((P.length:Int),(P.length:Int),L) i.toNat m*rv (z.getD m zr))else rv (z.getD m zr)) G λj c=>by
    rw[A8 (g:=λm=>el ((P.length:Int),(P.length:Int),L) j m*rv (z.getD m zr)) λm J=>by rw[qL ω]];by_cases e:j=i.toNat
    . subst e;rw[qT rfl];grind
    rw[qL e,xY];exact(A.2 j ω).2
   rwa[qT rfl]at this
 have f:=qB f;have c7:i.toNat=P.length:=ω
 rw[c7]at A;refine⟨⟨qF _,qH _,ω,ω⟩,bwI Y0 P.length Q (↑P.length, ↑P.length,U) (λj=>rv (z.getD j zr)),λp=>((P.length:Int)-p.1).toNat,⟨qH _,qF _,?_,rK,λj I a3=>?_⟩,?_⟩
 . exact⟨A.1,λj c=>(A.2 j c).1,λj I a3=>absurd a3 (Nat.not_lt.2 I)⟩
 . simp only[Int.toNat_zero,g2n]at I;omega
 rintro⟨(k:Int),(a1:List D4),(b1:List D4),_⟩ _ ⟨cw,cx,F,a7,a8⟩;simp only at cw cx F a7 a8|-;have be:∀i,i<P.length->el ((P.length:Int),(P.length:Int),U) i i≠0:=λi f=>(H i i (sU.2 f) (sU.2 f)).2.2.2
 have b9:∀a m,m<a->a<P.length->el ((P.length:Int),(P.length:Int),U) a m=0:=λa m J W=>(H a m (sU.2 W) ω).2.2.1 J
 refine⟨λa5=>?_,λa5=>?_⟩
 . have a5:=qA a5;obtain⟨q,t,cj,ck,bh⟩:∃q:Nat,q<P.length/\(P.length:Int)-1-k=(q:Int)/\P.length-k.toNat=q+1/\P.length-(k+1).toNat=q:=⟨P.length-1-k.toNat,ω,ω,ω,ω⟩;have cs:i64.wrap (i64.wrap ((P.length:Int)-1)-k)=(q:Int):=by
    rw[wv (a:=(P.length:Int)-1) ω,wv ω];exact cj
   rw[ck]at F a8;obtain⟨bw,b7⟩:=b6 q t;have T:(q:Int)<(P.length:Int):=sU.2 t;obtain⟨Y,ao⟩:=c3 q t;have ba:∀e∈U.getD q [],sz D e.2:=cn _ (E2 (l:=U) (ω:q<U.length));have ad:∀j:Nat,el ((P.length:Int),(P.length:Int),U) q j=A4 (U.getD q []) (j:Int):=λ_=>rfl
   have bc:A4 (U.getD q []) (q:Int)≠0:=(H q q T T).2.2.2;obtain⟨cf,cg,bj,O,u,au⟩:=C5n Y (i:=q) (λj c=>(H q j T ω).2.2.1 c) bc;simp only[cs];rw[Li (qF q) (ω:(q:Int)<(U.length:Int)),L3 (d:=(0:Int)) (qF q) (ω:(q:Int)<(Q.length:Int))];simp only[qO,vF,show Int.toNat 1=1 from rfl];rw[bw];simp only[qO];generalize U.getD q []=v at*;generalize v.drop 1=w at*;have V:∀e∈w,(q:Int)<e.1/\e.1<(P.length:Int)/\sz D e.2/\Xe e.2:=λe h=>by
    obtain⟨b4,bt,bu⟩:=u e h;exact⟨bt,bu,ba e b4,ao e b4⟩
   have cr:w.length<=16384:=by
    have:=Fc (n:=(P.length:Int)) (v:=w) ⟨O,λe h=>⟨by have:=(u e h).2.1;omega,(u e h).2.2,(Y.2 e (u e h).1).2.2⟩⟩;omega
   have cd:(q:Int)<(U.length:Int):=by rw[c2];exact T
   refine⟨⟨qF _,cd⟩,⟨δ,ω,qH _⟩,biI D Y0 P.length q (rv (z.getD q zr)) w a1,λp=>((w.length:Int)-p.1).toNat,⟨qH _,qF _,BI.init F t⟩,?_⟩;rintro⟨(aa:Int),(y:List D4),_⟩ _ ⟨E,az,B⟩;simp only at E az B|-;refine⟨λo=>?_,λo=>?_⟩
   . have o:=qA o;obtain⟨⟨a0,a9,aw⟩,_⟩:=BI.next F af ac t O V E o B
     rw[an]at a9;have am:=G4 (d:=D7) E o;obtain⟨b3,ab,a2,bs⟩:=V _ am;have Z:(q:Int)<(y.length:Int):=by rw[a0];exact T
     rw[wv ω];refine⟨⟨E,o⟩,⟨qF _,Z⟩,⟨ω,by rw[a0];exact ab⟩,⟨G7 a9 ω,G7 a2 ω,G7 aw ω⟩,?_⟩;rintro⟨(s:D4),_⟩ _ ⟨ax,ay⟩;exact⟨⟨qF _,Z⟩,⟨by simp only;omega,by simp only;omega,(BI.next F af ac t O V E o B).2 s ax ay⟩,ω⟩
   have o:=qB o;obtain⟨b2,cz,bq⟩:=BI.done F t (λe h=>(u e h).2) (λj c=>(au j c).trans (ad j).symm) b9 (be q t) (ω:w.length<=aa.toNat) B λx hx=>by
    obtain⟨b4,ab,a2⟩:=B3z b9 be q x ω hx;rw[<-ab q (qU _)];refine cq b4 (λi f=>?_) q t;exact B3h (L:=el ((P.length:Int),(P.length:Int),L)) (U:=el ((P.length:Int),(P.length:Int),U)) (λj c=>(A.2 j c).2) a2 (λi f=>(H i i (sU.2 f) (sU.2 f)).2.1) (λi j a4 c=>(H i j ω (sU.2 c)).1 a4) f
   rw[an]at b2;have Z:y.length=P.length:=by
    obtain⟨b4,rfl,_⟩:=B;rw[qW];exact F.1
   have cu:∀j,j≠q->y.getD j zr=a1.getD j zr:=λj c=>by
    obtain⟨b4,rfl,_⟩:=B;exact F2 c
   have aq:(q:Int)<(y.length:Int):=by rw[Z];exact T
   refine⟨⟨qF _,aq⟩,⟨δ,ω⟩,⟨R8 (k:=K1) (G7 b2 ω) δ,R8 (ba _ cg) (qZ (ω:D<=K1) δ)⟩,?_⟩;rintro⟨(s:D4),d4,_⟩ _ ⟨_,bi⟩;simp only at bi|-;have X:s=rc (rv (y.getD q zr)/el ((P.length:Int),(P.length:Int),U) q q):=by
    rw[ad, <-bj];exact(bi (by rw[bj];exact bc)).1
   rw[show(List.set y q s).getD q dQ=s from C4 (by rw[Z];exact t),wv ω];refine⟨⟨qF _,aq⟩,⟨qF _,by rw[cy];exact T⟩,⟨qF _,by rw[qW];exact aq⟩,⟨qF _,by rw[a7];exact sU.2 b7⟩,⟨by simp only;omega,by simp only;omega,?_,by simp only;rw[qW];exact a7,λj I a3=>?_⟩,ω⟩
   . simp only;rw[bh,X];exact bq
   simp only at I|-;rw[bh]at I;by_cases ae:j=q
   . subst ae;rw[C4 (by rw[a7];exact b7),C4 (by rw[Z];exact t)]
   rw[F2 λe=>ae (bn j q a3 t e),F2 ae,cu j ae];exact a8 j ω a3
 have a5:=qB a5;have ca:P.length-k.toNat=0:=ω
 rw[ca]at F a8;have bm:∀j,j<P.length->b1.getD (ix Q j) zr=a1.getD j zr:=λj c=>a8 j (rS _) c
 have ct:∀e∈b1,∃j,j<P.length/\e=a1.getD j zr:=λe h=>by
  obtain⟨a,W,rfl⟩:=T2 zr h;obtain⟨j,c,b4⟩:=Cz (λa W=>(b6 a W).2) bn (ω:a<P.length);exact⟨j,c,by rw[<-b4];exact bm j c⟩
 refine⟨λr=>absurd M r,λ_=>⟨λr=>absurd R r,λ_=>⟨by trivial,a7,λe h=>?_,λa W=>?_⟩⟩⟩
 . obtain⟨j,c,rfl⟩:=ct e h;obtain⟨⟨x,I,_⟩,_⟩:=F.2.2 j (rS _) c;rw[I,L5]
 have cl:=B3h (L:=el ((P.length:Int),(P.length:Int),L)) (U:=el ((P.length:Int),(P.length:Int),U)) (v:=λj=>rv (a1.getD j zr)) (λj c=>(A.2 j c).2) (λj c=>(F.2.2 j (rS _) c).2) (λi f=>(H i i (sU.2 f) (sU.2 f)).2.1) (λi j a4 c=>(H i j ω (sU.2 c)).1 a4) W;refine Eq.trans (A8 λj c=>?_) cl;rw[bm j c];rfl
def JN:An:= {}
def SB:An:= {}
def GY:An:= {join:= [(7,⟨[6,7,8],[],[(2,false,[.own qb 3]),(3,false,[.own qb 3])],[],[]⟩)],loop:= [(2,⟨[6,7],[],[(2,false,[.own qb 3]),(3,false,[.own qb 3]),(8,false,vI)],[],[]⟩)]}
def Oz(x:jF):Prop:=let a:=(rv x.2.2.1*rv x.1);(N6 x.2.2.1/\N6 x.1)/\P6 λr=>r.1=rc a->r.1=rc a
def Wq(x:QQ×List EE×Unit):Prop:=UX x.2.1/\SP λr=>(asc x.2.1->r.1=x.2.1)/\(¬asc x.2.1->asc r.1/\(∀(j:Int),A4 r.1 j=A4 x.2.1 j)/\r.1.length<=(20:Nat)/\LE (16777216:Nat) r.1)->∃(c:Ei->Prop),∃(b:Ei->(Bool×Wf)×Wf),(∀(y:Ei),tQ.wf y.1/\tQ.wf y.2.1/\True->c y->(sz K1 y.1/\sz K1 x.1)/\P6 λz=>z.1=rc (rv x.1*rv y.1)->true=true/\z.1=b y)/\(List.length r.1<=100000/\(0:Nat)<=(100000:Nat)/\∀(u v:D4),(u=zr\/∃(e:EE),e∈r.1/\e.2=u)->(v=zr\/∃(e:EE),e∈ []/\e.2=v)->(c,b).1 (u,v,()))/\SP λa=>a.1=I8 b r.1 []->U8 a.1/\∀(i:Int),A4 a.1 i=rv x.1*A4 x.2.1 i
abbrev C2a:=Wf×Wf×Int×Unit
def Nc(x:List Bool×Unit):Prop:=let c:=(140737488355328:Nat);let b:=(x.1.length:Int);∃(I:C2a->Prop),∃(f: _->Nat),I ([],[],(0:Int),())/\∀(p:C2a),(Ty.int i64).sl.wf p.1/\(Ty.int i64).sl.wf p.2.1/\(Ty.int i64).wf p.2.2.1/\True->I p->(iB (decide (p.2.2.1<b)) (∃(J:Eh->Prop),((0<=p.2.2.1/\p.2.2.1<b)/\(iB (gx false x.1 p.2.2.1) (((p.1.length+ [p.2.2.1].length)*(8:Nat)<=c/\p.1.length+ [p.2.2.1].length<=9223372036854775807)/\J (p.1++ [p.2.2.1],p.2.1,())) (((p.2.1.length+ [p.2.2.1].length)*(8:Nat)<=c/\p.2.1.length+ [p.2.2.1].length<=9223372036854775807)/\J (p.1,p.2.1++ [p.2.2.1],()))))/\∀(d:Eh),let a:=(d.1,d.2.1,i64.wrap (p.2.2.1+1),());(Ty.int i64).sl.wf d.1/\(Ty.int i64).sl.wf d.2.1/\True->J d->I a/\f a<f p) ((p.1=F3 x.1.length fun(i:Nat)=>x.1.getD i false)/\p.2.1=F3 x.1.length fun(i:Nat)=> !x.1.getD i false))
def BQ:sr Ar Oz:=λx g b=>by
 obtain⟨(p:D4),(q:D4),(f:D4),_⟩:=x;obtain⟨c,a⟩:sz K1 p/\sz K1 f:=b;simp only[Oz,P6];exact⟨⟨R8 a δ,R8 c δ⟩,λr _ d=>d⟩
def IQ:sr Aq Wq:=λx s j=>by
 obtain⟨(f:D4),(b:List C8),_⟩:=x;obtain⟨i,c,g,h⟩:sz K1 f/\ER K1 b:=j;simp only[Wq,P6,SP];refine⟨.inl c,?_⟩;rintro⟨r,_⟩ _ ⟨a,_⟩;have a:r=b:=a c;simp only;subst a;refine⟨λy=>sz K1 y.1,λy=>rc (rv f*rv y.1),?_,⟨h,δ,λu v d o=>iX g d⟩,?_⟩
 . rintro⟨u,v,_⟩ _ d;exact⟨⟨d,i⟩,λz _ k=>⟨by trivial,k⟩⟩
 rintro⟨r,_⟩ _ a;simp only at a|-;rw[a];obtain⟨l,_,n⟩:=Yy (λy=>rc (rv f*rv y.1)) (λp q=>rv f*p) (sN _) _ [] (λ_ _ _ _=>rfl) c List.Pairwise.nil;exact⟨l,n⟩
def Yb:sr X6 Nc:=λx y u=>by
 obtain⟨(l:List Bool),_⟩:=x;have w:l.length<=100000:=u;simp only[Nc,iB];refine⟨λp=>0<=p.2.2.1/\p.2.2.1<=(l.length:Int)/\p.1=F3 p.2.2.1.toNat (λi=>l.getD i false)/\p.2.1=F3 p.2.2.1.toNat (λi=> !l.getD i false),λp=>((l.length:Int)-p.2.2.1).toNat,⟨qH _,qF _,rfl,rfl⟩,?_⟩;rintro⟨(r:Wf),(b:Wf),(i:Int),_⟩ _ ⟨g,s,a,d⟩;simp only at g s a d|-;refine⟨λh=>?_,λh=>?_⟩
 . have h:=qA h;have t:=TG i.toNat λj=>l.getD j false
   rw[<-a, <-d]at t;rw[L3 g h,wv ω];have k:(i+1).toNat=i.toNat+1:=ω
   refine⟨λp=>p.1=F3 (i+1).toNat (λi=>l.getD i false)/\p.2.1=F3 (i+1).toNat (λi=> !l.getD i false),⟨⟨g,h⟩,λf=>?_,λf=>?_⟩,?_⟩
   . refine⟨⟨by simp only[qX];omega,by simp only[qX];omega⟩,?_⟩;simp only;rw[k,Cy,Cy,qT f,qL (by rw[f];decide), <-a, <-d,(ω:((i.toNat:Nat):Int)=i)];exact⟨rfl,rfl⟩
   . refine⟨⟨by simp only[qX];omega,by simp only[qX];omega⟩,?_⟩;simp only;rw[k,Cy,Cy,qL (by rw[f];decide),qT (by rw[f];rfl), <-a, <-d,(ω:((i.toNat:Nat):Int)=i)];exact⟨rfl,rfl⟩
   rintro⟨c,v,_⟩ _ ⟨n,o⟩;simp only at n o|-;exact⟨⟨ω,ω,n,o⟩,ω⟩
 have h:=qB h;rw[(ω:i.toNat=l.length)]at a d;exact⟨a,d⟩
noncomputable def Kq:G2:= []
def Kk:An:= {}
noncomputable def Qb:G2:= [(52,J6),(74,P4),(99,V7 (Lk ⟨prog,YU⟩ [(17,Kq,Kk)] f99.results.toList (f99.body.getD .skip) f99.ntmps))]
def Pf:An:= {loop:= [(8,⟨[2,4,5,19,20,21,26,27],[1,2,3,5,8],[(28,false,vI)],[],[(7, .rows tE 49 105)]⟩),(5,⟨[2,4,19,20],[1,2,3,5,8],[(21,false,vI)],[],[(7, .rows tE 49 105)]⟩)],plan:= [(10,[5,7,9,12],[16,18],false, .done)]}
def Xa:An:= {join:= [(19,⟨[3,4,6,8,9,36,37,38],[1,2,3,9,10],[],[],[(7, .row qd 49)]⟩)],loop:= [(9,⟨[3,4,6,8,9,36,37],[1,2,3,9,10],[(38,false,vI)],[],[(7, .row qd 49)]⟩)],plan:= [(18,[1,3],[8],true, .done)]}
noncomputable def Xo:G2:= [(58,M9),(103,P3),(105,Ap),(106,Aa),(107,Aq),(108,Q7),(104,{Q6 with inl:=some (Lk ⟨prog,YU⟩ [(27,Qb,Pf)] f104.results.toList (f104.body.getD .skip) f104.ntmps)})]
def Hu(x:jE):Prop:=let O:=(140737488355328:Nat);let M:=x.2.1.2.1.toNat;let K:=(1:Nat);let z:=x.1.1.toNat;let q:=(1:Int);let o:=(0:Int);(S4 K1 x.1/\(A7 x.1->x.1.1=x.1.2.1->∃(T:Nat),K<=T/\(8:Nat)*T+(8:Nat)<=K1/\aW z z (el x.1) T))/\∀(r:C4f),let A:=r.1.1.length;let P:=(↑A:Int);(aD r.1.1/\aD r.1.2.1/\jN r.1.2.2.1/\N8 r.1.2.2.2.1/\N8 r.1.2.2.2.2.1/\Kj r.1.2.2.2.2.2)/\N8 r.2.1/\True->(¬A7 x.1->r.1=jT/\r.2.1=q)/\(A7 x.1->(x.1.1≠x.1.2.1->r.1=jT/\r.2.1=4)/\(x.1.1=x.1.2.1->(¬nonsing z (el x.1)->r.1=jT/\r.2.1=6)/\(nonsing z (el x.1)->Bi r.1 x.1.1/\r.2.1=o/\(∀(v:List EE),v∈r.1.2.2.1.2.2->U8 v)/\(∀(v:List EE),v∈r.1.2.2.2.2.2->U8 v)/\(∀(T:Nat),K<=T->aW z z (el x.1) T->∀(i j:Nat),i<Int.toNat x.1.1->qs (T+T) (el r.1.2.2.1 i j)/\qs (T+T) (el r.1.2.2.2 i j))/\∀(i j:Nat),i<Int.toNat x.1.1->j<Int.toNat x.1.1->luM r.1 z i j=el x.1 (ix r.1.1 i) (ix r.1.2.1 j))))->(iB (decide (r.2.1≠o)) (jY x.1 x.2.1 (o,o,[]) r.2.1) (True/\Od λV=>V.1=decide (A7 x.2.1)->(iB ((!V.1)) ((iB (decide (q≠o)) (jY x.1 x.2.1 (o,o,[]) q) (True/\P6 λr=>r.1=ri (-1:Int)->False))) ((o<=x.2.1.2.1/\x.2.1.2.1<=x.2.1.2.1/\(↑(24:Nat):Int)*x.2.1.2.1<=281474976710656/\x.2.1.2.1<=9223372036854775807)/\∃(I:FC->Prop),∃(f: _->Nat),I (o,List.replicate M [],())/\∀(p:FC),let L:=(gx [] x.2.1.2.2 p.1);let k:Prop:=(p.1<(x.2.1.2.2.length:Int));(Ty.int i64).wf p.1/\Kj p.2.1/\True->I p->(iB (decide k) ((o<=p.1/\k)/\∃(I_1:FC->Prop),∃(d: _->Nat),I_1 (o,p.2.1,())/\∀(Q:FC),let G:=(i64.wrap (p.1+q),Q.2.1,());let m:=(gx D7 L Q.1);let n:=m.1.toNat;let B:=(List.getD Q.2.1 n []);let h:Prop:=(Q.1<(↑L.length:Int));let g:(F5)->Prop:=(λr=>(B.length+ [(p.1,r.1)].length)*(64:Nat)<=O/\B.length+ [(p.1,r.1)].length<=9223372036854775807);let c:Prop:=(o<=m.1/\m.1<(Q.2.1.length:Int));let a:(F5)->Prop:=(λr=>let N:=(p.1,r.1);let C:=(List.getD Q.2.1 n []++ [N]);let D:=(i64.wrap (Q.1+q),List.set Q.2.1 n C,());((B.length+ [N].length)*(64:Nat)<=O/\B.length+ [N].length<=9223372036854775807)/\c/\Int.toNat m.1=Int.toNat m.1/\I_1 D/\d D<d Q);let b:Prop:=((N6 m.2/\P6 λr=>r.1=rc (rv m.2)->a r)/\N6 m.2/\P6 λr=>let E:=(List.getD Q.2.1 n []++ [(p.1,r.1)]);let F:=(i64.wrap (Q.1+q),List.set Q.2.1 n E,());r.1=rc (rv m.2)->(a r)/\(a r)/\(g r)/\c/\Int.toNat m.1=Int.toNat m.1/\I_1 F/\d F<d Q);(Ty.int i64).wf Q.1/\Kj Q.2.1/\True->I_1 Q->(iB (decide h) ((o<=Q.1/\h)/\c/\b/\b/\N6 m.2/\P6 λr=>let Z:=(List.getD Q.2.1 n []++ [(p.1,r.1)]);let u:=(i64.wrap (Q.1+q),List.set Q.2.1 n Z,());r.1=rc (rv m.2)->((a r)/\(a r)/\a r)/\((a r)/\(a r)/\a r)/\((a r)/\a r)/\((a r)/\a r)/\(g r)/\(c/\Int.toNat m.1=Int.toNat m.1/\I_1 u/\d u<d Q)/\c/\Int.toNat m.1=Int.toNat m.1/\I_1 u/\d u<d Q) (I G/\f G<f p))) ((iB (decide (o≠o)) (jY x.1 x.2.1 (o,o,[]) o) (True/\P6 λU=>U.1=ri (-1:Int)->∃(I:FC->Prop),∃(f: _->Nat),I (o,p.2.1,())/\∀(Q:FC),let y:=(List.getD Q.2.1 Q.1.toNat []);let w:=(x.2.1.2.1,x.2.1.1,Q.2.1);let X:Prop:=(Q.1<(p.2.1.length:Int));let l:Prop:=(o<=Q.1/\Q.1<(Q.2.1.length:Int));let t:Prop:=((↑y.length:Int)=o);(Ty.int i64).wf Q.1/\Kj Q.2.1/\True->I Q->(iB (decide X) (∃(J:C1y->Prop),(l/\(iB (decide t) (J (Q.2.1,())) ((ER K1 y/\F1 y x.2.1.1/\o<=x.2.1.1/\x.2.1.1<=16384)/\∀(S:List QQ×Bool×Unit),WfL S.1/\True/\True->S.1=dl x.2.1.1 (A4 y)/\S.2.1=true->(iB ((!S.2.1)) (jY x.1 x.2.1 (o,o,[]) q) ((List.length r.1.1<=16384/\S4 K1 r.1.2.2.1/\S4 K1 r.1.2.2.2/\(Bi r.1 P->List.length S.1=List.length r.1.1->∃(s:Nat),∃(T:Nat),∃(Y:Nat),K<=s/\K<=T/\T<=Y/\S4 s r.1.2.2.1/\S4 s r.1.2.2.2/\eV T S.1/\B7m Y r.1 S.1/\Y+List.length r.1.1*(s+Y+K)+s<=K1))/\∀(R:List QQ×Int×Unit),WfL R.1/\N8 R.2.1/\True->(¬Bi r.1 P->R.1= []/\R.2.1=q)/\(Bi r.1 P->(List.length S.1≠List.length r.1.1->R.1= []/\R.2.1=4)/\(List.length S.1=List.length r.1.1->R.2.1=o/\R.1.length=List.length r.1.1/\(∀(e:QQ),e∈R.1->e=rc (rv e))/\∀(i:Nat),i<List.length r.1.1->(B7 A fun(j:Nat)=>luM r.1 A i j*rv (R.1.getD (ix r.1.2.1 j) zr))=rv (List.getD S.1 (ix r.1.1 i) zr)))->(iB (decide (R.2.1≠o)) (jY x.1 x.2.1 (o,o,[]) R.2.1) ((List.length R.1<=100000/\eV K1 R.1)/\SP λr=>Vx R.1.length (fun(j:Nat)=>rv (List.getD R.1 j zr)) r.1->(sz K1 U.1/\ER K1 r.1)/\SP λW=>IT (fun(i:Int)=>rv U.1*A4 r.1 i) W.1->l/\J (List.set Q.2.1 Q.1.toNat W.1,()))))))))/\∀(p:C1y),let H:=(i64.wrap (Q.1+q),p);Kj p.1/\True->J p->I H/\f H<f Q) (S4 K1 w/\∀(r:Mq),jN r.1/\N8 r.2.1/\True->(¬A7 w->r.1=zm/\r.2.1=q)/\(A7 w->Ed x.2.1.1.toNat M (fun(i j:Nat)=>el w j i) r.1/\r.2.1=o)->jY x.1 x.2.1 r.1 r.2.1))))))))))
def TCI (s Y B:Nat) (w:List C8) (u:D4) (z0:List D4) (t:Nat) (z:List D4):Prop:=
 z.length=z0.length/\(∀j:Nat,(∀e∈w.take t,e.1≠(j:Int))->z.getD j zr=z0.getD j zr)/\∀e∈w.take t,jU (B+(s+Y+1)) (rv (z0.getD e.1.toNat zr)-rv e.2*rv u) (z.getD e.1.toNat zr)/\(z0.getD e.1.toNat zr=rc (rv (z0.getD e.1.toNat zr))->z.getD e.1.toNat zr=rc (rv (z.getD e.1.toNat zr)))
variable {s T Y B n i:Nat} {w:List C8} {u:D4} {z0 z:List D4}
def TCI.init:TCI s Y B w u z 0 z:=⟨rfl,λ_ _=>rfl,λe a=>(by rw[zZ]at a;cases a)⟩
def TCI.next (E:asc w) (hw:∀e∈w,0<=e.1/\e.1<(z0.length:Int)/\sz s e.2/\Xe e.2/\e.1≠(i:Int)/\∃q,jU B q (z0.getD e.1.toNat zr)) (hs:1<=s) (hB:1<=B) (hY:1<=Y) (hu:jU Y (rv u) u) (hui:z0.getD i zr=u) {t:Int} (t0:0<=t) (t1:t<(w.length:Int)) (h:TCI s Y B w u z0 t.toNat z):
 (z.getD i zr=u/\z.getD (gx D7 w t).1.toNat zr=z0.getD (gx D7 w t).1.toNat zr/\sz B (z.getD (gx D7 w t).1.toNat zr))/\∀r:D4,(rv u=0->r=z.getD (gx D7 w t).1.toNat zr)->(rv u≠0->r=rc (rv (z.getD (gx D7 w t).1.toNat zr)-rv (gx D7 w t).2*rv u))->TCI s Y B w u z0 (t+1).toNat (z.set (gx D7 w t).1.toNat r):=by
 obtain⟨l,c,D⟩:=h;have n:=A8v (d:=D7) E t0 t1;have G:=G4 (d:=D7) t0 t1;have o:=Kz (d:=D7) t0 t1;generalize gx D7 w t=e at*;obtain⟨M,N,x,A,O,q,b⟩:=hw e G;have P:((e.1.toNat:Nat):Int)=e.1:=ω
 have I:z.getD i zr=u:=by
  rw[c i λy a=>(hw y (rQ a)).2.2.2.2.1];exact hui
 have g:z.getD e.1.toNat zr=z0.getD e.1.toNat zr:=c _ λy a=>by have:=n y a;omega
 refine⟨⟨I,g,by rw[g];exact b.1⟩,λr j k=>⟨by rw[qW];exact l,λJ f=>?_,λy a=>?_⟩⟩
 . rw[o]at f;have:=f e (tA _ (qK.2 rfl));rw[F2 ω];exact c J λy a=>f y (sE _ a)
 rw[o]at a;rcases qS.1 a with a|a
 . have:=n y a;have:=(hw y (rQ a)).1;rw[F2 ω];exact D y a
 rw[qK.1 a,C4 (by rw[l];omega)];rw[g]at j k;have H:jU B (rv (z0.getD e.1.toNat zr)) (z0.getD e.1.toNat zr):=⟨b.1,b.2.1,rfl⟩;refine⟨BZ (aC H A x hs hu hB hY j k) ω,λF=>?_⟩;by_cases v:rv u=0
 . rw[j v];exact F
 rw[k v,L5]
def TCI.done (g:asc w) (a:∀e∈w,0<=e.1) {t:Nat} (b:w.length<=t) (h:TCI s Y B w u z0 t z):z.length=z0.length/\∀j:Nat,(A4 w (j:Int)=0/\(∀e∈w,e.1≠(j:Int))->z.getD j zr=z0.getD j zr)/\(∀q,jU B q (z0.getD j zr)->jU (B+(s+Y+1)) (q-A4 w (j:Int)*rv u) (z.getD j zr))/\(z0.getD j zr=rc (rv (z0.getD j zr))->z.getD j zr=rc (rv (z.getD j zr))):=by
 obtain⟨a,d,f⟩:=h;rw[qQ b]at d f;refine⟨a,λj=>⟨λc=>d j c.2,λq l=>?_,λi=>?_⟩⟩
 . by_cases b:∃e∈w,e.1=(j:Int)
   . obtain⟨e,a,k⟩:=b;have c:e.1.toNat=j:=ω
     have:=(f e a).1;rw[c]at this;rw[<-k,N2 g a, <-l.2.2];exact this
   have b:∀e∈w,e.1≠(j:Int):=λe a g=>b ⟨e,a,g⟩
   rw[d j b,C7 b,sO,tK,wI,rD];exact BZ l ω
 by_cases b:∃e∈w,e.1=(j:Int)
 . obtain⟨e,a,k⟩:=b;have c:e.1.toNat=j:=ω
   have:=(f e a).2;rw[c]at this;exact this i
 rw[d j λe a g=>b ⟨e,a,g⟩];exact i
def TW (s T Y n i:Nat) (U:Nat->Nat->Rat) (c:Nat->Rat) (z:List D4):Prop:=z.length=n/\(∀j,j<i->(∃q,z.getD j zr=rc q/\qs Y q)/\B7 (j+1) (λm=>U m j*rv (z.getD m zr))=c j)/\∀j,i<=j->j<n->jU (T+i*(s+Y+1)) (c j-B7 i (λm=>U m j*rv (z.getD m zr))) (z.getD j zr)
def TB (s T Y n i:Nat) (L:Nat->Nat->Rat) (c:Nat->Rat) (z:List D4):Prop:=z.length=n/\(∀j,j<n->z.getD j zr=rc (rv (z.getD j zr)))/\(∀j,i<=j->j<n->qs Y (rv (z.getD j zr))/\B7 n (λm=>L m j*rv (z.getD m zr))=c j)/\∀j,j<i->jU (T+(n-i)*(s+Y+1)) (c j-B7 n (λm=>if i<=m then L m j*rv (z.getD m zr)else 0)) (z.getD j zr)
variable {U L:Nat->Nat->Rat} {c:Nat->Rat}
def TW.step (h:TW s T Y n i U c z0) (I:i<n) (P:U i i≠0) (A:u=rc (rv (z0.getD i zr)/U i i)) (M:qs Y (rv u)) (F:asc w) (g:∀e∈w,(i:Int)<e.1/\e.1<(n:Int)) (E:∀j:Nat,i<j->A4 w (j:Int)=U i j) {t:Nat} (N:w.length<=t) (G:TCI s Y (T+i*(s+Y+1)) w u (z0.set i u) t z):TW s T Y n (i+1) U c z:=by
 obtain⟨D,l,o⟩:=h;obtain⟨B,k⟩:=G.done F (λe b=>by have:=(g e b).1;omega) N;have r:∀j:Nat,j<=i->z.getD j zr=(z0.set i u).getD j zr:=λj a=>(k j).1 ⟨C7 λe b H=>by have:=(g e b).1;omega,λe b H=>by have:=(g e b).1;omega⟩
 have f:∀j:Nat,j<i->z.getD j zr=z0.getD j zr:=λj a=>by rw[r j ω,F2 ω]
 have d:z.getD i zr=u:=by rw[r i (qU _),C4 ω]
 have x:rv u=rv (z0.getD i zr)/U i i:=by rw[A,L5]
 have y:∀(j:Nat),B7 i (λm=>U m j*rv (z.getD m zr))=B7 i (λm=>U m j*rv (z0.getD m zr)):=λj=>A8 λm v=>by rw[f m v]
 refine⟨by rw[B,qW];exact D,λj a=>?_,λj O J=>?_⟩
 . rcases(ω:j<i\/j=i)with a|rfl
   . rw[f j a];refine⟨(l j a).1,?_⟩;rw[<-(l j a).2];exact A8 λm v=>by rw[f m ω]
   rw[d];refine⟨⟨_,A,by rw[<-x];exact M⟩,?_⟩;show B7 j (λm=>U m j*rv (z.getD m zr))+U j j*rv (z.getD j zr)=c j;rw[y,d,x,(o j (qU _) I).2.2];grind
 have:=(k j).2.1 (c j-B7 i (λm=>U m j*rv (z0.getD m zr))) (by rw[F2 ω];exact o j ω J);rw[E j ω]at this;have e:c j-B7 i (λm=>U m j*rv (z0.getD m zr))-U i j*rv u=c j-B7 (i+1) (λm=>U m j*rv (z.getD m zr)):=by
  show _=c j-(B7 i (λm=>U m j*rv (z.getD m zr))+U i j*rv (z.getD i zr));rw[y,d];grind
 rw[e]at this;exact BZ this (by rw[tZ];omega)
def A4q (n i:Nat) (b:i<n) (f:Nat->Rat):B7 n (λm=>if i<=m then f m else 0)=f i+B7 n (λm=>if i+1<=m then f m else 0):=by
 have a:B7 n (λm=>if i<=m then f m else 0)=B7 n (λm=>(if m=i then f i else 0)+if i+1<=m then f m else 0):=A8 λm _=>by
  rcases g4m m i with h|h|h
  . rw[qL ω,qL ω,qL ω,rD]
  . subst h;rw[qT (qU _),qT rfl,qL ω,rD]
  rw[qT ω,qL ω,qT ω,sX]
 rw[a,Bo,H0 (k:=i) b λm _ c=>qL c,qT rfl]
def TB.step (h:TB s T Y n (i+1) L c z0) (x:i<n) (F:L i i=1) (v:∀m j,m<j->j<n->L m j=0) (O:qs Y (rv (z0.getD i zr))) (I:asc w) (o:∀e∈w,0<=e.1/\e.1<(i:Int)) (H:∀j:Nat,j<i->A4 w (j:Int)=L i j) {t:Nat} (P:w.length<=t) (J:TCI s Y (T+(n-(i+1))*(s+Y+1)) w (z0.getD i zr) z0 t z):TB s T Y n i L c z:=by
 obtain⟨E,G,r,u⟩:=h;obtain⟨A,l⟩:=J.done I (λe f=>(o e f).1) P;have g:∀j:Nat,i<=j->z.getD j zr=z0.getD j zr:=λj d=>(l j).1 ⟨C7 λe f M=>by have:=(o e f).2;omega,λe f M=>by have:=(o e f).2;omega⟩
 have y:∀(a j:Nat),i<=a->B7 n (λm=>if a<=m then L m j*rv (z.getD m zr)else 0)=B7 n (λm=>if a<=m then L m j*rv (z0.getD m zr)else 0):=λa j ha=>A8 λm _=>by
  by_cases b:a<=m
  . rw[qT b,qT b,g m ω]
  rw[qL b,qL b]
 refine⟨by rw[A];exact E,λj d=>(l j).2.2 (G j d),λj N k=>?_,λj d=>?_⟩
 . rw[g j N];rcases(ω:j=i\/i<j)with rfl|d
   . refine⟨O,?_⟩;have B:=(u j ω).2.2;have D:B7 n (λm=>L m j*rv (z.getD m zr))=B7 n (λm=>if j<=m then L m j*rv (z.getD m zr)else 0):=A8 λm _=>by
      by_cases b:j<=m
      . rw[qT b]
      rw[qL b,v m j ω k,sO]
     rw[D,A4q n j x,y (j+1) j ω,F,g j (qU _),B];grind
   refine⟨(r j d k).1,?_⟩;rw[<-(r j d k).2];refine A8 λm _=>?_
   by_cases b:i<=m
   . rw[g m b]
   rw[v m j ω k,sO,sO]
 have:=(l j).2.1 _ (u j ω);rw[H j d]at this;rw[A4q n i x,y (i+1) j ω,g i (qU _)];have e:c j-B7 n (λm=>if i+1<=m then L m j*rv (z0.getD m zr)else 0)-L i j*rv (z0.getD i zr)=c j-(L i j*rv (z0.getD i zr)+B7 n (λm=>if i+1<=m then L m j*rv (z0.getD m zr)else 0)):=by grind
 rw[e]at this;refine BZ this ?_;have:n-i=n-(i+1)+1:=ω
 rw[this,tZ];omega
def B9l {n s:Nat} {A:Nat->Nat->Rat} {c:Nat->Rat} (b:∀i j,i<n->j<n->qs s (A i j)) (d:∀i,i<n->qs s (c i)):∀i j,i<n->j<n+1->qs s (aS n A c i j):=λi j a f=>by
 unfold aS;split
 . rename_i h;exact b i j a h
 exact d i a
def B6f {f:LUV} {n:Nat} (h:Bi f (n:Int)):det n (luM f n)≠0:=by
 obtain⟨_,_,_,_,b⟩:=h;have e:det n (luM f n)=det n (EP n (el f.2.2.1) (el f.2.2.2)):=rfl;rw[e,TD,A2z λi j a c=>(b i j ω ω).1 a,fX λi j a c=>(b i j ω ω).2.2.1 a];intro a;rcases g0o.1 a with a|a
 . exact AI (λi _ c=>by rw[(b i i ω ω).2.1];decide) a
 exact AI (λi _ c=>(b i i ω ω).2.2.2) a
def A3s {L:Nat->Nat->Rat} {b:Nat->Rat} {k:Nat} {z:Nat->Rat} (f:∀i,i<=k->B7 i (λj=>L i j*z j)+z i=b i):∀d:Nat,∃a:Nat->Rat,(∀j,j<=k->a j=z j)/\∀i,i<=k+d->B7 i (λj=>L i j*a j)+a i=b i
 |0=>⟨z,λ_ _=>rfl,λi c=>f i c⟩
 |d+1=>by
  obtain⟨a,h,l⟩:=A3s f d;refine⟨λj=>if j=k+d+1 then b (k+d+1)-B7 (k+d+1) (λj=>L (k+d+1) j*a j)else a j,λj c=>(qL ω).trans (h j c),λi n=>?_⟩;rw[A8 (g:=λj=>L i j*a j) λj c=>sD (L i j* ·) (qL ω)];by_cases e:i=k+d+1
  . subst e;show _ +(if k+d+1=k+d+1 then _ else _)= _;rw[qT rfl];grind
  show _ +(if i=k+d+1 then _ else _)= _;rw[qL e];exact l i ω
def A4v {f:LUV} {b:List D4} {s s1:Nat} (h:Bi f (f.1.length:Int)) (w:f.1.length<=4294967296) (u:∀j,j<f.1.length->qs s (rv (b.getD (ix f.1 j) zr))) (x:s<=s1) (t:∀i j,i<f.1.length->j<f.1.length->qs s1 (luM f f.1.length i j)):
 B7m (tR s1 f.1.length (f.1.length+1)+tR s1 f.1.length (f.1.length+1)) f b:=by
 have d:=h.2.2.2.2;have n:=A3v (R:=f.1.length) (C:=f.1.length+1) (s:=s1) (A:=aS f.1.length (luM f f.1.length) λj=>rv (b.getD (ix f.1 j) zr)) w (B9l t λj o=>H4 (u j o) x);refine⟨λr z v B=>?_,λD y i c=>C1r n (B6f h) y c⟩;obtain⟨a,g,k⟩:∃a:Nat->Rat,(∀j,j<=r->a j=z j)/\∀i,i<f.1.length->B7 i (λj=>el f.2.2.1 i j*a j)+a i=rv (b.getD (ix f.1 i) zr):=by
  obtain⟨a,g,k⟩:=A3s B f.1.length;exact⟨a,g,λi c=>k i ω⟩
 rw[<-g r (qU _)];exact C0t n (λi j _ _=>rfl) (λi j l o=>(d i j ω ω).1 l) (λi c=>(d i i ω ω).2.1) (λi j l c=>(d i j ω ω).2.2.1 l) (λi c=>(d i i ω ω).2.2.2) k v
def B7d {n:Nat} {c:Nat->Nat} (i:∀a,a<n->c a<n) (h:∀a b,a<n->b<n->c a=c b->a=b) (f:Nat->Rat):B7 n (λa=>f (c a))=B7 n f:=by
 have l:B7 n (λa=>f (c a))=B7 n λa=>B7 n λj=>if j=c a then f j else 0:=A8 λa d=>by
  rw[H0 (k:=c a) (i a d) λj _ g=>qL g,qT rfl]
 rw[l,DK];refine A8 λj g=>?_
 obtain⟨a,d,rfl⟩:=Cz i h g;rw[H0 (k:=a) d λb r s=>qL λo=>s (h b a r d o.symm),qT rfl]
def C3r {k:Nat} {m:J1} (b:A7 m) (c:∀v∈m.2.2,U8 v) (o:1<=k) (h:∀i j:Nat,(i:Int)<m.1->qs k (el m i j)):S4 k m:=λv a=>by
 obtain⟨i,g,rfl⟩:=T2 [] a;have l:(i:Int)<m.1:=by rw[<-b.2.2.2.2.1];exact sU.2 g
 refine Tt (c _ a) λj=>?_
 by_cases n:0<=j
 . have:=h i j.toNat l;unfold el at this;rwa[(ω:((j.toNat:Nat):Int)=j)]at this
 rw[C7 λe d f=>n (by rw[<-f];exact((b.2.2.2.2.2 _ a).2 e d).1)];exact N7 o
def JZ {R C:Nat} {f:Nat->Nat->Rat} {m:J1} (h:Ed R C f m):Ed R C (el m) m:=NX h λi j a b=>(Z6 h a b).symm
def B2y {s n:Nat} (h:1<=n):s<=tR s n (n+1)/\n<=tR s n (n+1):=by
 unfold tR;have a:s*(n+1+1)+1<=n*(s*(n+1+1)+1):=Nat.le_mul_of_pos_left _ h;have a:s<=s*(n+1+1):=zP _ ω;have a:n<=n*(s*(n+1+1)+1):=zP _ ω;omega
set_option maxHeartbeats 4000000 in
def Qh:sr R6 Hu:=λx c0 cq=>by
 have dc:K1=549755813888:=rfl;obtain⟨(A:J1),⟨(R:Int),(C:Int),D⟩,_⟩:=x;change List (List C8)at D;obtain⟨n,d1,c8,a3,a4,bp,dh,bv,c9,ca,ar⟩:∃n v s:Nat,Ed n n (el A) A/\Ed n v (el (R,C,D)) (R,C,D)/\n<=900/\v<=900/\1<=s/\S4 s A/\S4 s (R,C,D)/\rY s n<=268435456:=cq;obtain⟨s,aa,dj,ak,am,a6⟩:∃s,1<=s/\s<=134217728/\S4 s A/\S4 s (R,C,D)/\rY s n<=268435456:=by
  by_cases O:n=0
  . subst O;refine⟨1,δ,δ,λM z=>?_,λM z=>?_,δ⟩
    . rw[qM a3.2.2.1]at z;cases z
    have:D= []:=qM a4.2.2.1;rw[show(R,C,D).2.2=D from rfl,this]at z;cases z
  have B:=(B2y (s:=c8) (n:=n) ω).1;unfold rY at ar;exact⟨c8,bv,ω,c9,ca,ar⟩
 clear bv c9 ca ar;have be:A7 A:=Z7 a3 ω ω;have z:A7 (R,C,D):=Z7 a4 ω ω;have E:A.1=(n:Int):=a3.1;have W:A.2.1=(n:Int):=a3.2.1;have cg:R=(n:Int):=a4.1;have db:C=(d1:Int):=a4.2.1;have cb:tR s n n<=tR s n (n+1):=TU (qU _) ω;have P:1<=tR s n n:=Nat.le_add_left 1 _;have de:tR s n (n+1)<=134217728:=by unfold rY at a6;omega
 have a9:∀i j,i<n->j<n->qs s (el A i j):=λi j _ _=>VM be (CV a3) ak aa i j
 have b3:∀i j,qs s (el (R,C,D) i j):=λi j=>VM z (CV a4) am aa i j
 have d7:S4 K1 A:=λM z e r=>G7 (ak M z e r) ω
 have cr:S4 K1 (R,C,D):=λM z e r=>G7 (am M z e r) ω
 have b0:aW n n (el A) (tR s n n):=A3v ω a9;simp only[Hu,iB,P6,SP,Od,E,W,qO];refine⟨⟨d7,λ_ _=>⟨tR s n n,P,ω,b0⟩⟩,?_⟩;rintro⟨(J:LUV),(e:Int),_⟩ _ ⟨_,Q⟩;obtain⟨_,Q⟩:=Q be;replace Q:=Q trivial;simp only at Q|-;by_cases ag:nonsing n (el A)
 . obtain⟨I,ae,cd,ce,bu,b1⟩:=Q.2 ag;subst ae;clear Q;refine⟨λy=>absurd rfl (qA y),λ_=>⟨trivial,?_⟩⟩;rintro⟨d8,_⟩ _ ah;simp only at ah|-;have ah:d8=true:=by rw[ah];exact rF z
   rw[ah];obtain⟨bb,cc,bc,d9,_,_⟩:=id z;have dm:(D.length:Int)=R:=z.2.2.2.2.1;have da:∀w∈D,F1 w C:=z.2.2.2.2.2;simp only at bb cc bc d9;have bw:=aa;have aa:S4 K1 (R,C,D):=cr;refine⟨λy=>(by cases y),λ_=>⟨⟨bc,qH _,ω,ω⟩,?_⟩⟩;refine⟨λp=>0<=p.1/\p.1<=R/\p.2.1.length=C.toNat/\∀j,j<C.toNat->Vx p.1.toNat (λi=>el (R,C,D) i j) (p.2.1.getD j []),λp=>(R-p.1).toNat,⟨qH _,bb,rK,λj h=>?_⟩,?_⟩
   . have e:(List.replicate C.toNat ([]:List C8)).getD j []= []:=by
      rw[qE,vE,qT h];rfl
     show Vx _ _ ((List.replicate C.toNat ([]:List C8)).getD j []);rw[e];exact⟨Iu,λ_ y=>(by cases y),λi f=>by simp at f⟩
   rintro⟨(v:Int),rows,_⟩ _ ⟨aj,d2,ax,a8⟩;change List (List C8)at rows;simp only at aj d2 ax a8|-;refine⟨λU=>?_,λU=>?_⟩
   . have U:=qA U;have az:=G4 (d:=([]:List C8)) aj U;rw[Li aj U]at az|-;have bx:=da _ az;have b4:=Uy z aa az;have cm:∀j:Nat,A4 (D.getD v.toNat []) (j:Int)=el (R,C,D) v.toNat j:=λj=>rfl
     generalize D.getD v.toNat []=row at*;have di:=b4.2.2;refine⟨⟨aj,U⟩,λp=>0<=p.1/\p.1<=(row.length:Int)/\p.2.1.length=C.toNat/\∀j,j<C.toNat->Vx (v+1).toNat (λi=>if i<v.toNat then el (R,C,D) i j else A4 (row.take p.1.toNat) (j:Int)) (p.2.1.getD j []),λp=>((row.length:Int)-p.1).toNat,⟨qH _,qF _,ax,λj h=>?_⟩,?_⟩
     . obtain⟨E,W,ad⟩:=a8 j h;refine⟨E,λe r=>by have:=W e r;omega,λi f=>?_⟩;dsimp only;by_cases H:i<v.toNat
       . rw[qT H];exact ad i H
       rw[qL H,C7 λe r df=>by have:=(W e r).2;omega];rfl
     rintro⟨(t:Int),o,_⟩ _ ⟨P,cb,V,of⟩;change List (List C8)at o;simp only at P cb V of|-;refine⟨λF=>?_,λF=>?_⟩
     . have F:=qA F;have bl:=G4 (d:=D7) P F;obtain⟨ae,ap,cf⟩:=bx.2 _ bl;have ct:=b4.2.1 _ bl;have av:=CL (d:=D7) P F;have bk:A4 (row.take t.toNat) (gx D7 row t).1=0:=by
        refine C7 λx O aw=>?_
        have B:(row.take (t+1).toNat).Pairwise (λa b=>a.1<b.1):=b4.1.take;rw[(ω:(t+1).toNat=t.toNat+1),rP,H3 (d:=D7) P F,tF]at B;have:=B.2.2 x O (gx D7 row t) (by simp);omega
       generalize gx D7 row t=e at*;have cu:N6 e.2:=R8 ct δ;have A1:t<(row.length:Int):=F;have B1:e.1<(o.length:Int):=by rw[V];omega
       have b2:=of e.1.toNat ω;have bn:=TL b2;have L1:((o.getD e.1.toNat []).length+ [(v,rc (rv e.2))].length)*64<=140737488355328:=by simp only[qX];omega
       have L2:(o.getD e.1.toNat []).length+ [(v,rc (rv e.2))].length<=9223372036854775807:=by simp only[qX];omega
       have cy:i64.wrap (t+1)=t+1:=wv ω;rw[cy];have I1:0<=t+1:=ω
       have I2:t+1<=(row.length:Int):=ω
       have I3:(o.set e.1.toNat (o.getD e.1.toNat []++ [(v,rc (rv e.2))])).length=C.toNat:=by rw[qW];exact V
       have I4:∀j,j<C.toNat->Vx (v+1).toNat (λi=>if i<v.toNat then el (R,C,D) i j else A4 (row.take (t+1).toNat) (j:Int)) ((o.set e.1.toNat (o.getD e.1.toNat []++ [(v,rc (rv e.2))])).getD j []):=λj h=>by
        rw[qE,xN];by_cases aw:e.1.toNat=j
        . rw[qT aw,qT ω];subst aw;obtain⟨E,W,ad⟩:=b2;have bm:∀x∈o.getD e.1.toNat [],x.1<v:=λx O=>by
           have B:=W x O;have G:=(E.2 x O).1;rw[<-N2 E.1 O]at G;refine rA λbp=>G ?_
           have Z:x.1=((v.toNat:Nat):Int):=ω
           rw[Z,ad v.toNat ω];dsimp only;rw[qL ω,(ω:((e.1.toNat:Nat):Int)=e.1)];exact bk
          refine⟨Fq E cf bm,λx O=>?_,λi f=>?_⟩
          . rcases qS.1 O with O|O
            . exact W x O
            rw[qK.1 O];show 0<=v/\v< _;omega
          show A4 (o.getD e.1.toNat []++ [(v,rc (rv e.2))]) (i:Int)= _;rw[Cd,ad i f];dsimp only;rw[av,qT (ω:e.1=((e.1.toNat:Nat):Int))];by_cases H:i<v.toNat
          . rw[qT H,qT H,qL ω,rD]
          rw[qL H,qL H,qT ω]
        rw[qL aw, <-qE];refine Qx (of j h) λi _=>?_
        rw[av,qL (ω:¬e.1=(j:Int)),rD]
       have M1:((row.length:Int)-(t+1)).toNat<((row.length:Int)-t).toNat:=ω
       clear b2 bn av bk of a8 bx
       repeat' first
        |exact⟨⟨ae,B1⟩,by trivial,⟨I1,I2,I3,I4⟩,M1⟩
        |exact⟨L1,L2⟩
        |exact⟨ae,B1⟩
        |exact⟨P,A1⟩
        |exact cu
        |apply And.intro
        | (rintro⟨q,_⟩ _ a9;simp only at a9|-;subst a9)
     have F:=qB F;rw[wv ω];rw[E9 (l:=row) (i:=t) ω]at of;refine⟨⟨ω,ω,V,λj h=>Qx (of j h) λi f=>?_⟩,ω⟩;by_cases H:i<v.toNat
     . rw[qT H]
     rw[qL H,cm,(ω:i=v.toNat)]
   have U:=qB U;rw[(ω:v.toNat=R.toNat)]at a8;refine⟨λy=>absurd rfl (qA y),λ_=>⟨trivial,?_⟩⟩;rintro⟨(d5:D4),_⟩ _ bo;simp only at bo|-;subst bo;have a0:J.1.length=n:=(Ob I.1).1;have dd:J.2.1.length=n:=(Ob I.2.1).1;have ay:Bi J (J.1.length:Int):=by rw[a0];exact I
   have ab:=(Ob I.1).2.1;have d0:=(Ob I.1).2.2;have b6:=(Ob I.2.1).2.1;have c5:=(Ob I.2.1).2.2;have b7:S4 (rY s n) J.2.2.1:=C3r I.2.2.1.2.2 cd (by unfold rY;omega) λi j f=>H4 (bu _ P b0 i j (by rw[I.2.2.1.1]at f;exact sU.1 f)).1 (by unfold rY;omega)
   have b8:S4 (rY s n) J.2.2.2:=C3r I.2.2.2.1.2.2 ce (by unfold rY;omega) λi j f=>H4 (bu _ P b0 i j (by rw[I.2.2.2.1.1]at f;exact sU.1 f)).2 (by unfold rY;omega)
   have d3:S4 K1 J.2.2.1:=λM z e r=>G7 (b7 M z e r) ω
   have d4:S4 K1 J.2.2.2:=λM z e r=>G7 (b8 M z e r) ω
   refine⟨λp=>0<=p.1/\p.1<=C/\p.2.1.length=C.toNat/\(∀j,p.1.toNat<=j->j<C.toNat->Vx n (λi=>el (R,C,D) i j) (p.2.1.getD j []))/\∀j,j<p.1.toNat->∃X:Nat->Rat,Vx n X (p.2.1.getD j [])/\(∀k:Nat,1<=k->S4 k A->S4 k (R,C,D)->∀i,i<n->qs (rY k n) (X i))/\∀i,i<n->B7 n (λt=>el A i t*X t)= -el (R,C,D) i j,λp=>(C-p.1).toNat,⟨qH _,bc,ax,λj _ h=>by rw[(ω:n=R.toNat)];exact a8 j h,λj h=>absurd h (uV _)⟩,?_⟩;rintro⟨(c:Int),o,_⟩ _ ⟨ao,c1,V,ba,a2⟩;change List (List C8)at o;simp only at ao c1 V ba a2|-;refine⟨λa7=>?_,λa7=>?_⟩
   . have a7:c<(rows.length:Int):=qA a7;have cl:c.toNat<C.toNat:=ω
     have a5:=ba c.toNat (qU _) cl;rw[wv (a:=c+1) ω];have step:∀w:List C8,(∃X:Nat->Rat,Vx n X w/\(∀k:Nat,1<=k->S4 k A->S4 k (R,C,D)->∀i,i<n->qs (rY k n) (X i))/\∀i,i<n->B7 n (λt=>el A i t*X t)= -el (R,C,D) i c.toNat)->(o.set c.toNat w).length=C.toNat/\(∀j,(c+1).toNat<=j->j<C.toNat->Vx n (λi=>el (R,C,D) i j) ((o.set c.toNat w).getD j []))/\∀j,j<(c+1).toNat->∃X:Nat->Rat,Vx n X ((o.set c.toNat w).getD j [])/\(∀k:Nat,1<=k->S4 k A->S4 k (R,C,D)->∀i,i<n->qs (rY k n) (X i))/\∀i,i<n->B7 n (λt=>el A i t*X t)= -el (R,C,D) i j:=λw c0=>by
      refine⟨by rw[qW];exact V,λj h aw=>?_,λj h=>?_⟩
      . rw[F2 ω];exact ba j ω aw
      by_cases O:j=c.toNat
      . subst O;rw[C4 ω];exact c0
      rw[F2 O];exact a2 j ω
     refine⟨λp=>p.1.length=C.toNat/\(∀j,(c+1).toNat<=j->j<C.toNat->Vx n (λi=>el (R,C,D) i j) (p.1.getD j []))/\∀j,j<(c+1).toNat->∃X:Nat->Rat,Vx n X (p.1.getD j [])/\(∀k:Nat,1<=k->S4 k A->S4 k (R,C,D)->∀i,i<n->qs (rY k n) (X i))/\∀i,i<n->B7 n (λt=>el A i t*X t)= -el (R,C,D) i j,⟨⟨ao,ω⟩,λai=>?_,λai=>?_⟩,?_⟩
     . have ai:=qA ai;have bq:o.getD c.toNat []= []:=qM (Int.ofNat_eq_zero.1 ai);have cz:∀i,i<n->el (R,C,D) i c.toNat=0:=λi f=>by
        have:=a5.2.2 i f;rw[bq]at this;exact this.symm
       have:=step [] ⟨λ_=>0,⟨Iu,λ_ y=>(by cases y),λi _=>rfl⟩,λk _ _ _ i _=>N7 (by unfold rY tR;omega),λi f=>by
        rw[cz i f];exact(U3 λt _=>sN _).trans (by decide+kernel)⟩
       rwa[show o.set c.toNat []=o from by
        rw[<-bq];exact g0e (by simp) λi B G=>by
         rw[g1w];split
         . rename_i r;subst r;rw[H2 _ _ G]
         rfl]at this
     . have bz:F1 (o.getD c.toNat []) R:=by rw[cg];exact CW a5
       have bn:=TL a5;have cw:LE s (o.getD c.toNat []):=Tt a5.1 λj=>by
        rw[Qw a5];split
        . exact b3 _ _
        exact N7 ω
       refine⟨⟨⟨bz.1,λe r=>G7 (cw e r) ω,ω⟩,bz,bb,cc⟩,?_⟩;rintro⟨(b:List D4),(d6:Bool),_⟩ _ ⟨au,bt⟩;simp only at au bt|-;subst bt;refine⟨λy=>(by cases y),λ_=>?_⟩;have cj:b.length=n:=by rw[au];unfold dl;rw[tI,g1o];omega
       have af:∀i,i<n->b.getD i zr=rc (el (R,C,D) i c.toNat):=λi f=>by
        rw[au];unfold dl;rw[qE,wT,yX ω];show rc (A4 (o.getD c.toNat []) (i:Int))= _;rw[a5.2.2 i f]
       have ck:eV s b:=λe r=>by
        obtain⟨i,f,rfl⟩:=T2 zr r;rw[af i ω];exact So (b3 _ _)
       have bh:B7m (rY s n) J b:=by
        have:=A4v (s:=s) (s1:=s) ay ω (λj h=>by rw[af _ (ab j ω).2,L5];exact b3 _ _) (qU _) (λi j f h=>by rw[a0]at f h|-;rw[b1 i j f h];exact a9 _ _ (ab i f).2 (b6 j h).2);rw[a0]at this;exact this
       have cs:s<=rY s n\/n=0:=by
        by_cases O:n=0
        . exact .inr O
        have:=(B2y (s:=s) (n:=n) ω).1;unfold rY;exact .inl ω
       have bs:∀T Y:Nat,T<=268435456->Y<=268435456->Y+n*(T+Y+1)+T<=K1:=λT Y B G=>by
        have:=uZ bp (ω:T+Y+1<=536870913);omega
       refine⟨⟨ω,d3,d4,λ_ _=>?_⟩,?_⟩
       . rw[a0];rcases cs with y|y
         . exact⟨rY s n,s,rY s n,by unfold rY;omega,ω,y,b7,b8,ck,bh,bs _ _ a6 a6⟩
         subst y;refine⟨rY s 0,1,rY s 0,by unfold rY;omega,δ,by unfold rY;omega,b7,b8,λe r=>?_,bh,bs _ _ a6 a6⟩;rw[qM cj]at r;cases r
       rintro⟨(X:List D4),(ap:Int),_⟩ _ ⟨_,ch⟩;obtain⟨N,ac,an,bf⟩:=(ch ay).2 ω;simp only at N ac an bf|-;subst N;refine⟨λy=>absurd rfl (qA y),λ_=>?_⟩;have cv:∀i,i<n->B7 n (λt=>el A i t*rv (X.getD t zr))=el (R,C,D) i c.toNat:=λi f=>by
        obtain⟨aw,bm,rfl⟩:=Cz (λa O=>(ab a O).2) d0 f;have B:=bf aw ω;rw[a0,af _ (ab aw bm).2,L5]at B;rw[<-B, <-B7d (λa O=>(b6 a O).2) c5];exact A8 λj h=>by rw[b1 aw j bm h]
       have bj:∀k:Nat,1<=k->S4 k A->S4 k (R,C,D)->∀i,i<n->qs (rY k n) (rv (X.getD i zr)):=λk B G Z i f=>by
        obtain⟨j,h,rfl⟩:=Cz (λa O=>(b6 a O).2) c5 f;have:=A4v (s:=k) (s1:=k) (b:=b) ay ω (λj h=>by rw[af _ (ab j ω).2,L5];exact VM z (CV a4) Z B _ _) (qU _) (λi j f h=>by rw[a0]at f h|-;rw[b1 i j f h];exact VM be (CV a3) G B _ _);rw[a0]at this;exact this.2 (λj=>rv (X.getD (ix J.2.1 j) zr)) bf j ω
       have bi:=bj s bw ak am;have ci:eV K1 X:=λe r=>by
        obtain⟨i,f,rfl⟩:=T2 zr r;rw[an _ r];exact So (H4 (bi i ω) ω)
       refine⟨⟨ω,ci⟩,?_⟩;rintro⟨(u:List C8),_⟩ _ a1;simp only at a1|-;have dk:=TL a1;have cx:LE (rY s n) u:=Tt a1.1 λj=>by
        rw[Qw a1];split
        . exact bi _ ω
        exact N7 (by unfold rY;omega)
       refine⟨⟨by rw[YC];exact So (H4 (HV (a:= -1) δ) δ),(CW a1).1,λe r=>G7 (cx e r) ω,ω⟩,?_⟩;rintro⟨(w:List C8),_⟩ _ b5;simp only at b5|-;have co:rv (ri (-1))= -1:=by rw[YC,L5];rfl
       rw[co]at b5;refine⟨⟨ao,ω⟩,step w ⟨λi=> -rv (X.getD i zr),TK b5 (λi f=>?_) (λj h=>?_),λk B G Z i f=>iS (bj k B G Z i f),λi f=>?_⟩⟩
       . rw[Qw a1,qL ω,sN]
       . rw[a1.2.2 j ω];grind
       rw[<-cv i f,A8 (g:=λt=> -1*(el A i t*rv (X.getD t zr))) λt _=>by grind,Jc];grind
     rintro⟨w,_⟩ _ ⟨c2,c3,c4⟩;change List (List C8)at w;simp only at c2 c3 c4|-;exact⟨⟨ω,ω,c2,c3,c4⟩,ω⟩
   have a7:=qB a7;rw[(ω:c.toNat=C.toNat)]at a2;have bg:Ed C.toNat n (λj i=>el (C,R,o) j i) (C,R,o):=⟨by show C= _;omega,by show R= _;omega,V,λj h=>by
    obtain⟨X,N,_⟩:=a2 j h;exact⟨N.1,N.2.1,λi _=>rfl⟩⟩
   have cp:S4 (rY s n) (C,R,o):=Gg bg (by unfold rY;omega) λj i h f=>by
    obtain⟨X,N,ac,_⟩:=a2 j h;show qs _ (A4 (o.getD j []) (i:Int));rw[N.2.2 i f];exact ac s bw ak am i f
   refine⟨λM z e r=>G7 (cp M z e r) ω,?_⟩;rintro⟨(m:J1),(aq:Int),_⟩ _ ⟨_,cn⟩;obtain⟨c6,c7⟩:=cn (Z7 bg ω ω);simp only at c6 c7|-;have b9:Ed n C.toNat (λi j=>el (C,R,o) j i) m:=by rw[(ω:n=R.toNat)];exact c6
   refine⟨⟨λy=>absurd (by rw[E,qO];exact ag) y,λ_=>⟨c7,?_,λi j f h=>?_,λk B G Z i j f h=>?_⟩⟩⟩
   . rw[E,qO];exact JZ b9
   . rw[E,qO]at f|-;obtain⟨X,N,_,an⟩:=a2 j h;rw[<-an i f];exact A8 λt F=>by
      rw[Z6 b9 F h];show _ *A4 (o.getD j []) (t:Int)= _;rw[N.2.2 t F]
   rw[E,qO]at f|-;obtain⟨X,N,ac,_⟩:=a2 j h;rw[Z6 b9 f h];show qs _ (A4 (o.getD j []) (i:Int));rw[N.2.2 i f];exact ac k B G Z i f
 obtain⟨ap,aq⟩:=Q.1 ag;subst aq;refine⟨λ_=>⟨⟨λ_=>⟨rfl,rfl⟩,λy=>absurd (by rw[E,qO]at y;exact y) ag⟩⟩,λy=>?_⟩;exact absurd (qB y) δ
def Tq:An:= {join:= [(28,⟨[2,4,12,13,84],[0,1],[(85,false,vI)],[(3,94,[.val qb, .val qb, .val qj, .val qb, .val qb, .val qj, .val qb, .val qb, .val qj, .val qb, .val qb, .val qj])],[]⟩)],loop:= [(6,⟨[1,2,4,32,33],[0,1],[(34,false,vI)],[],[]⟩),(13,⟨[2,4,8,51,52],[0,1],[(53,false,vI)],[],[(2, .row .bool 4)]⟩),(22,⟨[2,4,12,13,84],[0,1],[(85,false,vI)],[(3,94,[.val qb, .val qb, .val qj, .val qb, .val qb, .val qj, .val qb, .val qb, .val qj, .val qb, .val qb, .val qj])],[]⟩)],plan:= [(35,[1,3],[9],true, .done)],spl:= [(23,85,4)]}
abbrev B8a:=Int×Int×Int×List (List EE)×Int×Int×List (List EE)×Int×Int×List (List EE)×Int×Int×List (List EE)×Unit
def Hf(x:MM×Wf×Unit):Prop:=let h:=(4:Int);let o:=(x.2.1.length:Int);let Y:=(1000:Nat);let X:=(↑(0:Nat):Int);let W:=(↑(3:Nat):Int);let U:=(↑(1:Nat):Int);let S:=(↑(2:Nat):Int);let R:=(1:Int);let P:=(↑(4:Nat):Int);let O:=(16384:Nat);let H:=(0:Int);let C:(Mq)->Prop:=(λa=>a.1=zm/\a.2.1=8);let B:(Mq)->Prop:=(λa=>a.1=zm/\a.2.1=3);let a0:Prop:=(H<=W/\W<P);let u:Prop:=(H<=S/\S<P);let v:Prop:=(H<=U/\U<P);let q:Prop:=(H<=X/\X<P);let k:(Mq)->Prop:=(λa=>¬A7 x.1->a.1=zm/\a.2.1=R);let d:Prop:=(H<=R/\R<S);let f:Prop:=(H<=H/\H<S);let b:(Mq)->Prop:=(λa=>decide (a.2.1≠H)=true->Ni x.1 x.2.1 ([],(H,H,[]),H,H,[]) a.2.1);True/\Od λr=>r.1=decide (A7 x.1)->(iB ((!r.1)) (Ni x.1 x.2.1 ([],(H,H,[]),H,H,[]) R) ((iB (decide (x.1.1≠x.1.2.1)) (Ni x.1 x.2.1 ([],(H,H,[]),H,H,[]) h) (∃(I:D8->Prop),∃(g: _->Nat),I (H,())/\∀(p:D8),let j:=(i64.wrap (p.1+R),());let G:Prop:=(gx H x.2.1 p.1<H);let F:Prop:=(x.1.1<=gx H x.2.1 p.1);let m:Prop:=(p.1<o);(Ty.int i64).wf p.1/\True->I p->(iB (decide m) ((H<=p.1/\m)/\(iB (M0 (decide G) true (decide F)) (Ni x.1 x.2.1 ([],(H,H,[]),H,H,[]) (12:Int)) (I j/\g j<g p))) ((H<=x.1.1/\x.1.1<=x.1.1/\U*x.1.1<=281474976710656/\x.1.1<=9223372036854775807)/\∃(I:A7u->Prop),∃(g: _->Nat),I (H,List.replicate x.1.1.toNat false,())/\∀(p:A7u),let l:=(gx H x.2.1 p.1);let j:=p.2.1.length;let T:=(i64.wrap (p.1+R),List.set p.2.1 l.toNat true,());let t:Prop:=(p.1<o);let o:Prop:=(H<=gx H x.2.1 p.1/\gx H x.2.1 p.1<(↑j:Int));(Ty.int i64).wf p.1/\(List.length p.2.1<=9223372036854775807/\∀(x:Bool),x∈p.2.1->True)/\True->I p->(iB (decide t) ((H<=p.1/\t)/\o/\(iB (List.getD p.2.1 l.toNat false) (Ni x.1 x.2.1 ([],(H,H,[]),H,H,[]) (10:Int)) (o/\I T/\g T<g p))) (List.length p.2.1<=100000/\∀(r:Eh),let Z:=r.1.length;let V:=r.2.1.length;let E:Prop:=(List.length r.1<=Y/\List.Nodup r.1);let D:Prop:=(List.length r.2.1<=Y/\List.Nodup r.2.1);let e:Prop:=(∃(i:Int),i∈r.1/\(i<H\/x.1.1<=i));let z:Prop:=(e\/∃(i:Int),i∈r.1/\(i<H\/x.1.2.1<=i));let w:Prop:=(e\/∃(i:Int),i∈r.2.1/\(i<H\/x.1.2.1<=i));let l:Prop:=(∃(i:Int),i∈r.2.1/\(i<H\/x.1.1<=i));let A:Prop:=(l\/∃(i:Int),i∈r.1/\(i<H\/x.1.2.1<=i));let y:Prop:=(l\/∃(i:Int),i∈r.2.1/\(i<H\/x.1.2.1<=i));aD r.1/\aD r.2.1/\True->((r.1=F3 j fun(i:Nat)=>List.getD p.2.1 i false)/\r.2.1=F3 j fun(i:Nat)=> !List.getD p.2.1 i false)->∃(I:B8a->Prop),∃(g: _->Nat),I (H,H,H,[],H,H,[],H,H,[],H,H,[],())/\∀(p:B8a),let Q:=(p.2.1,p.2.2.1,p.2.2.2.1);let N:=(p.2.2.2.2.1,p.2.2.2.2.2.1,p.2.2.2.2.2.2.1);let M:=(p.2.2.2.2.2.2.2.1,p.2.2.2.2.2.2.2.2.1,p.2.2.2.2.2.2.2.2.2.1);let L:=(p.2.2.2.2.2.2.2.2.2.2.1,p.2.2.2.2.2.2.2.2.2.2.2.1,p.2.2.2.2.2.2.2.2.2.2.2.2.1);(Ty.int i64).wf p.1/\(Ty.int i64).wf p.2.1/\(Ty.int i64).wf p.2.2.1/\tE.sl.sl.wf p.2.2.2.1/\(Ty.int i64).wf p.2.2.2.2.1/\(Ty.int i64).wf p.2.2.2.2.2.1/\tE.sl.sl.wf p.2.2.2.2.2.2.1/\(Ty.int i64).wf p.2.2.2.2.2.2.2.1/\(Ty.int i64).wf p.2.2.2.2.2.2.2.2.1/\tE.sl.sl.wf p.2.2.2.2.2.2.2.2.2.1/\(Ty.int i64).wf p.2.2.2.2.2.2.2.2.2.2.1/\(Ty.int i64).wf p.2.2.2.2.2.2.2.2.2.2.2.1/\tE.sl.sl.wf p.2.2.2.2.2.2.2.2.2.2.2.2.1/\True->I p->(iB (decide (p.1<h)) (∃(J:B8a->Prop),(((0:(Ty.int i64).den)<=p.1/\p.1<P)/\(((True/\(p.1=X->q/\f/\d/\(S4 K1 x.1/\List.length r.1<=Y/\E)/\∀(a:Mq),jN a.1/\N8 a.2.1/\True->(k a)/\(A7 x.1->(z->B a)/\(¬z->(O<List.length r.1\/O<List.length r.1->C a)/\(List.length r.1<=O/\List.length r.1<=O->Ed Z Z (fun(i j:Nat)=>el x.1 (List.getD r.1 i H).toNat (List.getD r.1 j H).toNat) a.1/\a.2.1=H)))->(b a)/\(decide (a.2.1≠H)=false->q/\J (X,a.1.1,a.1.2.1,a.1.2.2,p.2.2.2.2.1,p.2.2.2.2.2.1,p.2.2.2.2.2.2.1,p.2.2.2.2.2.2.2.1,p.2.2.2.2.2.2.2.2.1,p.2.2.2.2.2.2.2.2.2.1,p.2.2.2.2.2.2.2.2.2.2.1,p.2.2.2.2.2.2.2.2.2.2.2.1,p.2.2.2.2.2.2.2.2.2.2.2.2.1,()))))/\(p.1=U->v/\f/\d/\(S4 K1 x.1/\List.length r.1<=Y/\D)/\∀(a:Mq),jN a.1/\N8 a.2.1/\True->(k a)/\(A7 x.1->(w->B a)/\(¬w->(O<List.length r.1\/O<List.length r.2.1->C a)/\(List.length r.1<=O/\List.length r.2.1<=O->Ed Z V (fun(i j:Nat)=>el x.1 (List.getD r.1 i H).toNat (List.getD r.2.1 j H).toNat) a.1/\a.2.1=H)))->(b a)/\(decide (a.2.1≠H)=false->v/\J (U,p.2.1,p.2.2.1,p.2.2.2.1,a.1.1,a.1.2.1,a.1.2.2,p.2.2.2.2.2.2.2.1,p.2.2.2.2.2.2.2.2.1,p.2.2.2.2.2.2.2.2.2.1,p.2.2.2.2.2.2.2.2.2.2.1,p.2.2.2.2.2.2.2.2.2.2.2.1,p.2.2.2.2.2.2.2.2.2.2.2.2.1,()))))/\(p.1=S->u/\f/\d/\(S4 K1 x.1/\List.length r.2.1<=Y/\E)/\∀(a:Mq),jN a.1/\N8 a.2.1/\True->(k a)/\(A7 x.1->(A->B a)/\(¬A->(O<List.length r.2.1\/O<List.length r.1->C a)/\(List.length r.2.1<=O/\List.length r.1<=O->Ed V Z (fun(i j:Nat)=>el x.1 (List.getD r.2.1 i H).toNat (List.getD r.1 j H).toNat) a.1/\a.2.1=H)))->(b a)/\(decide (a.2.1≠H)=false->u/\J (S,p.2.1,p.2.2.1,p.2.2.2.1,p.2.2.2.2.1,p.2.2.2.2.2.1,p.2.2.2.2.2.2.1,a.1.1,a.1.2.1,a.1.2.2,p.2.2.2.2.2.2.2.2.2.2.1,p.2.2.2.2.2.2.2.2.2.2.2.1,p.2.2.2.2.2.2.2.2.2.2.2.2.1,()))))/\(p.1=W->a0/\f/\d/\(S4 K1 x.1/\List.length r.2.1<=Y/\D)/\∀(a:Mq),jN a.1/\N8 a.2.1/\True->(k a)/\(A7 x.1->(y->B a)/\(¬y->(O<List.length r.2.1\/O<List.length r.2.1->C a)/\(List.length r.2.1<=O/\List.length r.2.1<=O->Ed V V (fun(i j:Nat)=>el x.1 (List.getD r.2.1 i H).toNat (List.getD r.2.1 j H).toNat) a.1/\a.2.1=H)))->(b a)/\(decide (a.2.1≠H)=false->a0/\J (W,p.2.1,p.2.2.1,p.2.2.2.1,p.2.2.2.2.1,p.2.2.2.2.2.1,p.2.2.2.2.2.2.1,p.2.2.2.2.2.2.2.1,p.2.2.2.2.2.2.2.2.1,p.2.2.2.2.2.2.2.2.2.1,a.1.1,a.1.2.1,a.1.2.2,()))))/\∀(d:B8a),let K:=(i64.wrap (d.1+R),d.2.1,d.2.2.1,d.2.2.2.1,d.2.2.2.2.1,d.2.2.2.2.2.1,d.2.2.2.2.2.2.1,d.2.2.2.2.2.2.2.1,d.2.2.2.2.2.2.2.2.1,d.2.2.2.2.2.2.2.2.2.1,d.2.2.2.2.2.2.2.2.2.2.1,d.2.2.2.2.2.2.2.2.2.2.2.1,d.2.2.2.2.2.2.2.2.2.2.2.2.1,());(Ty.int i64).wf d.1/\(Ty.int i64).wf d.2.1/\(Ty.int i64).wf d.2.2.1/\tE.sl.sl.wf d.2.2.2.1/\(Ty.int i64).wf d.2.2.2.2.1/\(Ty.int i64).wf d.2.2.2.2.2.1/\tE.sl.sl.wf d.2.2.2.2.2.2.1/\(Ty.int i64).wf d.2.2.2.2.2.2.2.1/\(Ty.int i64).wf d.2.2.2.2.2.2.2.2.1/\tE.sl.sl.wf d.2.2.2.2.2.2.2.2.2.1/\(Ty.int i64).wf d.2.2.2.2.2.2.2.2.2.2.1/\(Ty.int i64).wf d.2.2.2.2.2.2.2.2.2.2.2.1/\tE.sl.sl.wf d.2.2.2.2.2.2.2.2.2.2.2.2.1/\True->J d->I K/\g K<g p) ((H<=H/\H<P)/\(H<=R/\R<P)/\(∃(n:Nat),∃(k:Nat),∃(s:Nat),Ed n n (el Q) Q/\Ed n k (el N) N/\n<=(900:Nat)/\k<=(900:Nat)/\(1:Nat)<=s/\S4 s Q/\S4 s N/\rY s n<=(268435456:Nat))/\∀(a:Mq),jN a.1/\N8 a.2.1/\True->jY Q N a.1 a.2.1->(b a)/\(decide (a.2.1≠H)=false->(H<=(2:Int)/\(2:Int)<P)/\(S4 K0 M/\S4 K0 a.1/\p.2.2.2.2.2.2.2.2.1<=1000)/\∀(f:Mq),let c:(F5)->Prop:=(λg=>S4 K1 L/\sz K1 g.1/\S4 K1 f.1);let l:(F5)->(Mq)->Prop:=(λg d=>jN d.1/\N8 d.2.1/\True->(¬(A7 L/\A7 f.1)->d.1=zm/\d.2.1=R)/\(A7 L/\A7 f.1->(¬(p.2.2.2.2.2.2.2.2.2.2.1=f.1.1/\p.2.2.2.2.2.2.2.2.2.2.2.1=f.1.2.1)->d.1=zm/\d.2.1=h)/\(p.2.2.2.2.2.2.2.2.2.2.1=f.1.1/\p.2.2.2.2.2.2.2.2.2.2.2.1=f.1.2.1->Ed p.2.2.2.2.2.2.2.2.2.2.1.toNat p.2.2.2.2.2.2.2.2.2.2.2.1.toNat (fun(i j:Nat)=>el L i j+rv g.1*el f.1 i j) d.1/\d.2.1=H))->(iB (decide (d.2.1≠H)) (Ni x.1 x.2.1 ([],(H,H,[]),H,H,[]) d.2.1) (Ni x.1 x.2.1 (r.2.1,d.1,a.1) H)));jN f.1/\N8 f.2.1/\True->(¬(A7 M/\A7 a.1)->f.1=zm/\f.2.1=R)/\(A7 M/\A7 a.1->(p.2.2.2.2.2.2.2.2.1≠a.1.1->f.1=zm/\f.2.1=h)/\(p.2.2.2.2.2.2.2.2.1=a.1.1->Ed p.2.2.2.2.2.2.2.1.toNat a.1.2.1.toNat (fun(i j:Nat)=>B7 p.2.2.2.2.2.2.2.2.1.toNat fun(k:Nat)=>el M i k*el a.1 k j) f.1/\f.2.1=H))->(iB (decide (f.2.1≠H)) (Ni x.1 x.2.1 ([],(H,H,[]),H,H,[]) f.2.1) ((H<=(3:Int)/\(3:Int)<P)/\(True/\P6 λg=>g.1=ri R->((c g)/\∀(d:Mq),l g d)/\(c g)/\∀(d:Mq),l g d)/\True/\P6 λg=>g.1=ri R->(c g)/\∀(d:Mq),l g d)))))))))))))
def A4a {n:Nat} {A B:Nat->Nat->Rat} (h:∀i j,i<n->j<n->A i j=B i j) (b:nonsing n A):nonsing n B:=λx c=>b x λi a=>by
 rw[<-c i a];exact A8 λj b=>by rw[h i j a b]
def C0a {M:J1} {s:Nat} (b:A7 M) (f:1<=s) (g:S4 s M) (a:rY s M.1.toNat<=268435456):∃s,1<=s/\s<=134217728/\S4 s M/\rY s M.1.toNat<=268435456:=by
 by_cases c:M.1.toNat=0
 . refine⟨1,δ,δ,λv h=>?_,by rw[c];decide⟩;have d:=b.2.2.2.2.1;have i:=b.1;rw[qM (l:=M.2.2) ω]at h;cases h
 have d:=(B2y (s:=s) (n:=M.1.toNat) ω).1;unfold rY at a;exact⟨s,f,ω,g,a⟩
def B6x {s a n:Nat} (h:a<=n):rY s a<=rY s n:=by
 have:=TU (s:=s) h (ω:a+1<=n+1);unfold rY;omega
def prt (M:J1) (P Q:Wf) (r c:Int) (D:List (List C8)):Prop:=Ed P.length Q.length (Eg M P Q) (r,c,D)
set_option maxHeartbeats 4000000 in
def Np:sr P9 Hf:=λx b2 bw=>by
 have ca:K1=549755813888:=rfl;have cb:K0=1073741824:=rfl;obtain⟨(M:J1),(F6:Wf),_⟩:=x;obtain⟨ci,b1,bx,bb,aw⟩:aU M:=bw;have bu:WH M:=CZ b2.1.2.2.2;have cd:F6.length<=9223372036854775807:=b2.2.1.1;simp only[Hf,iB,P6,Od];refine⟨trivial,?_⟩;rintro⟨r,_⟩ _ Y;simp only at Y|-;by_cases g:A7 M
 rotate_left
 . have Y:r=false:=by rw[Y];exact rI g
   rw[Y];exact⟨λ_=>⟨⟨λ_=>⟨rfl,rfl⟩,λh=>absurd h g⟩⟩,λh=>(by cases h)⟩
 have Y:r=true:=by rw[Y];exact rF g
 rw[Y];refine⟨λh=>(by cases h),λ_=>⟨λh=>?_,λh=>?_⟩⟩
 . have h:=qA h;exact⟨⟨λk=>absurd g k,λ_=>⟨λ_=>⟨rfl,rfl⟩,λN=>absurd N h⟩⟩⟩
 have a9:M.1=M.2.1:=tS.1 (qB h);obtain⟨cf,au⟩:=aw g a9;obtain⟨s,Z,cg,ba,bo⟩:=C0a g b1 bb au;clear b1 bx bb aw au;have bn:0<=M.1:=g.1;have cc:M.1=(M.1.toNat:Int):=ω
 have ak:∀ {e:Int},(Ni M F6 ([],(0,0,[]),0,0,[]) e)↔C3u M F6 zR e:=⟨λh=>h.s,λh=>⟨h⟩⟩;refine⟨λp=>0<=p.1/\p.1<=(F6.length:Int)/\∀t∈F6.take p.1.toNat,0<=t/\t<M.1,λp=>((F6.length:Int)-p.1).toNat,⟨qH _,qF _,λt A=>(by cases A)⟩,?_⟩;rintro⟨(i:Int),_⟩ _ ⟨T,aa,X⟩;simp only at T aa X|-;refine⟨λh=>?_,λh=>?_⟩
 . have h:=qA h;rw[L3 T h,H5];have l:F6.getD i.toNat 0∈F6:=E2 ω;refine⟨⟨T,h⟩,λn=>?_,λn=>?_⟩
   . simp only[uE,rU]at n;exact ak.2 ⟨λk=>absurd g k,λ_=>⟨λN=>absurd a9 N,λ_=>⟨λ_=>⟨rfl,rfl⟩,λae=>by have:=ae _ l;omega⟩⟩⟩
   simp only[rE,rO]at n;rw[wv ω];refine⟨⟨ω,ω,λt A=>?_⟩,ω⟩;rw[(ω:(i+1).toNat=i.toNat+1),rP,qN ω]at A;rcases qS.1 A with A|A
   . exact X t A
   have:t=F6.getD i.toNat 0:=by rw[H2 _ _ ω];simpa using A
   rw[this];omega
 have h:=qB h;rw[qQ ω]at X;clear T aa h;refine⟨⟨bn,qH _,ω,ω⟩,?_⟩;refine⟨λp=>0<=p.1/\p.1<=(F6.length:Int)/\p.2.1.length=M.1.toNat/\(F6.take p.1.toNat).Nodup/\∀b,b<M.1.toNat->p.2.1.getD b false=decide ((b:Int)∈F6.take p.1.toNat),λp=>((F6.length:Int)-p.1).toNat,⟨qH _,qF _,rK,wF,λb O=>?_⟩,?_⟩
 . rw[qE,vE,qT O];exact(rI λn=>by cases n).symm
 rintro⟨(i:Int),(S:List Bool),_⟩ _ ⟨T,aa,sl,a7,a0⟩;simp only at T aa sl a7 a0|-;refine⟨λh=>?_,λh=>?_⟩
 . have h:=qA h;have l:F6.getD i.toNat 0∈F6:=E2 ω;have A:=X _ l;rw[L3 T h];have aq:F6.take (i+1).toNat=F6.take i.toNat++ [F6.getD i.toNat 0]:=by
    rw[(ω:(i+1).toNat=i.toNat+1),rP,qN ω,H2 _ _ ω];rfl
   generalize F6.getD i.toNat 0=t at*;have an:=a0 t.toNat ω;rw[(ω:((t.toNat:Nat):Int)=t)]at an;refine⟨⟨T,h⟩,⟨A.1,ω⟩,λy=>?_,λy=>⟨⟨A.1,ω⟩,?_⟩⟩
   . rw[an]at y;have ao:=qA y;refine ak.2 ⟨λk=>absurd g k,λ_=>⟨λN=>absurd a9 N,λ_=>⟨fun⟨a4,hg',ae⟩=>by have:=X a4 hg';omega,λ_=>⟨λ_=>⟨rfl,rfl⟩,λa5=>?_⟩⟩⟩⟩;have W:(F6.take (i+1).toNat).Nodup:=a5.sublist (g1p _ _);rw[aq,sF]at W;exact absurd rfl (W.2.2 t ao t (zO _))
   rw[an]at y;have ao:=qB y;rw[wv ω];refine⟨⟨ω,ω,by rw[qW];exact sl,?_,λb O=>?_⟩,ω⟩
   . rw[aq,sF];exact⟨a7,wC _ _,λa a6 c R e=>by rw[qK.1 R]at e;exact ao (e▸a6)⟩
   rw[aq];by_cases av:b=t.toNat
   . subst av;rw[C4 ω];exact(rF (tA _ (by rw[(ω:((t.toNat:Nat):Int)=t)];exact zO _))).symm
   rw[F2 av,a0 b O];refine vT.2 ⟨λn=>sE _ n,λn=>?_⟩;rcases qS.1 n with n|n
   . exact n
   have:=qK.1 n;omega
 have h:=qB h;rw[qQ ω]at a7 a0;clear T aa h;refine⟨by rw[sl];omega,?_⟩;rintro⟨(G:Wf),(K:Wf),_⟩ _ ⟨hG,U⟩;simp only at hG U|-;have hG:G=Fg M F6:=by rw[hG,sl];exact Ks λi f=>a0 i f
 have U:K=NY M F6:=by rw[U,sl];exact Ks λi f=>by rw[a0 i f];rfl
 have ce:G.length+K.length=M.1.toNat:=by rw[hG,U];exact TG _ _
 have ag:∀i∈G,0<=i/\i<M.1:=λi f=>by rw[hG]at f;have:=Uh.1 f;omega
 have ah:∀i∈K,0<=i/\i<M.1:=λi f=>by rw[U]at f;have:=Uh.1 f;omega
 have b7:G.Nodup:=by rw[hG];exact CU _ _
 have b8:K.Nodup:=by rw[U];exact CU _ _
 have ai:S4 K1 M:=λa2 g e d=>G7 (ba a2 g e d) ω
 have a8:∀i j,qs s (el M i j):=λi j=>VM g bu ba Z i j
 have bm:∀ {r:Ql},nonsing G.length (Eg M G G)->OT M G K r->Ni M F6 r 0:=λV h=>⟨⟨λk=>absurd g k,λ_=>⟨λN=>absurd a9 N,λ_=>⟨fun⟨a4,hg',ae⟩=>by have:=X a4 hg';omega,λ_=>⟨λa5=>absurd a7 a5,λ_=>⟨λW=>absurd (by rw[<-hG];exact V) W,λ_=>⟨by rw[<-hG, <-U];exact h,rfl⟩⟩⟩⟩⟩⟩⟩
 have c2:¬nonsing G.length (Eg M G G)->Ni M F6 ([],(0,0,[]),0,0,[]) 6:=λV=>ak.2 ⟨λk=>absurd g k,λ_=>⟨λN=>absurd a9 N,λ_=>⟨fun⟨a4,hg',ae⟩=>by have:=X a4 hg';omega,λ_=>⟨λa5=>absurd a7 a5,λ_=>⟨λ_=>⟨rfl,rfl⟩,λW=>absurd (by rw[<-hG]at W;exact W) V⟩⟩⟩⟩⟩
 clear a0 hG U sl;have aj:∀ {P Q:Wf},(∀i∈P,0<=i/\i<M.1)->(∀i∈Q,0<=i/\i<M.1)->P.length<=1000->Q.length<=1000->∀ {r:J1} {e:Int},((¬A7 M->r=zm/\e=1)/\(A7 M->(((∃i∈P,i<0\/M.1<=i)\/∃i∈Q,i<0\/M.2.1<=i)->r=zm/\e=3)/\(¬((∃i∈P,i<0\/M.1<=i)\/∃i∈Q,i<0\/M.2.1<=i)->((16384<P.length\/16384<Q.length)->r=zm/\e=8)/\(P.length<=16384/\Q.length<=16384->Ed P.length Q.length (λi j=>el M (P.getD i 0).toNat (Q.getD j 0).toNat) r/\e=0))))->Ed P.length Q.length (Eg M P Q) r/\e=0:=λhP hQ lP lQ r e h=>by
  have:=((h.2 g).2 (λn=>by
   rcases n with⟨i,f,h⟩ | ⟨i,f,h⟩
   . have:=hP i f;omega
   have:=hQ i f;omega)).2 ⟨ω,ω⟩
  exact this
 refine⟨λp=>0<=p.1/\p.1<=4/\(0<p.1->prt M G G p.2.1 p.2.2.1 p.2.2.2.1)/\(1<p.1->prt M G K p.2.2.2.2.1 p.2.2.2.2.2.1 p.2.2.2.2.2.2.1)/\(2<p.1->prt M K G p.2.2.2.2.2.2.2.1 p.2.2.2.2.2.2.2.2.1 p.2.2.2.2.2.2.2.2.2.1)/\(3<p.1->prt M K K p.2.2.2.2.2.2.2.2.2.2.1 p.2.2.2.2.2.2.2.2.2.2.2.1 p.2.2.2.2.2.2.2.2.2.2.2.2.1),λp=>(4-p.1).toNat,⟨qH _,δ,λh=>absurd h δ,λh=>absurd h δ,λh=>absurd h δ,λh=>absurd h δ⟩,?_⟩;rintro⟨(c:Int),(a3:Int),(ab:Int),D0,(ar:Int),(c1:Int),D1,(a1:Int),(J:Int),D2,(u:Int),(o:Int),D3,_⟩ _ ⟨b9,bz,D,F,z,H⟩;change List (List C8)at D0 D1 D2 D3;simp only at b9 bz D F z H|-;refine⟨λh=>?_,λh=>?_⟩
 . have h:=qA h;refine⟨λp=>p.1=c/\(0<c+1->prt M G G p.2.1 p.2.2.1 p.2.2.2.1)/\(1<c+1->prt M G K p.2.2.2.2.1 p.2.2.2.2.2.1 p.2.2.2.2.2.2.1)/\(2<c+1->prt M K G p.2.2.2.2.2.2.2.1 p.2.2.2.2.2.2.2.2.1 p.2.2.2.2.2.2.2.2.2.1)/\(3<c+1->prt M K K p.2.2.2.2.2.2.2.2.2.2.1 p.2.2.2.2.2.2.2.2.2.2.2.1 p.2.2.2.2.2.2.2.2.2.2.2.2.1),⟨⟨b9,h⟩,⟨⟨⟨trivial,λR=>?_⟩,λR=>?_⟩,λR=>?_⟩,λR=>?_⟩,?_⟩
   . refine⟨⟨δ,δ⟩,⟨δ,δ⟩,⟨δ,δ⟩,⟨ai,ω,ω,b7⟩,?_⟩;rintro⟨m,e,_⟩ _ l;obtain⟨B,d⟩:=aj ag ag ω ω l;simp only at B d|-;subst d R;exact⟨λh=>absurd rfl (qA h),λ_=>⟨⟨δ,δ⟩,rfl,λ_=>B,λh=>absurd h δ,λh=>absurd h δ,λh=>absurd h δ⟩⟩
   . refine⟨⟨δ,δ⟩,⟨δ,δ⟩,⟨δ,δ⟩,⟨ai,ω,ω,b8⟩,?_⟩;rintro⟨m,e,_⟩ _ l;obtain⟨B,d⟩:=aj ag ah ω ω l;simp only at B d|-;subst d R;exact⟨λh=>absurd rfl (qA h),λ_=>⟨⟨δ,δ⟩,rfl,λ_=>D δ,λ_=>B,λh=>absurd h δ,λh=>absurd h δ⟩⟩
   . refine⟨⟨δ,δ⟩,⟨δ,δ⟩,⟨δ,δ⟩,⟨ai,ω,ω,b7⟩,?_⟩;rintro⟨m,e,_⟩ _ l;obtain⟨B,d⟩:=aj ah ag ω ω l;simp only at B d|-;subst d R;exact⟨λh=>absurd rfl (qA h),λ_=>⟨⟨δ,δ⟩,rfl,λ_=>D δ,λ_=>F δ,λ_=>B,λh=>absurd h δ⟩⟩
   . refine⟨⟨δ,δ⟩,⟨δ,δ⟩,⟨δ,δ⟩,⟨ai,ω,ω,b8⟩,?_⟩;rintro⟨m,e,_⟩ _ l;obtain⟨B,d⟩:=aj ah ah ω ω l;simp only at B d|-;subst d R;exact⟨λh=>absurd rfl (qA h),λ_=>⟨⟨δ,δ⟩,rfl,λ_=>D δ,λ_=>F δ,λ_=>z δ,λ_=>B⟩⟩
   rintro⟨(be:Int),ch⟩ _ ⟨e,b3,b4,b5,b6⟩;simp only at e b3 b4 b5 b6|-;subst e;rw[wv ω];exact⟨⟨ω,ω,b3,b4,b5,b6⟩,ω⟩
 have h:=qB h;have D:Ed G.length G.length (Eg M G G) (a3,ab,D0):=D ω;have F:Ed G.length K.length (Eg M G K) (ar,c1,D1):=F ω;have z:Ed K.length G.length (Eg M K G) (a1,J,D2):=z ω;have H:Ed K.length K.length (Eg M K K) (u,o,D3):=H ω;have z0:S4 s (a3,ab,D0):=Gg D Z λi j _ _=>a8 _ _
 have bc:S4 s (ar,c1,D1):=Gg F Z λi j _ _=>a8 _ _
 have c7:S4 s (a1,J,D2):=Gg z Z λi j _ _=>a8 _ _
 have c8:S4 s (u,o,D3):=Gg H Z λi j _ _=>a8 _ _
 have bp:rY s G.length<=268435456:=qZ (B6x ω) bo;refine⟨⟨δ,δ⟩,⟨δ,δ⟩,⟨G.length,K.length,s,JZ D,JZ F,ω,ω,Z,z0,bc,bp⟩,?_⟩;rintro⟨(I:J1),(e:Int),_⟩ _ ⟨af⟩;have bf:a3.toNat=G.length:=by have:a3=(G.length:Int):=D.1;omega
 have bg:c1.toNat=K.length:=by have:c1=(K.length:Int):=F.2.1;omega
 simp only[C3t,bf,bg]at af|-;have am:∀i j,i<G.length->j<G.length->el (a3,ab,D0) i j=Eg M G G i j:=λi j f w=>Z6 D f w
 by_cases V:nonsing G.length (Eg M G G)
 rotate_left
 . obtain⟨_,d⟩:=af.1 λn=>V (A4a am n)
   subst d;exact⟨λ_=>c2 V,λh=>absurd (qB h) δ⟩
 obtain⟨d,O,bs,ay⟩:=af.2 (A4a (λi j f w=>(am i j f w).symm) V);subst d;clear af;have bt:∀i j,i<G.length->j<K.length->B7 G.length (λE=>Eg M G G i E*el I E j)= -Eg M G K i j:=λi j f w=>by
  have:=bs i j f w;rw[Z6 F f w,A8 λE y=>by rw[am i E f y]]at this;exact this
 have ax:=ay s Z z0 bc;have bq:S4 (rY s G.length) I:=Gg O (by unfold rY tR;omega) ax;refine⟨λh=>absurd rfl (qA h),λ_=>⟨⟨δ,δ⟩,⟨λa2 g e d=>G7 (c7 a2 g e d) ω,λa2 g e d=>G7 (bq a2 g e d) ω,by have:J=(G.length:Int):=z.2.1;omega⟩,?_⟩⟩;rintro⟨(v:J1),(e:Int),_⟩ _ az;have c3:A7 (a1,J,D2):=Z7 z ω ω;have c5:A7 I:=Z7 O ω ω;have bh:a1.toNat=K.length:=by have:a1=(K.length:Int):=z.1;omega
 have bi:J.toNat=G.length:=by have:J=(G.length:Int):=z.2.1;omega
 have bj:I.2.1.toNat=K.length:=by have:I.2.1=(K.length:Int):=O.2.1;omega
 obtain⟨l,d⟩:=(az.2 ⟨c3,c5⟩).2 (by have:J=(G.length:Int):=z.2.1;have:I.1=(G.length:Int):=O.1;omega);simp only[bh,bi,bj]at l d|-;subst d;clear az;have bv:S4 K1 v:=Gg l ω λi j f w=>by
  have k:∀E,E<G.length->qs (s+rY s G.length) (el (a1,J,D2) i E*el I E j):=λE y=>Pu (by rw[Z6 z f y];exact a8 _ _) (ax E j y w)
  refine H4 (A4r k) ?_;have:=uZ (ω:G.length<=900) (ω:s+rY s G.length+1<=402653185);omega
 have c9:S4 K1 (u,o,D3):=λa2 g e d=>G7 (c8 a2 g e d) ω
 have c4:A7 (u,o,D3):=Z7 H ω ω;have c6:A7 v:=Z7 l ω ω;have bk:u.toNat=K.length:=by have:u=(K.length:Int):=H.1;omega
 have bl:o.toNat=K.length:=by have:o=(K.length:Int):=H.2.1;omega
 have fin:∀one:D4,one=ri 1->((S4 K1 (u,o,D3)/\sz K1 one/\S4 K1 v)/\∀(r:J1) (e:Int),(¬(A7 (u,o,D3)/\A7 v)->r=zm/\e=1)/\(A7 (u,o,D3)/\A7 v->(¬(u=v.1/\o=v.2.1)->r=zm/\e=4)/\(u=v.1/\o=v.2.1->Ed u.toNat o.toNat (λi j=>el (u,o,D3) i j+rv one*el v i j) r/\e=0))->(decide (e≠0)=true->Ni M F6 ([],(0,0,[]),0,0,[]) e)/\(decide (e≠0)=false->Ni M F6 (K,r,I) 0)):=λone k=>by
  subst k;refine⟨⟨c9,by rw[YC];exact So (H4 (HV (a:=1) δ) δ),bv⟩,λr e h=>?_⟩;obtain⟨a6,d⟩:=(h.2 ⟨c4,c6⟩).2 ⟨by have:u=(K.length:Int):=H.1;have:v.1=(K.length:Int):=l.1;omega,by have:o=(K.length:Int):=H.2.1;have:v.2.1=(K.length:Int):=l.2.1;omega⟩;subst d;rw[bk,bl]at a6;refine⟨λh=>absurd rfl (qA h),λ_=>bm V ⟨rfl,JZ a6,O,bt,λi j f w=>?_,λc0 ap b0=>ay c0 ap (Gg D ap λi j _ _=>b0 _ _) (Gg F ap λi j _ _=>b0 _ _)⟩⟩;have k:rv (ri 1)=1:=by rw[YC,L5];rfl
  show el r i j= _;rw[Z6 a6 f w,k,uP,Z6 H f w,Z6 l f w];congr 1;exact A8 λE y=>by rw[Z6 z f y]
 refine⟨λh=>absurd rfl (qA h),λ_=>⟨⟨δ,δ⟩,⟨trivial,?_⟩,trivial,?_⟩⟩
 . rintro⟨one,_⟩ _ k;obtain⟨ac,ad⟩:=fin one k;exact⟨⟨ac,λr _ h=>ad r.1 r.2.1 h⟩,ac,λr _ h=>ad r.1 r.2.1 h⟩
 rintro⟨one,_⟩ _ k;obtain⟨ac,ad⟩:=fin one k;exact⟨ac,λr _ h=>ad r.1 r.2.1 h⟩
def JE:An:= {loop:= [(3,⟨[0,1],[],[(5,false,[.own qb 3]),(6,false,vI)],[(0,83,[.val qg, .val qb])],[]⟩)]}
def aK:An:= {}
def Om(x:C4e):Prop:=let f:=(140737488355328:Nat);let d:=(0:Int);let e:=d.toNat;∃(I:C1z->Prop),∃(h: _->Nat),I ([],d,x.1.1,x.1.2,())/\∀(p:C1z),let g:=(p.2.2.1.length:Int);let c:=(↑p.1.length:Int);(Ty.int i64).sl.wf p.1/\(Ty.int i64).wf p.2.1/\(Ty.int i64).sl.wf p.2.2.1/\(Ty.int i64).wf p.2.2.2.1/\True->I p->(iB (decide (p.2.1<x.2.1)) ((d<i64.wrap (p.2.1+1)/\d<=p.2.2.2.1/\p.2.2.2.1<=g)/\∀(r:D8) (o:PH),let b:=r.1.toNat;let a:=(List.drop e (List.take b p.1)++ [p.2.1]++List.drop b (List.take c.toNat p.1),i64.wrap (p.2.1+1),o.1.1,o.1.2,());N8 r.1/\True->((Ty.int i64).sl.pair (Ty.int i64)).wf o.1/\True->d<=r.1/\r.1<i64.wrap (p.2.1+1)->o.1.1=p.2.2.1/\d<=o.1.2/\o.1.2<=g->(d<=d/\d<=r.1/\r.1<=c)/\(((0:Nat)+(List.drop e (List.take b p.1)).length)*(8:Nat)<=f/\(0:Nat)+(List.drop e (List.take b p.1)).length<=9223372036854775807)/\(((List.drop e (List.take b p.1)).length+ [p.2.1].length)*(8:Nat)<=f/\(List.drop e (List.take b p.1)).length+ [p.2.1].length<=9223372036854775807)/\(d<=r.1/\r.1<=c/\c<=c)/\(((List.drop e (List.take b p.1)++ [p.2.1]).length+(List.drop b (List.take c.toNat p.1)).length)*(8:Nat)<=f/\(List.drop e (List.take b p.1)++ [p.2.1]).length+(List.drop b (List.take c.toNat p.1)).length<=9223372036854775807)/\I a/\h a<h p) (K2 p.1 x.2.1/\p.2.2.1=x.1.1/\d<=p.2.2.2.1/\p.2.2.2.1<=(↑x.1.1.length:Int)))
def GG(x:HZ):Prop:=let a:=(0:Int);True/\∀(r:PH),let b:=(r.1.1.length:Int);(aD r.1.1/\N8 r.1.2)/\True->r.1=(x.1,a)->(a<=x.2.1/\x.2.1<=100/\a<=r.1.2/\r.1.2<=b)/\∀(d:Mp) (o:PH),let c:=(o.1.1.length:Int);aD d.1/\True->((Ty.int i64).sl.pair (Ty.int i64)).wf o.1/\True->K2 d.1 x.2.1->o.1.1=r.1.1/\a<=o.1.2/\o.1.2<=b->(a<i64.wrap (x.2.1+1)/\a<=o.1.2/\o.1.2<=c)/\∀(r:D8) (e:PH),N8 r.1/\True->((Ty.int i64).sl.pair (Ty.int i64)).wf e.1/\True->a<=r.1/\r.1<i64.wrap (x.2.1+1)->e.1.1=o.1.1/\a<=e.1.2/\e.1.2<=c->(a<=a/\a<=r.1/\r.1<=(d.1.length:Int))/\(∀(g:Int),g∈List.drop a.toNat (List.take r.1.toNat d.1)->a<=g/\g<x.2.1)/\(List.drop a.toNat (List.take r.1.toNat d.1)).Nodup
def AW:sr Ae Om:=λx M A=>by
 obtain⟨⟨(l:Wf),(k:Int)⟩,(n:Int),_⟩:=x;obtain⟨I,P,G,H⟩:0<=n/\n<=100/\0<=k/\k<=(l.length:Int):=A;simp only[Om,iB];refine⟨λp=>0<=p.2.1/\p.2.1<=n/\K2 p.1 p.2.1/\p.2.2.1=l/\0<=p.2.2.2.1/\p.2.2.2.1<=(l.length:Int),λp=>(n-p.2.1).toNat,⟨qH _,I,⟨rfl,λi y=>(by cases y),wF⟩,rfl,G,H⟩,?_⟩;rintro⟨(o:Wf),(i:Int),N,(F:Int),_⟩ _ ⟨B,D,⟨v,b,g⟩,rfl,c,d⟩;simp only at B D v b g c d|-;refine⟨λh=>?_,λh=>?_⟩
 . have h:=qA h;rw[wv ω];refine⟨⟨ω,c,d⟩,?_⟩;rintro⟨(t:Int),_⟩ ⟨⟨Q,R⟩,_⟩ _ _ ⟨j,J⟩ ⟨r,s,u⟩;simp only at j J r s u|-;have w:(0:Int).toNat=0:=rfl;rw[w,tO,(ω:((o.length:Int)).toNat=o.length),qQ (qU _)];have lt:(o.take t.toNat).length<=100:=by rw[qY];omega
   have O:(o.drop t.toNat).length<=100:=by rw[sL];omega
   refine⟨⟨qH _,j,ω⟩,⟨ω,ω⟩,⟨by simp only[qX];omega,by simp only[qX];omega⟩,⟨j,ω,qH _⟩,⟨by simp only[rN,qX];omega,by simp only[rN,qX];omega⟩,⟨ω,ω,?_,r,s,u⟩,ω⟩;have f:(o.take t.toNat++ [i]++o.drop t.toNat).Perm (i::o):=by
    rw[uC,g3a];exact g4r.trans (by rw[tP])
   have z:i∉o:=λhh=>by have:=b i hh;omega
   refine⟨by rw[f.length_eq,rJ];omega,λE a=>?_,f.nodup_iff.2 (sP.2 ⟨z,g⟩)⟩;rcases qV.1 (f.mem_iff.1 a)with a|a
   . omega
   have:=b E a;omega
 have h:=qB h;have:i=n:=ω
 subst this;exact⟨⟨v,b,g⟩,by trivial,c,d⟩
def PN:sr Gv GG:=λx y o=>by
 obtain⟨(l:Wf),(n:Int),_⟩:=x;obtain⟨r,s⟩:0<=n/\n<=100:=o;simp only[GG];refine⟨trivial,?_⟩;rintro⟨⟨tl,ti⟩,_⟩ _ a;have a:(tl,ti)=(l,(0:Int)):=a;cases a;simp only;refine⟨⟨r,s,qH _,qF _⟩,?_⟩;rintro⟨(t:Wf),_⟩ ⟨⟨(tl:Wf),(ti:Int)⟩,_⟩ _ _ ⟨u,f,g⟩ ⟨b,c,d⟩;simp only at u f g b c d|-;subst b;rw[wv ω];refine⟨⟨ω,c,d⟩,?_⟩;rintro⟨(v:Int),_⟩ ⟨⟨z,A⟩,_⟩ _ _ ⟨h,w⟩ _;simp only at h w|-;have i:(0:Int).toNat=0:=rfl;rw[i,tO];exact⟨⟨qH _,h,ω⟩,λj k=>f j (rQ k),g.sublist (g1p _ _)⟩
def Lc:An:= {join:= [(17,⟨[10,12,16,58,59,60,65,66,67],[1,2],[(14,false,[.own qb 3])],[],[]⟩)],loop:= [(13,⟨[10,12,16,58,59,60,65,66],[1,2],[(14,false,[.own qb 3]),(67,false,vI)],[],[]⟩),(10,⟨[10,12,58,59],[1,2],[(14,false,[.own qb 3]),(60,false,vI)],[],[]⟩),(23,⟨[10,12,19,104,105],[1,2,4],[(106,false,vI)],[],[]⟩)],plan:= [(5,[0],[9],true, .done),(25,[5,11,14,16,19],[],true, .done)]}
abbrev A2f:=(Wf×MM×Int×Int×List (List EE))×Int×Unit
def Dp(x:C2a):Prop:=let o:=(1:Int);let m:=(0:Int);(o<=(5:Int)/\(5:Int)<=(20:Int))/\rT1 λr=>sqG (5:Int) r.1->(m<=r.1.1/\r.1.1<=100)/\∀(K:Mp),let l:=(K.1.length:Int);aD K.1/\True->(∀(g:Int),g∈K.1->m<=g/\g<r.1.1)/\K.1.Nodup->m<i64.wrap (l+o)/\Ef λL=>let y:=L.1.toNat;let q:=(↑(List.drop y (List.take l.toNat K.1)).length:Int);(m<i64.wrap (l+o)->m<=L.1/\L.1<i64.wrap (l+o)/\L.1=(u64.wrap (i64.wrap x.2.2.1)).tmod (i64.wrap (l+o)))->aU r.1/\∀(H:A2f),let C:=(decide (H.2.1≠m));let z:=(H.1.1.length:Int);let d:(A2f)->Prop:=(λF=>let D:=(decide (F.2.1≠m));let n:=(F.1.1.length:Int);(aD F.1.1/\jN F.1.2.1/\N8 F.1.2.2.1/\N8 F.1.2.2.2.1/\Kj F.1.2.2.2.2)/\N8 F.2.1/\True->Ni r.1 (List.drop m.toNat (List.take y K.1)) F.1 F.2.1->(iB (M0 C true D) (True/\Od λr=>r.1=true->r.1=true) ((m<=L.1/\L.1<=l/\l<=l)/\∃(I:HZ->Prop),∃(a: _->Nat),I ([],m,())/\∀(p:HZ),let g:Prop:=(p.2.1<q);(Ty.int i64).sl.wf p.1/\(Ty.int i64).wf p.2.1/\True->I p->(iB (decide g) ((m<=p.2.1/\p.2.1<q)/\∃(I_1:HZ->Prop),∃(f: _->Nat),I_1 (p.1,m,())/\∀(G:HZ),let w:=(G.1,i64.wrap (p.2.1+o),());let j:Prop:=(G.2.1<n);let c:Prop:=(gx m F.1.1 G.2.1=gx m (List.drop y (List.take l.toNat K.1)) p.2.1);(Ty.int i64).sl.wf G.1/\(Ty.int i64).wf G.2.1/\True->I_1 G->(iB (decide j) (∃(J:Mp->Prop),((m<=G.2.1/\G.2.1<n)/\(iB (decide c) (((G.1.length+ [G.2.1].length)*(8:Nat)<=(140737488355328:Nat)/\G.1.length+ [G.2.1].length<=9223372036854775807)/\J (G.1++ [G.2.1],())) (J (G.1,()))))/\∀(p:Mp),let u:=(p.1,i64.wrap (G.2.1+o),());(Ty.int i64).sl.wf p.1/\True->J p->I_1 u/\f u<f G) (I w/\a w<a p))) (aU F.1.2.1/\∀(r:A2f),let s:=(r.1.1.length:Int);let i:Prop:=(s≠z);(aD r.1.1/\jN r.1.2.1/\N8 r.1.2.2.1/\N8 r.1.2.2.2.1/\Kj r.1.2.2.2.2)/\N8 r.2.1/\True->Ni F.1.2.1 p.1 r.1 r.2.1->True/\Od λM=>let t:=(M0 (!M.1) true (decide (r.2.1≠m)));M.1=true->(iB (M0 t true (decide i)) (false=true) (∃(I:D8->Prop),∃(a: _->Nat),I (m,())/\∀(p:D8),let A:=(i64.wrap (p.1+o),());let k:Prop:=(p.1<s);let h:Prop:=(gx m F.1.1 (gx m r.1.1 p.1)≠gx m H.1.1 p.1);let f:Prop:=(gx m r.1.1 p.1<m);let b:Prop:=(n<=gx m r.1.1 p.1);let B:=(M0 (decide f) true (decide b));(Ty.int i64).wf p.1/\True->I p->(iB (decide k) ((m<=p.1/\p.1<s)/\(M0 (decide f) true (decide b)=false->m<=gx m r.1.1 p.1/\gx m r.1.1 p.1<n)/\(M0 (decide f) true (decide b)=false->m<=p.1/\p.1<z)/\(iB (M0 B true (decide h)) (false=true) (I A/\a A<a p))) (S4 K1 r.1.2.1/\Od λN=>(N.1=true↔r.1.2.1=H.1.2.1/\∀(v:List EE),v∈r.1.2.1.2.2->∀(e:EE),e∈v->e.2=rc (rv e.2))->N.1=true)))))))));(aD H.1.1/\jN H.1.2.1/\N8 H.1.2.2.1/\N8 H.1.2.2.2.1/\Kj H.1.2.2.2.2)/\N8 H.2.1/\True->Ni r.1 K.1 H.1 H.2.1->(m<=m/\m<=L.1/\L.1<=l)/\(aU r.1/\∀(F:A2f),d F)/\aU r.1/\∀(F:A2f),d F
def A7n {l:Wf} {i:Int} (a:0<=i) (b:i<(l.length:Int)):l.take (i+1).toNat=l.take i.toNat++ [l.getD i.toNat 0]:=by
 rw[(ω:(i+1).toNat=i.toNat+1),rP,qN ω,H2 _ _ ω];rfl
def C1s {M:J1} (h:sqG 5 M):∃n:Nat,n<=5/\M.1=(n:Int)/\M.2.1=(n:Int)/\A7 M/\(∀i j,qs 4 (el M i j))/\aU M:=by
 obtain⟨n,c,d,f,b,a⟩:=h;have c:=Z7 a ω ω;have d:S4 4 M:=Gg a δ λi j _ _=>b i j
 have b:M.1=(n:Int):=a.1;refine⟨n,ω,b,a.2.1,c,λi j=>VM c (CV a) d δ i j,4,δ,δ,d,λ_ _=>⟨ω,?_⟩⟩;rw[b,qO];exact qZ (B8u (n:=5) ω) δ
set_option maxHeartbeats 4000000 in
def Jl:sr G6 Dp:=λx bn bk=>by
 simp only[Dp,iB,rT1,Od,Ef];refine⟨⟨δ,δ⟩,?_⟩;rintro⟨(M:J1),_⟩ _ a8;simp only at a8|-;obtain⟨n,bq,bo,bp,P,af,ab⟩:=C1s a8;refine⟨⟨ω,ω⟩,?_⟩;rintro⟨(F6:Wf),_⟩ _ ⟨ad,N⟩;simp only at ad N|-;have bh:F6.length<=5:=by
  have s:=B5o N ad;have d:=A0k M F6;omega
 rw[wv (a:=(F6.length:Int)+1) ω];refine⟨ω,?_⟩;rintro⟨(k:Int),_⟩ _ b5;obtain⟨a1,b9,_⟩:=b5 ω;simp only at a1 b9|-;refine⟨ab,?_⟩;rintro⟨(u:Ql),(aq:Int),_⟩ _ A;simp only at A|-;refine⟨⟨qH _,a1,ω⟩,and_self_iff.2 ⟨ab,?_⟩⟩;rintro⟨(r:Ql),(ar:Int),_⟩ _ y;simp only at y|-;rw[show(0:Int).toNat=0 from rfl,tO]at y;rw[H5,(ω:((F6.length:Int)).toNat=F6.length),qQ (qU F6.length)];refine⟨λ_=>⟨trivial,λbb _ O=>O⟩,λh=>?_⟩;simp only[rE,rO,tS]at h;obtain⟨_,bm,_,_,a2,E⟩:=B3a A h.1;obtain⟨_,_,_,_,ao,z⟩:=B3a y h.2;refine⟨⟨a1,ω,qH _⟩,?_⟩;have Z:∀b,Ua (F6.take k.toNat) b=true->Ua F6 b=true:=λb y=>rF (rQ (qA y))
 have W:r.1=NY M (F6.take k.toNat):=z.1;have b0:u.1=NY M F6:=E.1;have bi:=A0k M (F6.take k.toNat);have bj:=A0k M F6;have a9:M.1.toNat=n:=ω
 have aw:(F6.drop k.toNat).Nodup:=N.sublist (List.drop_sublist _ _);have bf:∀g,g∈F6.take k.toNat->g∉F6.drop k.toNat:=λg s d=>by
  have:=N;rw[<-tP k.toNat F6,sF]at this;exact this.2.2 g s g d rfl
 have b6:∀g,g∉F6.take k.toNat->(g∈F6↔g∈F6.drop k.toNat):=λg hg=>by
  conv=>lhs;rw[<-tP k.toNat F6]
  rw[qS];exact⟨λh=>h.resolve_left hg, .inr⟩
 have bg:(F6.drop k.toNat).length<=5:=by rw[sL];omega
 generalize bc:F6.drop k.toNat=D at*;have b1:r.1.length<=5:=by rw[W];omega
 have bl:u.1.length<=5:=by rw[b0];omega
 generalize be:r.1=L at*;refine⟨λp=>0<=p.2.1/\p.2.1<=(D.length:Int)/\p.1.length<=p.2.1.toNat*5/\p.1.Nodup/\∀j:Int,j∈p.1↔0<=j/\j<(L.length:Int)/\L.getD j.toNat 0∈D.take p.2.1.toNat,λp=>((D.length:Int)-p.2.1).toNat,⟨qH _,qF _,qU _,wF,λj=>⟨λh=>(by cases h),λh=>(by cases h.2.2)⟩⟩,?_⟩;rintro⟨(U:Wf),(i:Int),_⟩ _ ⟨l,Q,rl,a3,rm⟩;simp only at l Q rl a3 rm|-;refine⟨λh=>?_,λh=>?_⟩
 . have h:=qA h;rw[L3 l h];have ai:=A7n l h;have b4:D.getD i.toNat 0∉D.take i.toNat:=λw=>by
    have:=aw.sublist (g1p (i+1).toNat D);rw[ai,sF]at this;exact this.2.2 _ w _ (zO _) rfl
   refine⟨⟨l,h⟩,λp=>0<=p.2.1/\p.2.1<=(L.length:Int)/\p.1.length<=i.toNat*5+p.2.1.toNat/\p.1.Nodup/\∀j:Int,j∈p.1↔(0<=j/\j<(L.length:Int)/\L.getD j.toNat 0∈D.take i.toNat)\/(0<=j/\j<p.2.1/\L.getD j.toNat 0=D.getD i.toNat 0),λp=>((L.length:Int)-p.2.1).toNat,⟨qH _,qF _,rl,a3,λj=>(rm j).trans ⟨.inl,λh=>h.elim id λh=>absurd h.2.1 (g5d.2 h.1)⟩⟩,?_⟩;rintro⟨(R:Wf),(c:Int),_⟩ _ ⟨H,c1,ba,T,B⟩;simp only at H c1 ba T B|-;refine⟨λo=>?_,λo=>?_⟩
   . have o:=qA o;rw[L3 H o,wv ω];refine⟨λp=>p.1.length<=i.toNat*5+(c+1).toNat/\p.1.Nodup/\∀j:Int,j∈p.1↔(0<=j/\j<(L.length:Int)/\L.getD j.toNat 0∈D.take i.toNat)\/(0<=j/\j<c+1/\L.getD j.toNat 0=D.getD i.toNat 0),⟨⟨H,o⟩,λf=>?_,λf=>?_⟩,?_⟩
     . have f:=qA f;refine⟨⟨by simp only[qX];omega,by simp only[qX];omega⟩,?_⟩;show(R++ [c]).length<= _ /\(R++ [c]).Nodup/\ _;refine⟨by rw[rN,qX];omega,?_,λj=>?_⟩
       . rw[sF];refine⟨T,wC _ _,λa A b y e=>?_⟩;rw[qK.1 y]at e;subst e;rcases(B a).1 A with d|d
         . rw[f]at d;exact b4 d.2.2
         omega
       rw[qS,qK,B j];constructor
       . rintro(d|d)
         . rcases d with d|d
           . exact .inl d
           exact .inr ⟨d.1,ω,d.2.2⟩
         subst d;exact .inr ⟨H,ω,f⟩
       rintro(d|d)
       . exact .inl (.inl d)
       by_cases Y:j=c
       . exact .inr Y
       exact .inl (.inr ⟨d.1,ω,d.2.2⟩)
     . have f:=qB f;refine⟨by show R.length<= _;omega,T,λj=>(B j).trans ⟨λh=>h.imp_right λh=>⟨h.1,ω,h.2.2⟩,λh=>h.imp_right λh=>⟨h.1,?_,h.2.2⟩⟩⟩;by_cases Y:j=c
       . subst Y;exact absurd h.2.2 f
       omega
     rintro⟨bs,_⟩ _ ⟨aj,ak,am⟩;simp only at aj ak am|-;exact⟨⟨ω,ω,aj,ak,am⟩,ω⟩
   have o:=qB o;have b2:c=(L.length:Int):=ω
   subst b2;rw[wv ω];refine⟨⟨ω,ω,ω,T,λj=>(B j).trans ?_⟩,ω⟩;rw[ai,qS,qK];exact⟨λh=>h.elim (λh=>⟨h.1,h.2.1, .inl h.2.2⟩) λh=>⟨h.1,h.2.1, .inr h.2.2⟩,λh=>h.2.2.elim (λd=> .inl ⟨h.1,h.2.1,d⟩) λd=> .inr ⟨h.1,h.2.1,d⟩⟩
 have h:=qB h;rw[qQ ω]at rm;clear l Q rl h;have ac:∀a,a<=n->fB 4 a<=1600:=λa A=>qZ (B5j (b:=5) ω) δ
 have ay:S4 1600 r.2.1:=iU z δ af (ac _ ω);have J:=z.2.1;rw[<-W]at J;have ax:A7 r.2.1:=Z7 J ω ω;have I:r.2.1.1=(L.length:Int):=J.1;have av:r.2.1.2.1=(L.length:Int):=J.2.1;refine⟨⟨1600,δ,δ,ay,λ_ _=>⟨ω,?_⟩⟩,?_⟩
 . rw[I,qO];exact qZ (B8u (n:=5) b1) δ
 rintro⟨(G:Ql),(au:Int),_⟩ _ o;simp only at o|-;refine⟨trivial,?_⟩;rintro⟨(ap:Bool),_⟩ _ aa;simp only at aa|-;subst aa;have v:L=F3 n λi=> !Ua (F6.take k.toNat) i:=by rw[W];unfold NY;rw[a9]
 have ah:∀i,i<L.length->Ua U i=Ua F6 (ix L i):=λi t=>by
  have a0:=Z4 (n:=n) (p:=λi=> !Ua (F6.take k.toNat) i) (a:=i) (by rw[<-v];exact t);rw[<-v]at a0;have b7:(ix L i:Int)∉F6.take k.toNat:=qB (by have:=a0.2.1;simpa[Ua]using this);refine vT.2 ((rm _).trans ?_);rw[qO,a0.2.2,b6 _ b7];exact⟨λh=>h.2.2,λh=>⟨qF _,sU.2 t,h⟩⟩
 have a6:Fg r.2.1 U=F3 L.length λi=>Ua F6 (ix L i):=by unfold Fg;rw[I,qO];exact Ks ah
 have az:NY r.2.1 U=F3 L.length λi=> !Ua F6 (ix L i):=by unfold NY;rw[I,qO];exact Ks λi t=>by rw[ah i t]
 simp only[Fg,NY,a9]at a2 ao E z;have an:=A4k Z a2 z;rw[<-v, <-a6]at an;obtain⟨b3,F⟩:=A4l o ax (I.trans av.symm) (λg hg=>by have:=(rm g).1 hg;omega) a3 an;subst b3;rw[a6,az,v]at F;have ag:=B3b Z a2 ao E z F;obtain⟨c1,a5⟩:=A3i (n:=n) (a:=λi=> !Ua (F6.take k.toNat) i) (b:=λi=> !Ua F6 i);rw[B8p Z]at c1 a5;have X:u.1=F3 n λi=> !Ua F6 i:=E.1
 have ae:G.1.length=u.1.length:=by rw[F.1,X,c1]
 have a7:=F.1;rw[H5,H5,ae];refine⟨λh=>(by simp at h),λ_=>?_⟩;have b8:∀i,i<u.1.length->0<=G.1.getD i 0/\G.1.getD i 0<(L.length:Int)/\L.getD (G.1.getD i 0).toNat 0=u.1.getD i 0:=λi t=>by
  rw[X]at t;have s:=Z4 (n:=L.length) (p:=λi=> !Ua F6 (ix L i)) (a:=i) (by rw[v,c1];exact t);have d:=a5 i t;rw[<-v]at d a7;have V:=Z4 (n:=n) (p:=λi=> !Ua F6 i) (a:=i) t;have a0:=Z4 (n:=n) (p:=λi=> !Ua (F6.take k.toNat) i) (a:=ix (F3 L.length λi=> !Ua F6 (ix L i)) i) (by rw[<-v];exact s.1);rw[<-v]at a0;rw[a7,s.2.2,qO,a0.2.2,d,X,V.2.2];exact⟨qF _,sU.2 s.1,rfl⟩
 refine⟨λp=>0<=p.1/\p.1<=(u.1.length:Int),λp=>((u.1.length:Int)-p.1).toNat,⟨qH _,qF _⟩,?_⟩;rintro⟨(i:Int),_⟩ _ ⟨l,Q⟩;simp only at l Q|-;refine⟨λh=>?_,λh=>?_⟩
 . have h:=qA h;obtain⟨s,d,V⟩:=b8 i.toNat ω;rw[L3 l (by rw[ae];exact h),L3 s d,L3 l h,H5,H5,V,wv (a:=i+1) ω];refine⟨⟨l,h⟩,λ_=>⟨s,d⟩,λ_=>⟨l,h⟩,λw=>?_,λ_=>⟨⟨ω,ω⟩,ω⟩⟩;simp only[uE,rU]at w;rcases w with(w|w) |w
   . omega
   . omega
   exact absurd rfl w
 refine⟨?_,?_⟩
 . rw[ag];exact λa4 P e f=>G7 (iU E δ af (ac _ (by have:=TG n (Ua F6);omega)) a4 P e f) δ
 rintro⟨bb,_⟩ _ O;simp only at O|-;exact O.2 ⟨ag,λa4 P e f=>((gN F.2.1 a4 P).2 e f).2⟩
def UL:An:= {join:= [(7,⟨[5,6,7,8],[8,10,11],[(9,false,[.fixB 16])],[(16,24,[.val qb, .val qb, .val qj])],[]⟩)],plan:= [(6,[0,1,4,6],[11],true, .done),(8,[4,10,11,16,17,18],[],false, .done)],mv:= [(6,[9])]}
def AT(x:Unit):Prop:=let w:Prop:=(True/\True);let t:=(3:Int);let s:=(1:Int);let q:=(16384:Nat);let o:=(16384:Int);let n:=(0:Int);let k:=(2:Int);let u:=k.toNat;True/\P6 λr=>r.1=ri s->True/\P6 λF=>F.1=ri k->True/\P6 λB=>B.1=ri (-1:Int)->True/\P6 λC=>C.1=rc (0:Rat)->((∀(l:List QQ),l∈ [[r.1,B.1,C.1],[B.1,F.1,B.1],[C.1,B.1,r.1]]->eV K1 l/\(↑l.length:Int)=t)/\n<=t/\t<=o/\ [[r.1,B.1,C.1],[B.1,F.1,B.1],[C.1,B.1,r.1]].length<=q)/\rT1 λG=>Ed [[r.1,B.1,C.1],[B.1,F.1,B.1],[C.1,B.1,r.1]].length t.toNat (fun(i j:Nat)=>rv (([[r.1,B.1,C.1],[B.1,F.1,B.1],[C.1,B.1,r.1]].getD i []).getD j zr)) G.1->aU G.1/\∀(r:A2f),let m:Prop:=(r.2.1=n);(aD r.1.1/\jN r.1.2.1/\N8 r.1.2.2.1/\N8 r.1.2.2.2.1/\Kj r.1.2.2.2.2)/\N8 r.2.1/\True->Ni G.1 [s] r.1 r.2.1->True/\∀(z:F5),let b:(F5)->(F5)->Prop:=(λr y=>(∀(l:List QQ),l∈ [[z.1,r.1],[y.1,z.1]]->eV K1 l/\(↑l.length:Int)=k)/\n<=k/\k<=o/\ [[z.1,r.1],[y.1,z.1]].length<=q);UE z.1/\True->z.1=rc (Rat.divInt s k)->∃(J:B8b->Prop),let c:(F5)->(F5)->(Vl)->Prop:=(λr y A=>jN A.1/\True->Ed [[z.1,r.1],[y.1,z.1]].length u (fun(i j:Nat)=>rv (([[z.1,r.1],[y.1,z.1]].getD i []).getD j zr)) A.1->J (A.1.1,A.1.2.1,A.1.2.2,()));let a:(F5)->(F5)->Prop:=(λr y=>((∀(l:List QQ),l∈ [[z.1,r.1],[y.1,z.1]]->eV K1 l/\(↑l.length:Int)=k)/\n<=k/\k<=o/\ [[z.1,r.1],[y.1,z.1]].length<=q)/\rT1 λA=>Ed [[z.1,r.1],[y.1,z.1]].length u (fun(i j:Nat)=>rv (([[z.1,r.1],[y.1,z.1]].getD i []).getD j zr)) A.1->J (A.1.1,A.1.2.1,A.1.2.2,()));let f:(F5)->(F5)->Prop:=(λr y=>UE y.1/\True->y.1=rc (-rv z.1)->(a r y)/\(b r y)/\∀(A:Vl),c r y A);let d:(F5)->Prop:=(λr=>N6 z.1/\P6 λy=>y.1=rc (-rv z.1)->a r y);((N6 z.1/\P6 λr=>r.1=rc (-rv z.1)->((N6 z.1/\P6 λy=>y.1=rc (-rv z.1)->(((a r y)/\a r y)/\a r y)/\(b r y)/\∀(A:Vl),c r y A)/\d r)/\(N6 z.1/\∀(y:F5),let g:Prop:=((((a r y)/\a r y)/\a r y)/\a r y);UE y.1/\True->y.1=rc (-rv z.1)->g/\g/\(a r y)/\(b r y)/\∀(A:Vl),c r y A)/\(d r)/\N6 z.1/\∀(y:F5),f r y)/\N6 z.1/\P6 λr=>r.1=rc (-rv z.1)->(d r)/\N6 z.1/\∀(y:F5),f r y)/\∀(p:B8b),(Ty.int i64).wf p.1/\(Ty.int i64).wf p.2.1/\tE.sl.sl.wf p.2.2.1/\True->J p->aU G.1/\∀(y:A2f),(aD y.1.1/\jN y.1.2.1/\N8 y.1.2.2.1/\N8 y.1.2.2.2.1/\Kj y.1.2.2.2.2)/\N8 y.2.1/\True->Ni G.1 [n,s,k] y.1 y.2.1->(decide m=true->True)/\∀(A:Ax),let h:=(M0 (decide m) A.1 false);(decide m=true->w/\A.1=decide (r.1.1= [n,k]))->(M0 (decide m) A.1 false=true->S4 K1 r.1.2.1)/\∀(D:Ax),(M0 (decide m) A.1 false=true->w/\(D.1=true↔r.1.2.1=(p.1,p.2.1,p.2.2.1)/\∀(v:List EE),v∈r.1.2.1.2.2->∀(e:EE),e∈v->e.2=rc (rv e.2)))->(M0 h D.1 false=true->(∀(l:List QQ),l∈ [[z.1,z.1]]->eV K1 l/\(↑l.length:Int)=k)/\n<=k/\k<=o/\ [[z.1,z.1]].length<=q)/\∀(H:Vl),(M0 h D.1 false=true->(jN H.1/\True)/\Ed [[z.1,z.1]].length u (fun(i j:Nat)=>rv (([[z.1,z.1]].getD i []).getD j zr)) H.1)->(M0 h D.1 false=true->S4 K1 r.1.2.2)/\∀(I:Ax),(M0 h D.1 false=true->w/\(I.1=true↔r.1.2.2=H.1/\∀(v:List EE),v∈r.1.2.2.2.2->∀(e:EE),e∈v->e.2=rc (rv e.2)))->M0 (M0 (M0 h D.1 false) I.1 false) (decide (y.2.1=6)) false=true
set_option maxHeartbeats 4000000 in
def LP:sr Es AT:=λx _ _=>by
 have av:∀k:Int,k.natAbs<4294967296->sz K1 (ri k):=λk hk=>by rw[YC];exact So (H4 (HV hk) δ)
 have ax:sz K1 (rc (0:Rat)):=So (N7 δ);have ai:qs 1 (Rat.divInt 1 2):=by unfold qs;decide+kernel
 have ab:sz K1 (rc (Rat.divInt 1 2)):=So (H4 ai δ);have b8:sz K1 (rc (-Rat.divInt 1 2)):=So (H4 (iS ai) δ);simp only[AT,P6,rT1];refine⟨trivial,?_⟩;rintro⟨one,_⟩ _ a1;refine⟨trivial,?_⟩;rintro⟨two,_⟩ _ a3;refine⟨trivial,?_⟩;rintro⟨az,_⟩ _ a4;refine⟨trivial,?_⟩;rintro⟨zero,_⟩ _ a5;change D4 at one two az zero;simp only at a1 a3 a4 a5|-;subst a1 a3 a4 a5;refine⟨⟨λt o=>?_,δ,δ,by show 3<=16384;decide⟩,?_⟩
 . simp only[qV,vQ,g0b]at o;rcases o with rfl|rfl|rfl<;>exact⟨λe d=>by
    simp only[qV,vQ,g0b]at d;rcases d with rfl|rfl|rfl<;>first|exact ax|exact av _ δ,rfl⟩
 rintro⟨(M:J1),_⟩ _ c;have c:Ed 3 3 _ M:=c;simp only;have M1:M.1=3:=c.1;have M2:M.2.1=3:=c.2.1;have F:el M 0 0=((1:Int):Rat):=(Z6 c δ δ).trans (KY 1);have z:el M 0 1=((-1:Int):Rat):=(Z6 c δ δ).trans (KY (-1));have G:el M 0 2=((0:Int):Rat):=(Z6 c δ δ).trans (L5 0);have H:el M 1 0=((-1:Int):Rat):=(Z6 c δ δ).trans (KY (-1));have u:el M 1 1=((2:Int):Rat):=(Z6 c δ δ).trans (KY 2);have I:el M 1 2=((-1:Int):Rat):=(Z6 c δ δ).trans (KY (-1));have J:el M 2 0=((0:Int):Rat):=(Z6 c δ δ).trans (L5 0);have A:el M 2 1=((-1:Int):Rat):=(Z6 c δ δ).trans (KY (-1));have N:el M 2 2=((1:Int):Rat):=(Z6 c δ δ).trans (KY 1);have U:∀ {i:Nat},i<3->i=0\/i=1\/i=2:=λh=>ω
 have B:∀i j,i<3->j<3->qs 1 (el M i j):=λi j l f=>by
  rcases U l with rfl|rfl|rfl<;>rcases U f with rfl|rfl|rfl<;>simp only[F,z,G,H,u,I,J,A,N]<;>exact HV δ
 have r:A7 M:=Z7 c δ δ;have ad:S4 1 M:=Gg (NX c λi j l f=>(Z6 c l f).symm) δ B;have ac:∀i j,qs 1 (el M i j):=λi j=>VM r (CV c) ad δ i j
 have aa:aU M:=⟨1,δ,δ,ad,λ_ _=>⟨ω,by rw[M1];decide⟩⟩;refine⟨aa,?_⟩;rintro⟨(b:Ql),(aj:Int),_⟩ _ a9;simp only at a9|-;have a0:Fg M [1]= [1]:=by unfold Fg;rw[M1];decide
 have am:NY M [1]= [0,2]:=by unfold NY;rw[M1];decide
 obtain⟨aq,E⟩:=A4l a9 r (M1.trans M2.symm) (λg hg=>by rw[qK.1 hg,M1];decide) (wC _ _) (by
  rw[a0];intro x au j f;have ao:(0:Rat)+el M 1 1*x 0=0:=au 0 δ;rw[u]at ao;have:j=0:=by have:j<1:=f;omega
  subst this;grind)
 subst aq;rw[a0,am]at E;have b0:S4 K1 b.2.1:=iU E δ ac δ;have b1:S4 K1 b.2.2:=B6z E δ ac δ;obtain⟨ay,af,ag,ah,D,_⟩:=E;have w:(0:Rat)+el M 1 1*el b.2.2 0 0= -el M 1 0:=ah 0 0 δ δ;have y:(0:Rat)+el M 1 1*el b.2.2 0 1= -el M 1 2:=ah 0 1 δ δ;have O:el b.2.1 0 0=el M 0 0+(0+el M 0 1*el b.2.2 0 0):=D 0 0 δ δ;have P:el b.2.1 0 1=el M 0 2+(0+el M 0 1*el b.2.2 0 1):=D 0 1 δ δ;have Q:el b.2.1 1 0=el M 2 0+(0+el M 2 1*el b.2.2 0 0):=D 1 0 δ δ;have T:el b.2.1 1 1=el M 2 2+(0+el M 2 1*el b.2.2 0 1):=D 1 1 δ δ;have b6:Rat.divInt 1 2*((2:Int):Rat)=1:=by decide+kernel
 rw[u,H]at w;rw[u,I]at y;generalize b7:Rat.divInt 1 2=a at*;have w:el b.2.2 0 0=a:=by grind
 have y:el b.2.2 0 1=a:=by grind
 have O:el b.2.1 0 0=a:=by rw[O,F,z,w];grind
 have P:el b.2.1 0 1= -a:=by rw[P,G,z,y];grind
 have Q:el b.2.1 1 0= -a:=by rw[Q,J,A,w];grind
 have T:el b.2.1 1 1=a:=by rw[T,N,A,y];grind
 refine⟨trivial,?_⟩;rintro⟨(ap:D4),_⟩ _ a6;simp only at a6|-;subst a6;have v:rv (rc a)=a:=L5 a;rw[v];have aw:N6 (rc a):=R8 ab δ;have two:∀ {i:Nat},i<2->i=0\/i=1:=λh=>ω
 refine⟨λp=>(p.1,p.2.1,p.2.2.1)=b.2.1,?_,?_⟩
 . have L1:(∀t:List D4,t∈ [[rc a,rc (-a)],[rc (-a),rc a]]->eV K1 t/\(t.length:Int)=2)/\(0:Int)<=2/\(2:Int)<=16384/\ [[rc a,rc (-a)],[rc (-a),rc a]].length<=16384:=by
    refine⟨λt o=>?_,δ,δ,by show 2<=16384;decide⟩;simp only[qV,vQ,g0b]at o;rcases o with rfl|rfl<;>exact⟨λe d=>by
     simp only[qV,vQ,g0b]at d;rcases d with rfl|rfl<;>assumption,rfl⟩
   have L2:∀W:J1,Ed 2 2 (λi j=>rv (([[rc a,rc (-a)],[rc (-a),rc a]].getD i []).getD j zr)) W->W=b.2.1:=λW n=>by
    refine gO n af λi j l f=>?_
    rcases two l with rfl|rfl<;>rcases two f with rfl|rfl
    . exact v.trans O.symm
    . exact(L5 _).trans P.symm
    . exact(L5 _).trans Q.symm
    exact v.trans T.symm
   repeat' first
    |exact L1
    |exact aw
    | (rintro⟨W,_⟩ _ n;exact L2 W n)
    |apply And.intro
    | (rintro⟨q,_⟩ _ B;simp only at B|-;subst B)
 rintro⟨b3,b4,b5,_⟩ _ n;have n:(b3,b4,b5)=b.2.1:=n;simp only at n|-;refine⟨aa,?_⟩;rintro⟨(b2:Ql),(an:Int),_⟩ _ ae;simp only at ae|-;have ak:Fg M [0,1,2]= [0,1,2]:=by unfold Fg;rw[M1];decide
 obtain⟨_,ar⟩:=C1g ae r (M1.trans M2.symm) (λg hg=>by
  simp only[qV,vQ,g0b]at hg;rw[M1];omega) δ (by
  rw[ak];intro au;have ao:=au (λ_=>1) (λi l=>by
   show(0:Rat)+Eg M [0,1,2] [0,1,2] i 0*1+Eg M [0,1,2] [0,1,2] i 1*1+Eg M [0,1,2] [0,1,2] i 2*1=0;rcases U l with rfl|rfl|rfl
   . show(0:Rat)+el M 0 0*1+el M 0 1*1+el M 0 2*1=0;rw[F,z,G];decide+kernel
   . show(0:Rat)+el M 1 0*1+el M 1 1*1+el M 1 2*1=0;rw[H,u,I];decide+kernel
   show(0:Rat)+el M 2 0*1+el M 2 1*1+el M 2 2*1=0;rw[J,A,N];decide+kernel) 0 δ
  exact absurd ao δ)
 subst ar;refine⟨λ_=>trivial,?_⟩;rintro⟨(Y:Bool),_⟩ a7;simp only at a7|-;obtain rfl:Y=true:=(a7 rfl).2.trans (rF ay);refine⟨λ_=>b0,?_⟩;rintro⟨(Z:Bool),_⟩ a8;simp only at a8|-;obtain rfl:Z=true:=(a8 rfl).2.2 ⟨n.symm,λV r e d=>((gN af V r).2 e d).2⟩;refine⟨λ_=>⟨λt o=>?_,δ,δ,by show 1<=16384;decide⟩,?_⟩
 . rw[qK.1 o];exact⟨λe d=>by
    simp only[qV,vQ,g0b]at d;rcases d with rfl|rfl<;>exact ab,rfl⟩
 rintro⟨(R:J1),_⟩ s;simp only at s|-;have s:=(s rfl).2;have s:Ed 1 2 (λi j=>rv (([[rc a,rc a]].getD i []).getD j zr)) R:=s;refine⟨λ_=>b1,?_⟩;rintro⟨(X:Bool),_⟩ a2;simp only at a2|-;obtain rfl:X=true:=(a2 rfl).2.2 ⟨gO ag s λi j l f=>by
  have:i=0:=by have:i<1:=l;omega
  subst this;have f:j<2:=f;rcases two f with rfl|rfl
  . exact w.trans v.symm
  exact y.trans v.symm,λV r e d=>((gN ag V r).2 e d).2⟩
 rfl
end Go.Proofs.YtdbnghliccifcaaGreat
