/- Part. -/
import Derived.Test.YtcbjamefalhfgaaGreatKFH
set_option linter.all false
namespace Go.Proofs.YtcbjamefalhfgaaGreat
open Go.Proofs.Tryz
open Go.Vc Go.Gw
open Go.IntKind (i64 u32)
noncomputable def GE:G9:= [(72,Cl)]
def FK:An:= {loop:= [(3,⟨[1,3,24],[0,1,2,3,4,5,6,7,8,9,10,13],[(25,false,vI)],[],[(11, .nest qe 112 4),(12, .row qb 3)]⟩),(13,⟨[3,5,44,45,46,59,60],[0,1,2,3,4,5,6,7,9,10,12,13],[(61,false,vI)],[],[(11, .nest qe 112 4)]⟩),(9,⟨[3,44,45],[0,1,2,3,4,5,6,7,10,12,13],[(46,false,vI)],[],[(9, .row qd 61),(11, .nest qe 112 4)]⟩)],plan:= [(1,[1,4,7,10],[],true,(.p 0 (.q 1 (.p 3 (.q 4 (.p 6 (.q 7 (.p 9 (.q 10 (.al [2,5,8,11] [12] (.e 13 (.p 14 .done)))))))))))),(11,[3],[8],true, .done),(15,[3,5],[9],false, .done)]}
noncomputable def Wl:G9:= []
def Ut:An:= {plan:= [(1,[0,3,4,7,10],[],false,(.q 0 (.p 1 (.p 2 (.q 3 (.q 4 (.p 5 (.p 6 (.q 7 (.p 8 (.p 9 (.q 10 (.p 11 (.e 12 (.e 13 (.p 14 .done))))))))))))))))]}
noncomputable def Wm:G9:= []
def Uu:An:= {plan:= [(1,[0,3,4,7,10],[],false,(.q 0 (.p 1 (.p 2 (.q 3 (.q 4 (.p 5 (.p 6 (.q 7 (.p 8 (.p 9 (.q 10 (.p 11 (.e 12 (.e 13 (.p 14 .done))))))))))))))))]}
noncomputable def Wn:G9:= []
def Uv:An:= {plan:= [(1,[0,3,4,7,10],[],false,(.q 0 (.p 1 (.p 2 (.q 3 (.q 4 (.p 5 (.p 6 (.q 7 (.p 8 (.p 9 (.q 10 (.p 11 (.e 12 (.e 13 (.p 14 .done))))))))))))))))]}
noncomputable def Wo:G9:= []
def Uw:An:= {plan:= [(1,[0,3,4,7,10],[],false,(.q 0 (.p 1 (.p 2 (.q 3 (.q 4 (.p 5 (.p 6 (.q 7 (.p 8 (.p 9 (.q 10 (.p 11 (.e 12 (.e 13 (.p 14 .done))))))))))))))))]}
noncomputable def GF:G9:= [(73,W3 (Pg ⟨prog,VP⟩ [(20,Wl,Ut),(23,Wm,Uu),(28,Wn,Uv),(33,Wo,Uw)] f73.results.toList (f73.body.getD .skip) f73.ntmps))]
def FL:An:= {join:= [(8,⟨[1,6,14,15],[1,2,3,4,5,6,7,9,10,13,14,15],[(5,false,vI)],[],[(11, .nest qe 112 4)]⟩),(10,⟨[1,6],[1,2,3,4,5,6,7,9,10,13,14,15],[(5,false,vI)],[],[(11, .nest qe 112 4)]⟩),(14,⟨[1,3],[1,2,3,4,5,6,7,15],[],[(13,73,[.fix 9, .fix 10, .fix 11, .own qb 3])],[(9, .row qd 61),(10, .nest qd 61 75),(11, .nest qe 112 4)]⟩),(20,⟨[3],[1,2,3,4,5,6,7,9,10,13,17],[(2,false,vI)],[],[(11, .nest qe 112 4)]⟩)],loop:= [(4,⟨[1,6,14],[1,2,3,4,5,6,7,9,10,13,14,15],[(5,false,vI),(15,false,vI)],[],[(11, .nest qe 112 4)]⟩),(16,⟨[1,3,66],[1,2,3,4,5,6,7,9,10,11,13,15,17],[(2,false,vI)],[],[(19, .itM false qb false .bool 18)]⟩)],plan:= [(13,[1,4,7,10],[14,17],false, .done),(18,[3,6,9,11,14,17,22,25,28,30,33,36],[],true, .done)],bump:=18}
noncomputable def Wq:G9:= []
def Ux:An:= {loop:= [(1,⟨[0,2,6,7],[1,2,3,4,5,6,7,9,10,13,15,16,17],[(8,false,vI)],[],[(11, .nest qe 112 4)]⟩)],plan:= [(3,[0,3,5],[9],false, .done)]}
noncomputable def Tw:G9:= []
def Rw:An:= {loop:= [(1,⟨[0,2,6,7],[1,2,3,4,5,6,7,9,10,13,15,16,17,18,19],[(8,false,vI)],[],[(11, .nest qe 112 4)]⟩)],plan:= [(3,[0,3,5],[9],false, .done)]}
noncomputable def GG:G9:= [(75,Au),(76,Eh),(77,V9),(78,N7),(79,W0),(74,W3 (Pg ⟨prog,VP⟩ [(29,Wq,Ux),(107,Tw,Rw)] f74.results.toList (f74.body.getD .skip) f74.ntmps))]
def FM:An:= {join:= [(10,⟨[1,3,4,8,9,10],[1,2,3,4,5,6,7,9,10,13,15,16,17,18],[(12,false,[.own qb 3])],[],[(11, .nest qe 112 4)]⟩),(14,⟨[1,3,4,8,9,10,15,53,54,55],[1,2,3,4,5,6,7,9,10,11,13,15,16,17,18,19],[(16,false,[.fixB 20])],[(20,46,[.val .bool, .val qa, .val qa])],[]⟩),(15,⟨[1,3,4,8,9,10,15,16,53,54,55],[1,2,3,4,5,6,7,9,11,13,15,16,17,18,19,20],[],[],[(10, .nest qd 61 75)]⟩)],loop:= [(7,⟨[1,3,4,8,9,10,44],[1,2,3,4,5,6,7,9,10,11,13,15,16,17,18],[(12,false,[.own qb 3])],[],[(20, .itM false qb false .bool 19)]⟩),(18,⟨[1,3,4,8,9,10,15,53,54,55,114,115],[1,2,3,4,5,6,7,9,10,13,15,16,17,18,19],[(116,false,vI)],[],[(11, .nest qe 112 4)]⟩),(11,⟨[1,3,4,8,9,10,53,54],[1,2,3,4,5,6,7,13,15,16,17,18,19],[(55,false,vI)],[],[(9, .row qd 61),(10, .nest qd 61 75),(11, .nest qe 112 4)]⟩)],plan:= [(13,[0,3,6,9],[12],true, .done),(14,[5,8,13],[16,18],false, .done),(15,[0,3,5,8,11,12,14],[17],true, .done),(20,[0,3,5],[9],false, .done)]}
def Ru:An:= {join:= [(13,⟨[2,5,6,7,8,45,46],[1,2,3,4,5,6,7],[(9,false,vI),(10,false,vI),(11,false,[.val .bool])],[(13,73,[.fix 9, .fix 10, .fix 11, .own qb 3])],[(9, .row qd 61),(10, .nest qd 61 75),(11, .nest qe 112 4)]⟩),(16,⟨[2,5,6,7,8,9,10,45,46],[1,4,5,6,9,10,11,13,15],[],[],[(2, .row qb 3),(3, .row qb 3),(7, .row qb 3)]⟩),(22,⟨[2,5,6,7,12,13,79,80,81],[1,2,3,5,6,9,11,13,14],[],[],[(4, .row qd 61),(10, .nest qd 61 75)]⟩)],loop:= [(10,⟨[2,5,6,7,45],[1,4,5,6],[(46,false,vI)],[(13,73,[.fix 9, .fix 10, .fix 11, .own qb 3])],[(2, .row qb 3),(3, .row qb 3),(7, .row qb 3),(9, .row qd 61),(10, .nest qd 61 75),(11, .nest qe 112 4)]⟩),(19,⟨[2,5,7,79,80],[1,2,3,6,9,11,13,14],[(6,false,[.val qh]),(81,false,vI)],[],[(4, .row qd 61),(5, .row qd 61),(10, .nest qd 61 75)]⟩)],plan:= [(6,[],[16],true,(.p 0 (.p 2 (pZ9 4 3 (pZ9 9 3 (.al [1,3,7,12,15] [8,13,14] (.e 16 .done))))))),(15,[1],[12,14,16],false, .done),(21,[7],[15,17],false, .done),(22,[2,7,10],[17],true, .done)]}
noncomputable def Tv:G9:= [(30,N1),(34,Q9),(35,R0),(31,W3 (Pg ⟨prog,VP⟩ [(44,GE,FK)] f31.results.toList (f31.body.getD .skip) f31.ntmps)),(32,W3 (Pg ⟨prog,VP⟩ [(51,GF,FL)] f32.results.toList (f32.body.getD .skip) f32.ntmps)),(33,W3 (Pg ⟨prog,VP⟩ [(76,GG,FM)] f33.results.toList (f33.body.getD .skip) f33.ntmps))]
abbrev C9r:=(List (List EE)×List Nat)×Unit
abbrev C9z:=Int×(List (Int×Bool)×List (Int×Bool))×Unit
abbrev D0a:=Int×(List (List (Int×Bool))×List Nat)×Wf×Unit
abbrev NM:=Int×(List (List (Int×Bool))×List Nat)×Unit
abbrev D0b:=Int×Int×(List (List (Int×Bool))×List Nat)×Unit
abbrev D0c:=Int×Int×Bool×Wf×List (List EE)×(List (List EE)×List Nat)×(List (List (Int×Bool))×List Nat)×Unit
abbrev D0h:=Int×List (List EE)×(List (List (Int×Bool))×List Nat)×Unit
abbrev D0i:=Int×List (List EE)×(List (List EE)×List Nat)×(List (List (Int×Bool))×List Nat)×Unit
abbrev D0j:=Int×Wf×Wf×Wf×Wf×List (List EE)×(List (List EE)×List Nat)×(List (List (Int×Bool))×List Nat)×Unit
abbrev D0l:=List (List EE)×(List (List EE)×List Nat)×Unit
abbrev D0p:=Wf×(List (Int×Bool)×List (Int×Bool))×Unit
abbrev D0q:=Wf×(List (List (Int×Bool))×List Nat)×Unit
abbrev D0w:=Wf×Int×List (List EE)×List (List EE)×(List (List EE)×List Nat)×Unit
abbrev D1a:=Wf×List (List EE)×(List (List EE)×List Nat)×(List (List (Int×Bool))×List Nat)×Unit
abbrev D1b:=Wf×Wf×Wf×Unit
def Ji(x:T4):Prop:=let b5:=(281474976710656:Int);let bd:=x.1.2.1.toNat;let a6:=(6:Int);let a5:=(4:Int);let b1:=(9223372036854775807:Int);let ad:=(140737488355328:Nat);let a7:=x.1.1.toNat;let f:=(1:Int);let U:=(0:Int);let bw:Prop:=(U<=x.1.2.1/\x.1.2.1<=x.1.2.1/\(↑(8:Nat):Int)*x.1.2.1<=b5/\x.1.2.1<=b1);let ac:Prop:=(∀(v:List EE),v∈ []->R3 v);let ba:(Nat)->(Nat)->Prop:=(λi k=>i<x.1.1.toNat->k<x.1.1.toNat->GB ([],[],(U,U,[]),U,U,[]) x.1.1.toNat i k=el x.1 (ix [] i) (ix [] k));let m:Prop:=(U<=x.1.1/\x.1.1<=x.1.1/\(↑(8:Nat):Int)*x.1.1<=b5/\x.1.1<=b1);let b8:Prop:=(∀(T:Nat),(1:Nat)<=T->Jr x.1.1.toNat x.1.1.toNat (el x.1) T->∀(i k:Nat),i<x.1.1.toNat->qs (T+T) (el (U,U,[]) i k)/\qs (T+T) (el (U,U,[]) i k));let e:Prop:=(U<=x.1.1/\x.1.1<=x.1.1/\(↑(24:Nat):Int)*x.1.1<=b5/\x.1.1<=b1);True/\∀(r:K2),True/\True->r.1=decide (A3 x.1)->((!r.1)=true->(¬A3 x.1->([],[],(U,U,[]),U,U,[])=WS/\f=f)/\(A3 x.1->(x.1.1≠x.1.2.1->([],[],(U,U,[]),U,U,[])=WS/\f=a5)/\(x.1.1=x.1.2.1->(¬nonsing x.1.1.toNat (el x.1)->([],[],(U,U,[]),U,U,[])=WS/\f=a6)/\(nonsing x.1.1.toNat (el x.1)->O3 ([],[],(U,U,[]),U,U,[]) x.1.1/\f=U/\ac/\ac/\b8/\∀(i k:Nat),ba i k))))/\((!r.1)=false->(decide (x.1.1≠x.1.2.1)=true->(¬A3 x.1->([],[],(U,U,[]),U,U,[])=WS/\a5=f)/\(A3 x.1->(x.1.1≠x.1.2.1->([],[],(U,U,[]),U,U,[])=WS/\a5=a5)/\(x.1.1=x.1.2.1->(¬nonsing x.1.1.toNat (el x.1)->([],[],(U,U,[]),U,U,[])=WS/\a5=a6)/\(nonsing x.1.1.toNat (el x.1)->O3 ([],[],(U,U,[]),U,U,[]) x.1.1/\a5=U/\ac/\ac/\b8/\∀(i k:Nat),ba i k))))/\(decide (x.1.1≠x.1.2.1)=false->m/\m/\e/\e/\m/\e/\e/\bw/\bw/\∃(I:D0a->Prop),∃(j: _->Nat),I (U,(List.replicate bd [],Qz (Ty.mp false (Ty.int i64) false Ty.bool) bd),List.replicate bd U,())/\∀(p:D0a),let ab:=p.1.toNat;(Ty.int i64).wf p.1/\p.2.1.1.length.le 9223372036854775807/\WX p.2.2.1/\True->I p->(decide (p.1<x.1.2.1)=true->(U<=p.1/\p.1<(↑p.2.1.1.length:Int))/\(U<=p.1/\p.1<(p.2.2.1.length:Int))/\I (i64.wrap (p.1+f),(p.2.1.1.set ab [],SI ab p.2.1.2),List.set p.2.2.1 ab p.1,())/\j (i64.wrap (p.1+f),(p.2.1.1.set ab [],SI ab p.2.1.2),List.set p.2.2.1 ab p.1,())<j p)/\(decide (p.1<x.1.2.1)=false->∃(I:D0h->Prop),∃(j: _->Nat),I (U,List.replicate a7 [],p.2.1,())/\∀(l:D0h),let ao:=(gx [] x.1.2.2 l.1);let K:Prop:=(l.1<(x.1.2.2.length:Int));(Ty.int i64).wf l.1/\Ye l.2.1/\l.2.2.1.1.length.le 9223372036854775807/\True->I l->(decide K=true->(U<=l.1/\K)/\Mo ao/\∀(r:Nw),FH r.1/\True->MA (A4 ao) r.1->(U<=l.1/\l.1<(l.2.1.length:Int))/\∃(I_1:NM->Prop),∃(ag: _->Nat),I_1 (U,l.2.2.1,())/\∀(p:NM),let bk:=(i64.wrap (l.1+f),List.set l.2.1 l.1.toNat r.1,p.2.1,());let ak:=(gx D7 ao p.1);let ai:=ak.1.toNat;let G:Prop:=(p.1<(↑ao.length:Int));(Ty.int i64).wf p.1/\p.2.1.1.length.le 9223372036854775807/\True->I_1 p->(decide G=true->(U<=p.1/\G)/\(U<=ak.1/\ak.1<(↑p.2.1.1.length:Int))/\¬Int.toNat ak.1∈p.2.1.2/\I_1 (i64.wrap (p.1+f),(p.2.1.1.set ai (Eb (Ty.int i64) l.1 true (p.2.1.1.getD ai [])),p.2.1.2),())/\ag (i64.wrap (p.1+f),(p.2.1.1.set ai (Eb (Ty.int i64) l.1 true (p.2.1.1.getD ai [])),p.2.1.2),())<ag p)/\(decide G=false->I bk/\j bk<j l))/\(decide K=false->∃(I:D0j->Prop),∃(j: _->Nat),I (U,p.2.2.1,List.replicate a7 U,List.replicate a7 U,List.replicate a7 U,l.2.1,(List.replicate a7 [],Qz tE.sl a7),l.2.2.1,())/\∀(b:D0j),let bn:=(b.2.2.1.length:Int);let z:=(↑b.2.1.length:Int);(Ty.int i64).wf b.1/\(Ty.int i64).sl.wf b.2.1/\WX b.2.2.1/\WX b.2.2.2.1/\WX b.2.2.2.2.1/\Ye b.2.2.2.2.2.1/\b.2.2.2.2.2.2.1.1.length.le 9223372036854775807/\b.2.2.2.2.2.2.2.1.1.length.le 9223372036854775807/\True->I b->(decide (b.1<x.1.1)=true->∃(J:D0c->Prop),(∃(J_1:NM->Prop),(∃(I:D0b->Prop),∃(j: _->Nat),I (U,U,b.2.2.2.2.2.2.2.1,())/\∀(a:D0b),let bp:=(↑a.2.2.1.1.length:Int);let a3:=a.1.toNat;let t:=a.2.1.toNat;let M:Prop:=(a.2.1<z);let bv:Prop:=((↑(a.2.2.1.1.getD (b.2.1.getD t U).toNat []).length:Int)<(↑((a.2.2.1.1.set (b.2.1.getD t U).toNat (a.2.2.1.1.getD (b.2.1.getD t U).toNat [])).getD (b.2.1.getD a3 U).toNat []).length:Int));(Ty.int i64).wf a.1/\(Ty.int i64).wf a.2.1/\a.2.2.1.1.length.le 9223372036854775807/\True->I a->(decide M=true->∃(J:NM->Prop),((U<=a.2.1/\M)/\(U<=b.2.1.getD t U/\b.2.1.getD t U<bp)/\¬(b.2.1.getD t U).toNat∈a.2.2.1.2/\(a.2.2.1.1.getD (b.2.1.getD t U).toNat []).length<=9223372036854775807/\(U<=a.1/\a.1<z)/\(U<=b.2.1.getD a3 U/\b.2.1.getD a3 U<bp)/\¬(b.2.1.getD a3 U).toNat∈a.2.2.1.2/\((a.2.2.1.1.set (b.2.1.getD t U).toNat (a.2.2.1.1.getD (b.2.1.getD t U).toNat [])).getD (b.2.1.getD a3 U).toNat []).length<=9223372036854775807/\(decide bv=true->J (a.2.1,((a.2.2.1.1.set (b.2.1.getD t U).toNat (a.2.2.1.1.getD (b.2.1.getD t U).toNat [])).set (b.2.1.getD a3 U).toNat ((a.2.2.1.1.set (b.2.1.getD t U).toNat (a.2.2.1.1.getD (b.2.1.getD t U).toNat [])).getD (b.2.1.getD a3 U).toNat []),a.2.2.1.2),()))/\(decide bv=false->J (a.1,((a.2.2.1.1.set (b.2.1.getD t U).toNat (a.2.2.1.1.getD (b.2.1.getD t U).toNat [])).set (b.2.1.getD a3 U).toNat ((a.2.2.1.1.set (b.2.1.getD t U).toNat (a.2.2.1.1.getD (b.2.1.getD t U).toNat [])).getD (b.2.1.getD a3 U).toNat []),a.2.2.1.2),())))/\∀(c:NM),let a0:=c.1.toNat;let E:Prop:=((↑(c.2.1.1.getD (b.2.1.getD a0 U).toNat []).length:Int)<=f);(Ty.int i64).wf c.1/\c.2.1.1.length.le 9223372036854775807/\True->J c->(U<=c.1/\c.1<z)/\(U<=b.2.1.getD a0 U/\b.2.1.getD a0 U<(↑c.2.1.1.length:Int))/\¬(b.2.1.getD a0 U).toNat∈c.2.1.2/\(c.2.1.1.getD (b.2.1.getD a0 U).toNat []).length<=9223372036854775807/\(decide E=true->J_1 (c.1,(c.2.1.1.set (b.2.1.getD a0 U).toNat (c.2.1.1.getD (b.2.1.getD a0 U).toNat []),c.2.1.2),()))/\(decide E=false->I (c.1,i64.wrap (a.2.1+f),(c.2.1.1.set (b.2.1.getD a0 U).toNat (c.2.1.1.getD (b.2.1.getD a0 U).toNat []),c.2.1.2),())/\j (c.1,i64.wrap (a.2.1+f),(c.2.1.1.set (b.2.1.getD a0 U).toNat (c.2.1.1.getD (b.2.1.getD a0 U).toNat []),c.2.1.2),())<j a))/\(decide M=false->J_1 (a.1,a.2.2.1,())))/\∀(a:NM),let az:=(i64.wrap (a.1+f));let n:=a.1.toNat;let R:Prop:=(U<=a.1/\a.1<z);let F:Prop:=((↑(a.2.1.1.getD (b.2.1.getD n U).toNat []).length:Int)=U);(Ty.int i64).wf a.1/\a.2.1.1.length.le 9223372036854775807/\True->J_1 a->R/\(U<=b.2.1.getD n U/\b.2.1.getD n U<(↑a.2.1.1.length:Int))/\¬(b.2.1.getD n U).toNat∈a.2.1.2/\(a.2.1.1.getD (b.2.1.getD n U).toNat []).length<=9223372036854775807/\(decide F=true->J (U,U,false,b.2.1,b.2.2.2.2.2.1,b.2.2.2.2.2.2.1,(a.2.1.1.set (b.2.1.getD n U).toNat (a.2.1.1.getD (b.2.1.getD n U).toNat []),a.2.1.2),()))/\(decide F=false->R/\∃(J_2:D1a->Prop),let bt:Prop:=(((Int.toNat a.1+(List.drop az.toNat (List.take z.toNat b.2.1)).length)*(8:Nat)<=ad/\Int.toNat a.1+(List.drop az.toNat (List.take z.toNat b.2.1)).length<=9223372036854775807)/\J_2 (List.take n b.2.1++List.drop az.toNat (List.take z.toNat b.2.1),b.2.2.2.2.2.1,b.2.2.2.2.2.2.1,(a.2.1.1.set (b.2.1.getD n U).toNat (a.2.1.1.getD (b.2.1.getD n U).toNat []),a.2.1.2),()));((U<=U/\U<=a.1/\a.1<=z)/\(U<=i64.wrap (a.1+f)/\i64.wrap (a.1+f)<=z/\z<=z)/\bt/\bt)/\∀(c:D1a),let bq:=(c.2.1.length:Int);(Ty.int i64).sl.wf c.1/\Ye c.2.1/\c.2.2.1.1.length.le 9223372036854775807/\c.2.2.2.1.1.length.le 9223372036854775807/\True->J_2 c->∃(J_3:NM->Prop),((U<=b.2.1.getD n U/\b.2.1.getD n U<(↑c.2.2.2.1.1.length:Int))/\¬(b.2.1.getD n U).toNat∈c.2.2.2.1.2/\∃(I:C9z->Prop),∃(j: _->Nat),I ((-1:Int),(c.2.2.2.1.1.getD (b.2.1.getD n U).toNat [],c.2.2.2.1.1.getD (b.2.1.getD n U).toNat []),())/\∀(d:C9z),let ah:=(decide (d.1<U));let bf:=(↑(List.getD c.2.1 d.1.toNat []).length:Int);let O:Prop:=(U<=d.1/\d.1<bq);(Ty.int i64).wf d.1/\(∀(x:Int×Bool),x∈d.2.1.2->R8 x.1/\True)/\True->I d->(d.2.1.2= []->(false=true->False)/\(false=false->J_3 (d.1,(c.2.2.2.1.1.set (b.2.1.getD n U).toNat d.2.1.1,c.2.2.2.1.2),())))/\∀(ae:List (Int×Bool)) (y:Int×Bool) (af:List (Int×Bool)),let bg:=(↑(List.getD c.2.1 y.1.toNat []).length:Int);let ap:=(d.2.1.1,ae++af);let Q:Prop:=(U<=y.1/\y.1<bq);let D:Prop:=(bg=bf);let bl:=(F5 (decide D) (decide (y.1<d.1)) false);let bz:Prop:=(bg<bf);let av:=(decide bz);d.2.1.2=ae++y::af->(true=true->(decide (d.1<U)=false->Q)/\(decide (d.1<U)=false->O)/\(F5 ah true av=false->Q)/\(F5 ah true av=false->O)/\(F5 (F5 ah true av) true bl=true->I (y.1,ap,())/\j (y.1,ap,())<j d)/\(F5 (F5 ah true av) true bl=false->I (d.1,ap,())/\j (d.1,ap,())<j d))/\(true=false->J_3 (d.1,(c.2.2.2.1.1,(b.2.1.getD n U).toNat::c.2.2.2.1.2),())))/\∀(p:NM),(Ty.int i64).wf p.1/\p.2.1.1.length.le 9223372036854775807/\True->J_3 p->J (p.1,b.2.1.getD n U,true,c.1,c.2.1,c.2.2.1,p.2.1,())))/\∀(a:D0c),let aq:=a.2.1.toNat;let V:=(List.getD a.2.2.2.2.1 a.1.toNat []);(Ty.int i64).wf a.1/\(Ty.int i64).wf a.2.1/\Ty.bool.wf a.2.2.1/\(Ty.int i64).sl.wf a.2.2.2.1/\Ye a.2.2.2.2.1/\a.2.2.2.2.2.1.1.length.le 9223372036854775807/\a.2.2.2.2.2.2.1.1.length.le 9223372036854775807/\True->J a->((!a.2.2.1)=true->(¬A3 x.1->([],[],(U,U,[]),U,U,[])=WS/\a6=f)/\(A3 x.1->(x.1.1≠x.1.2.1->([],[],(U,U,[]),U,U,[])=WS/\a6=a5)/\(x.1.1=x.1.2.1->(¬nonsing x.1.1.toNat (el x.1)->([],[],(U,U,[]),U,U,[])=WS/\a6=a6)/\(nonsing x.1.1.toNat (el x.1)->O3 ([],[],(U,U,[]),U,U,[]) x.1.1/\a6=U/\ac/\ac/\b8/\∀(i k:Nat),ba i k))))/\((!a.2.2.1)=false->∃(J:D1b->Prop),let bu:Prop:=((U<=b.1/\b.1<(b.2.2.2.1.length:Int))/\(U<=a.2.1/\a.2.1<(b.2.2.2.2.1.length:Int))/\J (List.set b.2.2.1 b.1.toNat a.1,List.set b.2.2.2.1 b.1.toNat a.2.1,List.set b.2.2.2.2.1 aq b.1,()));((U<=b.1/\b.1<bn)/\bu/\bu)/\∀(c:D1b),WX c.1/\WX c.2.1/\WX c.2.2.1/\True->J c->(U<=a.1/\a.1<(a.2.2.2.2.1.length:Int))/\∃(I_1:NM->Prop),∃(ag: _->Nat),I_1 (U,a.2.2.2.2.2.2.1,())/\∀(d:NM),let bs:=(↑d.2.1.1.length:Int);let an:=(gx D7 V d.1);let aj:=an.1.toNat;let B:Prop:=(d.1<(↑V.length:Int));(Ty.int i64).wf d.1/\d.2.1.1.length.le 9223372036854775807/\True->I_1 d->(decide B=true->(U<=d.1/\B)/\(U<=an.1/\an.1<bs)/\¬Int.toNat an.1∈d.2.1.2/\I_1 (i64.wrap (d.1+f),(d.2.1.1.set aj (Qw (Ty.int i64) a.1 (d.2.1.1.getD aj [])),d.2.1.2),())/\ag (i64.wrap (d.1+f),(d.2.1.1.set aj (Qw (Ty.int i64) a.1 (d.2.1.1.getD aj [])),d.2.1.2),())<ag d)/\(decide B=false->Vy K1 V/\∀(a1:D1),OZ a1.1/\True->a1.1=rc (A4 V a.2.1)->H3 a1.1/\∀(a9:nR),OZ a9.1/\True/\True->(rv a1.1=(0:Rat)->a9.2.1=false)/\(rv a1.1≠(0:Rat)->a9.1=rc (rv a1.1)⁻¹/\a9.2.1=true)->∃(J:D0q->Prop),((U<=a.2.1/\a.2.1<bs)/\¬Int.toNat a.2.1∈d.2.1.2/\∃(I:D0p->Prop),∃(j: _->Nat),I ([],(d.2.1.1.getD aq [],d.2.1.1.getD aq []),())/\∀(p:D0p),(Ty.int i64).sl.wf p.1/\(∀(x:Int×Bool),x∈p.2.1.2->R8 x.1/\True)/\True->I p->(p.2.1.2= []->(false=true->False)/\(false=false->J (p.1,(d.2.1.1.set aq p.2.1.1,d.2.1.2),())))/\∀(ae:List (Int×Bool)) (y:Int×Bool) (af:List (Int×Bool)),let bm:=(p.1++ [y.1],(p.2.1.1,ae++af),());p.2.1.2=ae++y::af->(true=true->((p.1.length+ [y.1].length)*(8:Nat)<=ad/\p.1.length+ [y.1].length<=9223372036854775807)/\I bm/\j bm<j p)/\(true=false->J (p.1,(d.2.1.1,Int.toNat a.2.1::d.2.1.2),())))/\∀(g:D0q),(Ty.int i64).sl.wf g.1/\g.2.1.1.length.le 9223372036854775807/\True->J g->∃(I_2:D0i->Prop),∃(bx: _->Nat),I_2 (U,a.2.2.2.2.1,a.2.2.2.2.2.1,g.2.1,())/\∀(h:D0i),let bh:=(i64.wrap (b.1+f),a.2.2.2.1,c.1,c.2.1,c.2.2.1,h.2.1,h.2.2.1,h.2.2.2.1,());let Y:=h.1.toNat;let aa:=(List.getD h.2.1 (g.1.getD Y U).toNat []);let P:Prop:=(h.1<(↑g.1.length:Int));let C:Prop:=(U<=g.1.getD Y U/\g.1.getD Y U<(↑h.2.2.1.1.length:Int));let q:Prop:=(U<=g.1.getD Y U/\g.1.getD Y U<(h.2.1.length:Int));(Ty.int i64).wf h.1/\Ye h.2.1/\h.2.2.1.1.length.le 9223372036854775807/\h.2.2.2.1.1.length.le 9223372036854775807/\True->I_2 h->(decide P=true->(U<=h.1/\P)/\∃(J:A3a->Prop),let A:(D1)->(D1)->Prop:=(λr w=>OZ w.1/\True->w.1=rc (rv r.1*rv a9.1)->J (w.1.1.1,w.1.1.2,w.1.2,()));let S:(D1)->Prop:=(λr=>(H3 r.1/\H3 a9.1)/\∀(w:D1),A r w);(q/\(Vy K1 aa/\∀(r:D1),OZ r.1/\True->r.1=rc (A4 aa a.2.1)->(S r)/\(H3 r.1/\H3 a9.1)/\∀(w:D1),A r w)/\Vy K1 aa/\∀(r:D1),OZ r.1/\True->r.1=rc (A4 aa a.2.1)->S r)/\∀(a4:A3a),let b6:=(a4.1,a4.2.1);let b3:=(b.1,b6,a4.2.2.1);Ty.bool.wf a4.1/\(Ty.int u32).sl.wf a4.2.1/\(Ty.int u32).sl.wf a4.2.2.1/\True->J a4->∃(J:C9r->Prop),let u:Prop:=((((h.2.2.1.1.getD (g.1.getD Y U).toNat []).length+ [b3].length)*(64:Nat)<=ad/\(h.2.2.1.1.getD (g.1.getD Y U).toNat []).length+ [b3].length<=9223372036854775807)/\C/\(g.1.getD Y U).toNat=(g.1.getD Y U).toNat/\J ((h.2.2.1.1.set (g.1.getD Y U).toNat (h.2.2.1.1.getD (g.1.getD Y U).toNat []++ [b3]),h.2.2.1.2),()));let bc:Prop:=(¬(g.1.getD Y U).toNat∈h.2.2.1.2/\u);let L:Prop:=(bc/\¬(g.1.getD Y U).toNat∈h.2.2.1.2/\u/\u);(C/\((bc/\bc)/\(¬(g.1.getD Y U).toNat∈h.2.2.1.2/\u/\u/\u)/\L)/\(¬(g.1.getD Y U).toNat∈h.2.2.1.2/\(u/\u/\u)/\(u/\u)/\u)/\L/\¬(g.1.getD Y U).toNat∈h.2.2.1.2/\(u/\u)/\u)/\∀(bb:C9r),bb.1.1.length.le 9223372036854775807/\True->J bb->q/\H3 (b6,a4.2.2.1)/\∀(w:D1),OZ w.1/\True->w.1=rc (-rv (b6,a4.2.2.1))->(Vy K1 aa/\sz K1 w.1/\Vy K1 V)/\∀(ax:Nw),let b2:=(List.set h.2.1 (g.1.getD Y U).toNat ax.1);FH ax.1/\True->MA (fun(i:Int)=>A4 aa i+rv w.1*A4 V i) ax.1->q/\∃(I:NM->Prop),∃(j: _->Nat),I (U,h.2.2.2.1,())/\∀(o:NM),let am:=(gx D7 V o.1);let ar:=am.1.toNat;let be:Prop:=(o.1<(↑V.length:Int));(Ty.int i64).wf o.1/\o.2.1.1.length.le 9223372036854775807/\True->I o->(decide be=true->(U<=o.1/\be)/\(U<=am.1/\am.1<(↑o.2.1.1.length:Int))/\¬Int.toNat am.1∈o.2.1.2/\I (i64.wrap (o.1+f),(o.2.1.1.set ar (Qw (Ty.int i64) (g.1.getD Y U) (o.2.1.1.getD ar [])),o.2.1.2),())/\j (i64.wrap (o.1+f),(o.2.1.1.set ar (Qw (Ty.int i64) (g.1.getD Y U) (o.2.1.1.getD ar [])),o.2.1.2),())<j o)/\(decide be=false->(U<=g.1.getD Y U/\g.1.getD Y U<(↑b2.length:Int))/\∃(I:NM->Prop),∃(j: _->Nat),I (U,o.2.1,())/\∀(s:NM),let al:=(i64.wrap (h.1+f),List.set h.2.1 (g.1.getD Y U).toNat ax.1,bb.1,s.2.1,());let X:=(gx D7 (b2.getD (g.1.getD Y U).toNat []) s.1);let au:=X.1.toNat;let b9:Prop:=(s.1<(↑(b2.getD (g.1.getD Y U).toNat []).length:Int));(Ty.int i64).wf s.1/\s.2.1.1.length.le 9223372036854775807/\True->I s->(decide b9=true->(U<=s.1/\b9)/\(U<=X.1/\X.1<(↑s.2.1.1.length:Int))/\¬Int.toNat X.1∈s.2.1.2/\I (i64.wrap (s.1+f),(s.2.1.1.set au (Eb (Ty.int i64) (g.1.getD Y U) true (s.2.1.1.getD au [])),s.2.1.2),())/\j (i64.wrap (s.1+f),(s.2.1.1.set au (Eb (Ty.int i64) (g.1.getD Y U) true (s.2.1.1.getD au [])),s.2.1.2),())<j s)/\(decide b9=false->I_2 al/\bx al<bx h)))/\(decide P=false->I bh/\j bh<j b))))/\(decide (b.1<x.1.1)=false->∃(I:D0w->Prop),∃(j: _->Nat),I (b.2.2.2.2.1,U,List.replicate a7 [],List.replicate a7 [],b.2.2.2.2.2.2.1,())/\∀(a:D0w),let bo:=(x.1.1,x.1.1,a.2.2.1);let b0:=(a.1.length:Int);let a2:=a.2.1.toNat;let Z:=(b.2.2.1,b.2.2.2.1,bo,x.1.1,x.1.1,a.2.2.2.1);let W:=(List.getD b.2.2.1 a2 U);let b4:=(List.getD b.2.2.2.2.2.1 W.toNat []);let H:Prop:=(a.2.1<bn);let ay:Prop:=(U<=a.2.1/\a.2.1<(a.2.2.1.length:Int));let b7:(D1)->Prop:=(λr=>((a.2.2.2.2.1.1.getD W.toNat []).length+ [(a.2.1,r.1)].length)*(64:Nat)<=ad/\(a.2.2.2.2.1.1.getD W.toNat []).length+ [(a.2.1,r.1)].length<=9223372036854775807);(Ty.int i64).sl.wf a.1/\(Ty.int i64).wf a.2.1/\Ye a.2.2.1/\Ye a.2.2.2.1/\a.2.2.2.2.1.1.length.le 9223372036854775807/\True->I a->(decide H=true->(U<=a.2.1/\H)/\∃(J:D0l->Prop),let a8:(D1)->Prop:=(λr=>let bj:=(a.2.1,r.1);(((a.2.2.2.2.1.1.getD W.toNat []).length+ [bj].length)*(64:Nat)<=ad/\(a.2.2.2.2.1.1.getD W.toNat []).length+ [bj].length<=9223372036854775807)/\ay/\J (List.set a.2.2.1 a2 (a.2.2.2.2.1.1.getD W.toNat []++ [bj]),(a.2.2.2.2.1.1,W.toNat::a.2.2.2.2.1.2),()));let N:Prop:=(True/\∀(r:D1),OZ r.1/\True->r.1=ri f->a8 r);let aw:(D1)->Prop:=(λr=>¬W.toNat∈a.2.2.2.2.1.2/\a8 r);((U<=List.getD b.2.2.1 a2 U/\List.getD b.2.2.1 a2 U<(↑a.2.2.2.2.1.1.length:Int))/\((¬W.toNat∈a.2.2.2.2.1.2/\N)/\True/\∀(r:D1),OZ r.1/\True->r.1=ri f->(aw r)/\¬W.toNat∈a.2.2.2.2.1.2/\(b7 r)/\ay/\J (List.set a.2.2.1 a2 (a.2.2.2.2.1.1.getD W.toNat []++ [(a.2.1,r.1)]),(a.2.2.2.2.1.1,W.toNat::a.2.2.2.2.1.2),()))/\(¬W.toNat∈a.2.2.2.2.1.2/\N/\True/\∀(r:D1),OZ r.1/\True->r.1=ri f->(a8 r)/\(a8 r)/\(b7 r)/\ay/\J (List.set a.2.2.1 a2 (a.2.2.2.2.1.1.getD W.toNat []++ [(a.2.1,r.1)]),(a.2.2.2.2.1.1,W.toNat::a.2.2.2.2.1.2),()))/\True/\∀(r:D1),OZ r.1/\True->r.1=ri f->((aw r)/\aw r)/\(¬W.toNat∈a.2.2.2.2.1.2/\(a8 r)/\(a8 r)/\a8 r)/\(aw r)/\¬W.toNat∈a.2.2.2.2.1.2/\(a8 r)/\(b7 r)/\ay/\J (List.set a.2.2.1 a2 (a.2.2.2.2.1.1.getD W.toNat []++ [(a.2.1,r.1)]),(a.2.2.2.2.1.1,W.toNat::a.2.2.2.2.1.2),()))/\∀(c:D0l),Ye c.1/\c.2.1.1.length.le 9223372036854775807/\True->J c->(U<=List.getD b.2.2.1 a2 U/\List.getD b.2.2.1 a2 U<(b.2.2.2.2.2.1.length:Int))/\(Vy K1 b4/\List.length a.1<=100000)/\∀(a1:List EE×Bool×Unit),let bi:=(a.1,i64.wrap (a.2.1+f),c.1,List.set a.2.2.2.1 a2 a1.1,c.2.1,());FH a1.1/\True/\True->(G2 a.1 b0->(∀(k:Int),A4 b4 k≠(0:Rat)->U<=k/\k<b0)->MA (fun(i:Int)=>if U<=i/\i<b0 then A4 b4 (↑(List.idxOf i a.1):Int)else(0:Rat)) a1.1/\a1.2.1=true)->(U<=a.2.1/\a.2.1<(a.2.2.2.1.length:Int))/\I bi/\j bi<j a)/\(decide H=false->(¬A3 x.1->Z=WS/\U=f)/\(A3 x.1->(x.1.1≠x.1.2.1->Z=WS/\U=a5)/\(x.1.1=x.1.2.1->(¬nonsing x.1.1.toNat (el x.1)->Z=WS/\U=a6)/\(nonsing x.1.1.toNat (el x.1)->O3 Z x.1.1/\U=U/\(∀(v:List EE),v∈a.2.2.1->R3 v)/\(∀(v:List EE),v∈a.2.2.2.1->R3 v)/\(∀(T:Nat),(1:Nat)<=T->Jr x.1.1.toNat x.1.1.toNat (el x.1) T->∀(i k:Nat),i<x.1.1.toNat->qs (T+T) (el bo i k)/\qs (T+T) (el (x.1.1,x.1.1,a.2.2.2.1) i k))/\∀(i k:Nat),i<x.1.1.toNat->k<x.1.1.toNat->GB Z x.1.1.toNat i k=el x.1 (ix b.2.2.1 i) (ix b.2.2.2.1 k))))))))))
def GJ (x:A5 T2.args):C7h prog VP Tv Ru T2 f10 x=Ji x:=by kernel_rfl
def D1v (n:Nat) (M:J6) (b:Wf) (rows c:List (List C8)) (a:List T6) (q:Int×Int×Bool×Wf×List (List C8)×NR×NB×Unit):Prop:=q.2.2.2.2.1=rows/\q.2.2.2.2.2.1.1=c/\oB n q.2.2.2.2.2.1.2/\q.2.2.2.2.2.2.1.1=a/\oB n q.2.2.2.2.2.2.1.2/\(q.2.2.1=false->¬nonsing n (el M))/\(q.2.2.1=true->q.2.1∈b/\q.1∈keys (a.getD q.2.1.toNat [])/\q.2.2.2.1.Nodup/\∀x,x∈q.2.2.2.1↔x∈b/\x≠q.2.1)
def C4e (n:Nat) (b:Wf) (a:List T6) (q:Int×NB×Unit):Prop:=0<=q.1/\q.1<(b.length:Int)/\q.2.1.1=a/\oB n q.2.1.2
def C8h (n:Nat) (a:Wf) (b:List T6) (q:Int×Int×NB×Unit):Prop:=0<=q.1/\q.1<(a.length:Int)/\0<=q.2.1/\q.2.1<=(a.length:Int)/\q.2.2.1.1=b/\oB n q.2.2.1.2
def D1w (n:Nat) (a:Wf) (b:Nat) (rows d:List (List C8)) (c:List T6) (q:Wf×List (List C8)×NR×NB×Unit):Prop:=q.1=a.take b++a.drop (b+1)/\q.2.1=rows/\q.2.2.1.1=d/\oB n q.2.2.1.2/\q.2.2.2.1.1=c/\oB n q.2.2.2.1.2
def D2e (es:T6) (q:Int×(T6×T6)×Unit):Prop:=q.2.1.1=es/\(∀y∈q.2.1.2,y∈es)/\((q.1<0/\q.2.1.2.length=es.length)\/q.1∈keys es)
def D2f (n:Nat) (a:List T6) (c:Int) (q:Int×NB×Unit):Prop:=q.1∈keys (a.getD c.toNat [])/\q.2.1.1=a/\oB n q.2.1.2
def D2c (es:T6) (q:Wf×(T6×T6)×Unit):Prop:=q.2.1.1=es/\(q.1++keys q.2.1.2).Perm (keys es)
def D2d (n:Nat) (a:List T6) (c:Int) (q:Wf×NB×Unit):Prop:=q.1.Perm (keys (a.getD c.toNat []))/\q.2.1.1=a/\oB n q.2.1.2
def K3 (n:Nat) (M:J6) (k:Nat) (d P:Wf) (rows b:List (List C8)) (r c:Int) (a:Wf) (q:Int×List (List C8)×NR×NB×Unit):Prop:=0<=q.1/\q.1<=(a.length:Int)/\(∀s,1<=s->Jr n n (el M) s->CI n k (s+s) d P rows b r c (a.take q.1.toNat) q.2.1 q.2.2.1.1 q.2.2.2.1.1)/\oB n q.2.2.1.2/\oB n q.2.2.2.1.2
def C8o (x:Rat) (q:Bool×Wf×Wf×Unit):Prop:=((q.1,q.2.1),q.2.2.1)=rc x
def D1z (n:Nat) (P place:Wf) (rows b:List (List C8)) (q:Wf×Int×List (List C8)×List (List C8)×NR×Unit):Prop:=q.1=place/\0<=q.2.1/\q.2.1<=(n:Int)/\q.2.2.1.length=n/\q.2.2.2.1.length=n/\q.2.2.2.2.1.1=b/\(∀m∈q.2.2.2.2.1.2,n<=m\/∃a:Nat,(a:Int)<q.2.1/\m=ix P a)/\(∀a:Nat,(a:Int)<q.2.1->q.2.2.1.getD a []=b.getD (ix P a) []++ [((a:Int),rc 1)])/\∀a:Nat,(a:Int)<q.2.1->MA (λi=>if 0<=i/\i<(n:Int)then A4 (rows.getD (ix P a) []) ((List.idxOf i place:Nat):Int)else 0) (q.2.2.2.1.getD a [])
def EI.okFin {n k:Nat} {S:Nat->Nat} {A:Nat->Nat->Rat} {g P Q place:Wf} {rows c:List (List C8)} {b:List T6} (h:EI n k S A g P Q place rows c b) (i:n<=16384) {a:Nat} (d:a<k) (f:S a<=K1):Vy K1 (rows.getD (ix P a) []):=by
 obtain⟨b,c,_⟩:=h.can _ (h.elim.plt a d);have:=Aa (n:=(n:Int)) (v:=rows.getD (ix P a) []) ⟨b.1,λe he=>⟨(c e he).1,(c e he).2,(b.2 e he).1⟩⟩;exact⟨b.1,LP b λj=>G4 (h.fin a d j) f,ω⟩
def EI.cnt {n k:Nat} {S:Nat->Nat} {A:Nat->Nat->Rat} {a P Q place:Wf} {rows c:List (List C8)} {b:List T6} (h:EI n k S A a P Q place rows c b) (d:n<=16384) {i:Int} (f:0<=i) (g:i<(a.length:Int)):(0<=a.getD i.toNat 0/\a.getD i.toNat 0<((b.length:Nat):Int))/\(a.getD i.toNat 0).toNat<n/\(b.getD (a.getD i.toNat 0).toNat []).length<=9223372036854775807/\a.getD i.toNat 0∈a:=by
 have b:a.getD i.toNat 0∈a:=D4 ω;obtain⟨a,c1⟩:=h.crange b;have:=h.colLen b;rw[h.lcols];exact⟨⟨a,c1⟩,ω,ω,b⟩
set_option maxHeartbeats 4000000
def GK:sq T2 Ji:=λx c2 fc=>by
 obtain⟨⟨R,C,D⟩,_⟩:=x;have f4:Hc (R,C,D):=R4 c2.1.2.2.2;change Int at R C;change List (List C8)at D;obtain⟨fl,f0⟩:J1 K1 (R,C,D)/\(A3 (R,C,D)->R=C->∃T:Nat,1<=T/\8*T+8<=K1/\Jr R.toNat R.toNat (el (R,C,D)) T):=fc;simp only[Ji];refine⟨trivial,?_⟩;rintro⟨u,_⟩ _ I;simp only at I|-;by_cases a7:A3 (R,C,D)
 case neg=>
  have I:u=false:=by rw[I];exact qX a7
  rw[I];exact⟨λ_=>⟨λ_=>⟨rfl,trivial⟩,λh=>absurd h a7⟩,λh=>(by cases h)⟩
 have I:u=true:=by rw[I];exact rB a7
 rw[I];obtain⟨g6,g7,g8,g9,eg,eh⟩:=id a7;simp only at g6 g7 g8 g9 eg eh;refine⟨λh=>(by cases h),λ_=>⟨λbv=>?_,λch=>?_⟩⟩
 . have bv:=qA bv;exact⟨λh=>absurd a7 h,λ_=>⟨λ_=>⟨rfl,trivial⟩,λh=>absurd h bv⟩⟩
 have ch:R=C:=qM (qB ch);subst ch;obtain⟨n,rfl⟩:∃n:Nat,R=(n:Int):=⟨R.toNat,ω⟩;obtain⟨V,cs,gz,c0⟩:=f0 a7 rfl;rw[qN]at c0;simp only[qN];have b1:0<=(n:Int)/\(n:Int)<=(n:Int)/\8*(n:Int)<=281474976710656/\(n:Int)<=9223372036854775807:=⟨ω,qH _,ω,ω⟩;have bi:0<=(n:Int)/\(n:Int)<=(n:Int)/\24*(n:Int)<=281474976710656/\(n:Int)<=9223372036854775807:=⟨ω,qH _,ω,ω⟩;refine⟨b1,b1,bi,bi,b1,bi,bi,b1,b1,ME n,λp=>((n:Int)-p.1).toNat,ME.init,?_⟩;rintro⟨(bf:Int),⟨(ag:List T6),en⟩,left,_⟩ _ H;simp only;have bu:=H.1;have ds:=H.2.1;have f5:ag.length=n:=H.2.2.1;have f6:left.length=n:=H.2.2.2.2.2.1;simp only at bu ds;refine⟨λf=>?_,λf=>?_⟩
 . have f:=qA f;rw[wv ω];exact⟨⟨bu,ω⟩,⟨bu,ω⟩,H.next f,ω⟩
 have f:=qB f;have co:(n:Int)<=bf:=ω
 have gq:(D.length:Int)=(n:Int):=eg;refine⟨HG n D,λp=>((n:Int)-p.1).toNat,HG.init H co,?_⟩;rintro⟨(X:Int),ee,⟨a1,d4⟩,_⟩ _ an;change List (List C8)at ee;change List T6 at a1;simp only;have av:=an.1;have e0:=an.2.1;have fi:ee.length=n:=an.2.2.1;simp only at av e0;refine⟨λw=>?_,λw=>?_⟩
 . have w:=qA w;have fm:X<(n:Int):=ω
   have cn:=F6 (d:=([]:List C8)) av w;rw[Ir av w]at cn|-;have cv:=eh _ cn;have a6:=JN a7 fl cn;refine⟨⟨av,w⟩, .inl ⟨a6.1,a6.2.1,a6.2.2⟩,?_⟩;rintro⟨(ax:List C8),_⟩ _ c2;simp only at c2|-;refine⟨⟨av,ω⟩,TF n (λi=>A4 (D.getD i [])) X (D.getD X.toNat []),λp=>(((D.getD X.toNat []).length:Int)-p.1).toNat,an.row,?_⟩;rintro⟨(c4:Int),⟨(cols2:List T6),d5⟩,_⟩ _ b8;simp only;have ey:=b8.1;have ez:=b8.2.1;simp only at ey ez;have e3:∀e∈D.getD X.toNat [],0<=e.1/\e.1<(n:Int):=λe a2=>⟨(cv.2 e a2).1,(cv.2 e a2).2.1⟩
   have fa:=a6.2.2;refine⟨λE=>?_,λE=>?_⟩
   . have E:=qA E;rw[wv ω];obtain⟨r,s,a9⟩:=b8.rng e3 E;exact⟨r,s,a9,b8.next e3 E,ω⟩
   have E:=qB E;rw[wv ω];exact⟨an.next fm cv c2 b8 ω,ω⟩
 have w:=qB w;have dt:(n:Int)<=X:=ω
 refine⟨C2d n ((n:Int),(n:Int),D),λp=>((n:Int)-p.1).toNat,C2d.init a7 f4 rfl rfl H co an dt,?_⟩;clear H bu ds f5 f6 an av e0 fi f co w dt;rintro⟨(o:Int),(M:Wf),(P:Wf),(Q:Wf),(place:Wf),rows,⟨c3,gj⟩,⟨ag,en⟩,_⟩ _ ⟨cy,fp,ak,b3,d6⟩;change List (List C8)at rows c3;change List T6 at ag;simp only at cy fp ak b3 d6|-;have a:=ak V cs c0;refine⟨λb9=>?_,λb9=>?_⟩
 . have b9:=qA b9;have cm:o.toNat<n:=ω
   have b6:V+V<=K1:=ω
   have gw:=a.more cm;have bb:=a.lrows;have dp:=a.llow;have dn:=a.lcols;have gy:M.length<=n:=RI a.rnd λx hx=>a.crange hx
   refine⟨D1v n ((n:Int),(n:Int),D) M rows c3 ag,⟨C4e n M ag,⟨C8h n M ag,λq=>((M.length:Int)-q.2.1).toNat,⟨qH _,by simp only;omega,qH _,by simp only;omega,rfl,d6⟩,?_⟩,?_⟩,?_⟩
   . rintro⟨(b:Int),(j:Int),⟨b2,d3⟩,_⟩ _ ⟨a0,a3,ab,cx,rfl,N⟩;simp only at a0 a3 ab cx N|-;refine⟨λk=>?_,λk=>⟨a0,a3,rfl,N⟩⟩;have k:=qA k;obtain⟨c6,bg,c7,ay⟩:=a.cnt ω ab k;obtain⟨ej,ek,em,gd⟩:=a.cnt ω a0 a3;simp only[NG];refine⟨C4e n M b2,⟨⟨ab,k⟩,c6,N _ bg,c7,⟨a0,a3⟩,ej,N _ ek,em,λ_=>⟨ab,k,rfl,N⟩,λ_=>⟨a0,a3,rfl,N⟩⟩,?_⟩;rintro⟨(ei:Int),⟨cols2,d5⟩,_⟩ _ ⟨az,b0,rfl,ah⟩;simp only at az b0 ah|-;obtain⟨bj,bk,bl,gn⟩:=a.cnt ω az b0;rw[wv ω];exact⟨⟨az,b0⟩,bj,ah _ bk,bl,λ_=>⟨az,b0,rfl,ah⟩,λ_=>⟨⟨az,b0,by simp only;omega,by simp only;omega,rfl,ah⟩,ω⟩⟩
   . rintro⟨(b:Int),⟨b2,d3⟩,_⟩ _ ⟨a0,a3,rfl,N⟩;simp only at a0 a3 N|-;obtain⟨c6,bg,c7,ay⟩:=a.cnt ω a0 a3;simp only[NG];refine⟨⟨a0,a3⟩,c6,N _ bg,c7,λaj=>?_,λaj=>?_⟩
     . have aj:=qA aj;exact⟨rfl,rfl,b3,rfl,N,λ_=>a.stuck ay (qR (g4b.1 aj)),λh=>(by cases h)⟩
     have aj:=qB aj;rw[wv ω];simp only[qN,vG];rw[(ω:(b+1).toNat=b.toNat+1)];have ba:b.toNat+(List.drop (b.toNat+1) M).length<=n:=by rw[sW];omega
     generalize ac:M.getD b.toNat 0=c at*;obtain⟨bh,c1⟩:=a.crange ay;have cp:=a.pick (b:=b.toNat) ω;rw[ac]at cp;refine⟨⟨a0,a3⟩,D1w n M b.toNat rows c3 b2,⟨⟨qH _,a0,ω⟩,⟨ω,ω,qH _⟩,⟨⟨ω,ω⟩,rfl,rfl,rfl,b3,rfl,N⟩,⟨ω,ω⟩,rfl,rfl,rfl,b3,rfl,N⟩,?_⟩;rintro⟨(fy:Wf),ed,⟨h2,gk⟩,⟨cols2,d5⟩,_⟩ _ ⟨ai,rfl,rfl,b4,rfl,aq⟩;simp only at ai b4 aq|-;obtain⟨gt,dd⟩:=a.col c ay;have fj:∀y:Int×Bool,y∈cols2.getD c.toNat []->0<=y.1/\y.1<(ed.length:Int):=λy a8=>by
      obtain⟨cc,ga,_⟩:=(dd y.1).1 (A1g a8);rw[bb];exact⟨cc,ga⟩
     have bv:0<(cols2.getD c.toNat []).length:=by
      rcases vN (cols2.getD c.toNat []).length with J|J
      . exact absurd (g4b.2 J) aj
      exact J
     have cf:c<(cols2.length:Int):=by rw[dn];exact c1
     refine⟨D2f n cols2 c,⟨⟨bh,cf⟩,aq _ bg,D2e (cols2.getD c.toNat []),λq=>q.2.1.2.length,⟨rfl,λy a8=>a8, .inl ⟨by show(-1:Int)<0;decide,rfl⟩⟩,?_⟩,?_⟩
     . rintro⟨(i:Int),⟨ep,(left:T6)⟩,_⟩ _ ⟨rfl,ae,B⟩;simp only at ae B|-;refine⟨λa4=>⟨λh=>(by cases h),λ_=>⟨?_,NG _ _ _,aq⟩⟩,λl1 y l2 a4=>⟨λ_=>?_,λh=>(by cases h)⟩⟩
       . rcases B with⟨_,B⟩ |B
         . rw[a4]at B;simp only[yL]at B;omega
         exact B
       have a8:=fj y (ae y (by rw[a4];simp));have fo:y.1∈keys (cols2.getD c.toNat []):=A1g (ae y (by rw[a4];simp));have e1:∀z∈l1++l2,z∈cols2.getD c.toNat []:=λz J=>ae z (by
        rw[a4];rcases qZ.1 J with J|J
        . exact sJ _ J
        exact tN _ (qJ _ J))
       have bs:(l1++l2).length<left.length:=by rw[a4,rS,rS,rH];omega
       have ad:¬i<0->i∈keys (cols2.getD c.toNat [])/\0<=i/\i<(ed.length:Int):=λh=>by
        rcases B with⟨E,_⟩ |E
        . exact absurd E h
        obtain⟨cc,ga,_⟩:=(dd i).1 E;rw[bb];exact⟨E,cc,ga⟩
       have f7:∀ {q:Bool},F5 (decide (i<0)) true q=false->¬i<0:=λ{q} h E=>by
        rw[rB E]at h;cases h
       refine⟨λ_=>a8,λh=>(ad (qB h)).2,λ_=>a8,λh=>(ad (f7 h)).2,λ_=>⟨⟨rfl,e1, .inr fo⟩,bs⟩,λh=>⟨⟨rfl,e1, .inr (ad ?_).1⟩,bs⟩⟩;intro E;rw[rB E]at h;cases h
     rintro⟨i,⟨gb,gg⟩,_⟩ _ ⟨ae,rfl,be⟩;exact⟨rfl,rfl,b4,rfl,be,λh=>(by cases h),λ_=>⟨ay,ae,ai▸cp.1,ai▸cp.2⟩⟩
   rintro⟨(u:Int),(c:Int),(e8:Bool),(fx:Wf),l,⟨Y,ca⟩,⟨b2,d3⟩,_⟩ _ ⟨rfl,rfl,N,rfl,ah,e6,e7⟩;simp only at N ah e6 e7|-;cases e8 with
   |false=>exact⟨λ_=>⟨λh=>absurd a7 h,λ_=>⟨λh=>absurd rfl h,λ_=>⟨λ_=>⟨rfl,trivial⟩,λh=>absurd h (e6 rfl)⟩⟩⟩,λh=>(by cases h)⟩
   |true=>
   obtain⟨ac,I,fg,fh⟩:=e7 rfl;obtain⟨bh,c1⟩:=a.crange ac;obtain⟨fs,fu,fw,ec⟩:=a.row ac I;have es:=a.lP;have gr:=a.lQ;have bz:=a.lpl;refine⟨λh=>(by cases h),λ_=>?_⟩;have fr:0<=o/\o<(P.length:Int):=⟨cy,ω⟩;have e9:0<=o/\o<(Q.length:Int):=⟨cy,ω⟩;have ea:0<=c/\c<(place.length:Int):=⟨bh,ω⟩;refine⟨λq=>q.1=P.set o.toNat u/\q.2.1=Q.set o.toNat c/\q.2.2.1=place.set c.toNat o,⟨fr,⟨e9,ea,rfl,rfl,rfl⟩,e9,ea,rfl,rfl,rfl⟩,?_⟩;rintro⟨P',Q',eb,_⟩ _ ⟨bj,bk,bl⟩;simp only at bj bk bl|-;have cr:Vy K1 (l.getD u.toNat []):=a.okRow b6 ω ω;have bc:∀e∈l.getD u.toNat [],0<=e.1/\e.1<(n:Int):=(a.can u.toNat ω).2.1;have fe:=(a.can u.toNat ω).2.2;have dx:W8 l u.toNat c.toNat=A4 (l.getD u.toNat []) c:=by unfold W8;rw[(ω:((c.toNat:Nat):Int)=c)]
   rw[dx]at ec;generalize cq:l.getD u.toNat []=t at*;have gv:=cr.2.2;refine⟨⟨fs,by rw[bb];exact fu⟩,IU n M (inC b2) u t,λp=>((t.length:Int)-p.1).toNat,⟨qH _,qF _,dn,ah,λj k=>⟨a.crange k,pM ⟨(a.col j k).1,λx=>yA⟩⟩⟩,?_⟩;rintro⟨(bf:Int),⟨(a1:List T6),d4⟩,_⟩ _ A;simp only;have fz:=A.1;have g0:=A.2.1;simp only at fz g0;refine⟨λf=>?_,λf=>?_⟩
   . have f:=qA f;rw[wv ω];obtain⟨r,s,a9⟩:=A.rng bc f;exact⟨r,s,a9,A.next bc f,ω⟩
   have f:=qB f;have cj:∀W,1<=W->Jr n n (el ((n:Int),(n:Int),D)) W->CI n o.toNat (W+W) M P l Y u c [] l Y a1:=λW r s=>CI.init (ak W r s) ac I A.2.2.1 λj k=>by
    have cc:=(A.2.2.2.2 j k).2;simp only at cc;rw[E6 (ω:(t.length:Int)<=bf)]at cc;rw[cq];exact cc
   have d7:oB n d4:=A.2.2.2.1;have f3:a1.length=n:=A.2.2.1;clear A;obtain⟨cl,bq⟩:=(cj V cs c0).col c ac;have dk:∀x∈keys (a1.getD c.toNat []),0<=x/\x<(n:Int):=λx hx=>⟨((bq x).1 hx).2.1,((bq x).1 hx).2.2.1⟩
   have dj:(keys (a1.getD c.toNat [])).length<=n:=RI cl dk;refine⟨cr,?_⟩;rintro⟨(v:C6),_⟩ _ ct;simp only at ct|-;have cu:qs (V+V) (A4 t c):=fe c;refine⟨by rw[ct];exact N8 (G4 cu b6) δ,?_⟩;rintro⟨(cw:C6),h5,_⟩ _ au;simp only at au|-;rw[ct,H2]at au;obtain⟨au,_⟩:=au.2 ec;have cf:c<(a1.length:Int):=by rw[f3];exact c1
   refine⟨D2d n a1 c,⟨⟨bh,cf⟩,d7 _ ω,D2c (a1.getD c.toNat []),λq=>q.2.1.2.length,⟨rfl,wX _⟩,?_⟩,?_⟩
   . rintro⟨(c8:Wf),⟨ep,(left:T6)⟩,_⟩ _ ⟨rfl,B⟩;simp only at B|-;refine⟨λa4=>⟨λh=>(by cases h),λ_=>⟨?_,NG _ _ _,d7⟩⟩,λl1 y l2 a4=>⟨λ_=>?_,λh=>(by cases h)⟩⟩
     . subst a4;rw[show keys []= []from rfl,wB]at B;exact B
     subst a4;have dw:(c8++ [y.1]++keys (l1++l2)).Perm (keys (a1.getD c.toNat [])):=by
      refine List.Perm.trans ?_ B;rw[uP];refine g3g c8 ?_;unfold keys;rw[uZ,uZ,rT,List.singleton_append];exact List.perm_middle.symm
     have et:=dw.length_eq;rw[rS,rS,rC]at et;have bs:(l1++l2).length<(l1++y::l2).length:=by rw[rS,rS,rH];omega
     exact⟨⟨by rw[rC];omega,by rw[rC];omega⟩,⟨rfl,dw⟩,bs⟩
   rintro⟨(Z:Wf),⟨gc,gh⟩,_⟩ _ ⟨b5,rfl,d8⟩;simp only at b5 d8|-;have fb:Z.Nodup:=b5.nodup_iff.2 cl;have du:∀x,x∈Z↔x≠u/\0<=x/\x<(n:Int)/\(∀g,g<o.toNat->x.toNat≠ix P g)/\W8 l x.toNat c.toNat≠0:=λx=>by rw[b5.mem_iff];exact bq x
   have fa:Z.length<=n:=by
    rw[b5.length_eq];exact dj
   refine⟨K3 n ((n:Int),(n:Int),D) o.toNat M P l Y u c Z,λq=>((Z.length:Int)-q.1).toNat,⟨qH _,qF _,cj,N,d8⟩,?_⟩;clear cj cl bq dk dj b5;rintro⟨(X:Int),d0,⟨cz,eo⟩,⟨c9,gi⟩,_⟩ _ ⟨c5,g5,bn,bm,cb⟩;simp only at c5 g5 bn bm cb|-;have am:=bn V cs c0;refine⟨λw=>?_,λw=>?_⟩
   . have w:=qA w;have f2:Z.getD X.toNat 0∈Z:=D4 ω;have ck:Z.getD X.toNat 0∉Z.take X.toNat:=λhh=>by
      obtain⟨g,O,ar⟩:=vJ.1 hh;rw[rA]at O;rw[g1u,H1 _ _ (ω:X.toNat<Z.length)]at ar;have:=(xK fb).1 ar;omega
     have e2:=Mc (d:=(0:Int)) c5 w;rw[O8 c5 w]at e2;obtain⟨ae,B,be,e5,h0⟩:=(du _).1 f2;generalize Z.getD X.toNat 0=i at*;have aa:i.toNat<n:=ω
     have dh:((i.toNat:Nat):Int)=i:=ω
     have fk:d0.getD i.toNat []=l.getD i.toNat []:=am.ru _ aa (by rw[dh];exact ck);have dr:cz.getD i.toNat []=Y.getD i.toNat []:=by rw[am.lo _ aa,qG (by rw[dh];exact ck)]
     have ba:=a.lowLen aa;have gp:=a.two (i:=u.toNat) (j:=i.toNat) ω aa ω fw e5;have a6:=a.okRow b6 ω aa;have dz:=(a.can _ aa).2.2;have ad:0<=i/\i<(d0.length:Int):=⟨B,by rw[am.lrows];exact be⟩;have di:0<=i/\i<(cz.length:Int):=⟨B,by rw[am.llow];exact be⟩;have ew:i.toNat∉eo:=bm _ aa;rw[fk,dr];have eu:W8 l i.toNat c.toNat=A4 (l.getD i.toNat []) c:=by unfold W8;rw[(ω:((c.toNat:Nat):Int)=c)]
     have gs:4*(V+V)+1<=K1:=ω
     have ff:qs (V+V+(V+V)) (A4 (l.getD i.toNat []) c/A4 t c):=BH (dz c) cu;have F:∀(af:QQ×Unit),OZ af.1/\True->af.1=rc (A4 (l.getD i.toNat []) c)->(H3 af.1/\H3 cw)/\∀(aw:QQ×Unit),OZ aw.1/\True->aw.1=rc (rv af.1*rv cw)->C8o (A4 (l.getD i.toNat []) c/A4 t c) (aw.1.1.1,aw.1.1.2,aw.1.2,()):=λaf _ h1=>by
      refine⟨⟨by rw[h1];exact N8 (G4 (dz c) b6) δ,by rw[au];exact N8 (G4 (B8o cu) b6) δ⟩,λaw _ cc=>?_⟩;rw[h1,au,H2,H2, <-tS]at cc;exact cc
     refine⟨⟨c5,w⟩,C8o (A4 (l.getD i.toNat []) c/A4 t c),⟨ad,⟨a6,λaf ax h=>⟨F af ax h,F af ax h⟩⟩,a6,F⟩,?_⟩;rintro⟨(da:Bool),(db:Wf),(dc:Wf),_⟩ _ ci;have ci:((da,db),dc)=rc (A4 (l.getD i.toNat []) c/A4 t c):=ci;simp only;rw[ci];refine⟨λq=>q.1.1=cz.set i.toNat (Y.getD i.toNat []++ [(o,rc (A4 (l.getD i.toNat []) c/A4 t c))])/\oB n q.1.2,?_,?_⟩
     . have L1:((Y.getD i.toNat []).length+ [(o,rc (A4 (l.getD i.toNat []) c/A4 t c))].length)*64<=140737488355328/\(Y.getD i.toNat []).length+ [(o,rc (A4 (l.getD i.toNat []) c/A4 t c))].length<=9223372036854775807:=by
        have J:∀z:Nat,z<=n->(z+1)*64<=140737488355328/\z+1<=9223372036854775807:=λz J=>⟨ω,ω⟩
        exact J _ (qY ba ω)
       repeat' apply And.intro
       all_goals first
        |exact di.1
        |exact di.2
        |exact ew
        |exact L1.1
        |exact L1.2
        |exact rfl
        |exact bm
        |exact True.intro
     rintro⟨⟨h4,gm⟩,_⟩ _ ⟨dm,d9⟩;simp only at dm d9|-;have dy:qs K1 (A4 (l.getD i.toNat []) c/A4 t c):=G4 ff ω;refine⟨ad,N8 dy δ,?_⟩;rintro⟨(fq:C6),_⟩ _ bw;simp only at bw|-;rw[H2]at bw;refine⟨⟨a6,by rw[bw];exact Tx (A6n dy),cr⟩,?_⟩;rintro⟨(nw:List C8),_⟩ _ a5;simp only at a5|-;have a5:MA (λj=>A4 (l.getD i.toNat []) j-A4 (l.getD i.toNat []) c/A4 t c*A4 t j) nw:=⟨a5.1,λj=>(a5.2 j).trans (by dsimp only;rw[bw,H2,g5q, <-tK])⟩;have bx:∀e∈nw,0<=e.1/\e.1<(n:Int):=λe a2=>qM λhh=>by
      refine(a5.1.2 e a2).1 ?_;rw[<-H8 a5.1.1 a2];refine(a5.2 e.1).trans ?_;dsimp only;rw[C7 (v:=l.getD i.toNat []) (i:=e.1) λy a8 cc=>hh (by rw[<-cc];exact(a.can _ aa).2.1 y a8),C7 (v:=t) (i:=e.1) λy a8 cc=>hh (by rw[<-cc];exact bc y a8),sM,tK,wM,rK]
     have gu:nw.length<=n:=by
      have:=Aa (n:=(n:Int)) (v:=nw) ⟨a5.1.1,λe a2=>⟨(bx e a2).1,(bx e a2).2,(a5.1.2 e a2).1⟩⟩;omega
     refine⟨ad,IU n M (inC c9) i t,λp=>((t.length:Int)-p.1).toNat,⟨qH _,qF _,am.lcols,cb,λj k=>⟨a.crange k,pM ⟨(am.col j k).1,λx=>yA⟩⟩⟩,?_⟩;rintro⟨(c4:Int),⟨(d1:List T6),ge⟩,_⟩ _ A;simp only;have g1:=A.1;have g2:=A.2.1;simp only at g1 g2;refine⟨λf=>?_,λf=>?_⟩
     . have f:=qA f;rw[wv ω];obtain⟨r,s,a9⟩:=A.rng bc f;exact⟨r,s,a9,A.next bc f,ω⟩
     have f:=qB f;have dq:∀j:Int,j∈M->pL (inC c9) i t j (d1.getD j.toNat []):=λj k=>by
      have cc:=(A.2.2.2.2 j k).2;simp only at cc;rwa[E6 (ω:(t.length:Int)<=c4)]at cc
     rw[show(d0.set i.toNat nw).getD i.toNat []=nw from B9 (by rw[am.lrows];exact aa)];refine⟨by rw[qP];exact ad,gY n M (λj x=>inC c9 j x/\¬(x=i/\∃e∈t,e.1=j)) i nw,λp=>((nw.length:Int)-p.1).toNat,⟨qH _,qF _,A.2.2.1,A.2.2.2.1,λj k=>⟨a.crange k,B4p ⟨(dq j k).1,(dq j k).2⟩⟩⟩,?_⟩;rintro⟨(ef:Int),⟨(d2:List T6),gf⟩,_⟩ _ G;simp only;have g3:=G.1;have g4:=G.2.1;simp only at g3 g4;refine⟨λf=>?_,λf=>?_⟩
     . have f:=qA f;rw[wv ω];obtain⟨r,s,a9⟩:=G.rng bx f;exact⟨r,s,a9,G.next bx f,ω⟩
     have f:=qB f;rw[wv ω];refine⟨⟨by simp only;omega,by simp only;omega,λW r s=>?_,d9,G.2.2.2.1⟩,ω⟩;have f9:=CI.next (ak W r s) ac I (bn W r s) B be ae e5 ck (q:=A4 (l.getD i.toNat []) c/A4 t c) (by rw[eu,dx]) (nw:=nw) (by rw[cq];exact a5) (cols2:=d2) G.2.2.1 λj k=>by
      have cc:=(G.2.2.2.2 j k).2;simp only at cc;rw[E6 (ω:(nw.length:Int)<=ef)]at cc;rw[cq];exact cc
     simp only;rw[e2,dm, <-dr];rwa[(ω:((o.toNat:Nat):Int)=o)]at f9
   have w:=qB w;rw[wv ω];refine⟨⟨by simp only;omega,by simp only;omega,λW r s=>?_,bm,cb⟩,ω⟩;have df:=bn W r s;rw[E6 ω]at df;have ex:=CI.doneT (ak W r s) r s ac I df du fg fh;simp only;rw[(ω:(o+1).toNat=o.toNat+1),bj,bk,bl];rwa[(ω:((o.toNat:Nat):Int)=o)]at ex
 have b9:=qB b9;have cm:o=(n:Int):=ω
 subst cm;simp only[qN]at ak a;have bb:=a.lrows;have dp:=a.llow;have es:=a.lP;have fd:=a.places;refine⟨D1z n P place rows c3,λq=>((n:Int)-q.2.1).toNat,⟨rfl,qH _,qF _,rL,rL,rfl,λm H=> .inl (g2i λh=>b3 m h H),λg O=>by simp only at O;omega,λg O=>by simp only at O;omega⟩,?_⟩;rintro⟨eb,(j:Int),L,U,⟨Y,ca⟩,_⟩ _ ⟨rfl,ab,cx,ao,ap,rfl,cg,cd,ce⟩;change List (List C8)at L U;simp only at ab cx ao ap cg cd ce|-;refine⟨λk=>?_,λk=>?_⟩
 . have k:=qA k;have G:j.toNat<n:=ω
   have er:P.getD j.toNat 0=(ix P j.toNat:Int):=a.P0 _ G;have bt:=a.elim.plt _ G;have ba:=a.lowLen bt;have f8:ix P j.toNat∉ca:=λH=>by
    rcases cg _ H with h| ⟨g,O,ar⟩
    . omega
    have:=a.elim.pinj _ _ G (ω:g<n) ar;omega
   have a6:=a.okFin ω G (ω:V+V<=K1);rw[er];simp only[qN];have r:0<=j/\j<(P.length:Int):=⟨ab,k⟩;have s:0<=(ix P j.toNat:Int)/\(ix P j.toNat:Int)<(Y.length:Int):=⟨qF _,by rw[dp];exact sG.2 bt⟩;have a9:0<=j/\j<(L.length:Int):=⟨ab,by rw[ao];omega⟩;have J:∀z:Nat,z<=n->(z+1)*64<=140737488355328/\z+1<=9223372036854775807:=λz J=>⟨ω,ω⟩
   refine⟨r,λq=>q.1=L.set j.toNat (Y.getD (ix P j.toNat) []++ [(j,rc 1)])/\q.2.1.1=Y/\q.2.1.2=ix P j.toNat::ca,?_,?_⟩
   . repeat' first
      |exact f8
      |exact True.intro
      |exact r.1
      |exact r.2
      |exact s.1
      |exact s.2
      |exact a9.1
      |exact a9.2
      |exact rfl
      |exact(J _ (qY ba (qT _))).1
      |exact(J _ (qY ba (qT _))).2
      |apply And.intro
      | (rintro⟨u,_⟩ _ I
         have I:u=rc 1:=I.trans (Xg 1);subst I)
   rintro⟨L4,⟨h3,gl⟩,_⟩ _ ⟨ai,b4,aq⟩;simp only at ai b4 aq|-;refine⟨⟨s.1,by rw[bb];exact sG.2 bt⟩,⟨a6,by rw[a.lpl];omega⟩,?_⟩;rintro⟨(ax:List C8),h6,_⟩ _ dv;simp only at dv|-;have bz:=a.lpl;obtain⟨e4,_⟩:=dv (by rw[bz];exact fd.1) λi f1=>by
    rw[bz];obtain⟨e,a2,rfl⟩:=EH f1;exact(a.can _ bt).2.1 e a2
   rw[bz]at e4;rw[wv ω];refine⟨⟨ab,by rw[ap];omega⟩,⟨rfl,by simp only;omega,by simp only;omega,by simp only;rw[ai,qP];exact ao,by simp only;rw[qP];exact ap,b4,λm H=>?_,λg O=>?_,λg O=>?_⟩,ω⟩
   . simp only at H|-;rw[aq]at H;rcases qV.1 H with h|h
     . exact .inr ⟨j.toNat,ω,h⟩
     rcases cg m h with h| ⟨g,O,ar⟩
     . exact .inl h
     exact .inr ⟨g,ω,ar⟩
   . simp only at O|-;rw[ai];by_cases b7:g=j.toNat
     . subst b7;rw[B9 (by rw[ao];exact G),(ω:((j.toNat:Nat):Int)=j)]
     rw[D8 b7];exact cd g ω
   simp only at O|-;by_cases b7:g=j.toNat
   . subst b7;rw[B9 (by rw[ap];exact G)];exact e4
   rw[D8 b7];exact ce g ω
 have k:=qB k;have G:j=(n:Int):=ω
 subst G;have bo:∀g,g<n->L.getD g []=Y.getD (ix P g) []++ [((g:Int),rc 1)]:=λg O=>cd g ω
 have bp:∀g,g<n->MA (λi=>if 0<=i/\i<(n:Int)then A4 (rows.getD (ix P g) []) ((List.idxOf i eb:Nat):Int)else 0) (U.getD g []):=λg O=>ce g ω
 have de:=a.done ω ao ap bo bp;exact⟨λh=>absurd a7 h,λ_=>⟨λh=>absurd rfl h,λ_=>⟨λh=>absurd a.elim.nonsing h,λ_=>⟨de.1,trivial,(a.cans ao ap bo bp).1,(a.cans ao ap bo bp).2,λW r s g b O=>(ak W r s).sizes (λg=>ω) bo bp O b,de.2⟩⟩⟩⟩
def KV:An:= {}
abbrev C9u:=(Wf×Wf×MM×Int×Int×List (List EE))×List QQ×Unit
def Pv(x:C9u):Prop:=let e:=(4:Int);let d:=(1:Int);let c:=(0:Int);let b:=(↑x.1.1.length:Int);let a:=(x.1.1.length:Int);let f:Prop:=((x.2.1.length:Int)≠a);(c<=a/\a<=(16384:Int)/\J1 K1 x.1.2.2.1/\J1 K1 x.1.2.2.2)/\Gh λr=>(r.1=true↔O3 x.1 a)->(iB ((!r.1)) ((¬O3 x.1 b->d=d)/\(O3 x.1 b->(x.2.1.length≠x.1.1.length->d=e)/\(x.2.1.length=x.1.1.length->d=c))) ((iB (decide f) ((¬O3 x.1 b->e=d)/\(O3 x.1 b->(x.2.1.length≠x.1.1.length->e=e)/\(x.2.1.length=x.1.1.length->e=c))) ((¬O3 x.1 b->c=d)/\(O3 x.1 b->(x.2.1.length≠x.1.1.length->c=e)/\(x.2.1.length=x.1.1.length->c=c))))))
def UL:An:= {loop:= [(12,⟨[1,2,7,8,9,30,31,55,56],[0],[(57,false,vI)],[],[(1, .row tQ 46)]⟩),(7,⟨[1,2,7,8,30],[0],[(31,false,vI)],[],[(1, .row tQ 46)]⟩),(24,⟨[2,7,8,13,15,16,80,81,95,96],[0,2],[(97,false,vI)],[],[(1, .row tQ 46)]⟩),(19,⟨[2,7,8,13,80],[0],[(81,false,vI)],[],[(1, .row tQ 46),(2, .row tQ 46)]⟩)],plan:= [(14,[5,7,10,12],[15],true, .done),(26,[5,7,10,12],[15],true, .done),(28,[5,9],[15],true, .done),(29,[2,5,9],[11],true, .done)]}
abbrev D0k:=Int×List QQ×List QQ×Unit
def Xk(x:C9u):Prop:=let C:=(↑x.1.1.length:Int);let v:=(1:Int);let q:=(0:Int);let n:=(x.1.1.length:Int);let d:Prop:=(q<=n/\n<=n/\(↑(56:Nat):Int)*n<=(281474976710656:Int)/\n<=(9223372036854775807:Int));(List.length x.1.1<=16384/\J1 K1 x.1.2.2.1/\J1 K1 x.1.2.2.2)/\Ci λr=>(¬O3 x.1 n->r.1=v)/\(O3 x.1 n->(List.length x.2.1≠List.length x.1.1->r.1=4)/\(List.length x.2.1=List.length x.1.1->r.1=q))->(iB (decide (r.1≠q)) ((¬O3 x.1 C->Ow QQ= []/\r.1=v)/\(O3 x.1 C->(x.2.1.length≠x.1.1.length->Ow QQ= []/\r.1=4)/\(x.2.1.length=x.1.1.length->r.1=q/\0=x.1.1.length/\(∀(e:QQ),e∈ []->e=rc (rv e))/\∀(i:Nat),i<x.1.1.length->(B8 x.1.1.length fun(j:Nat)=>GB x.1 x.1.1.length i j*rv ([].getD (ix x.1.2.1 j) zr))=rv (x.2.1.getD (ix x.1.1 i) zr)))) (d/\∃(I:A3e->Prop),∃(a: _->Nat),I (q,List.replicate n.toNat dQ,())/\∀(p:A3e),let F:=p.1.toNat;let t:=(gx [] x.1.2.2.1.2.2 p.1);let D:=(↑t.length:Int);let N:=(i64.wrap (D-v));let f:Prop:=(p.1<n);(Ty.int i64).wf p.1/\WfL p.2.1/\True->I p->(iB (decide f) ((q<=p.1/\f)/\(q<=gx q x.1.1 p.1/\gx q x.1.1 p.1<(x.2.1.length:Int))/\(q<=p.1/\p.1<(p.2.1.length:Int))/\(q<=p.1/\p.1<(x.1.2.2.1.2.2.length:Int))/\(q<=q/\q<=i64.wrap (D-v)/\i64.wrap (D-v)<=D)/\∃(I_1:A3e->Prop),∃(b: _->Nat),I_1 (q,List.set p.2.1 F (gx dQ x.2.1 (gx q x.1.1 p.1)),())/\∀(O:A3e),let M:=(List.getD O.2.1 F dQ);let H:=(O.2.1.length:Int);let G:=(i64.wrap (p.1+v),O.2.1,());let l:=(gx D7 (List.drop q.toNat (List.take N.toNat t)) O.1);let w:=(List.getD O.2.1 l.1.toNat dQ);let g:Prop:=(q<=p.1/\p.1<H);let c:Prop:=(O.1<(↑(List.drop q.toNat (List.take N.toNat t)).length:Int));(Ty.int i64).wf O.1/\WfL O.2.1/\True->I_1 O->(iB (decide c) ((q<=O.1/\c)/\g/\(q<=l.1/\l.1<H)/\(sz K1 M/\sz K1 l.2/\sz K1 w)/\N6 λr=>let B:=(i64.wrap (O.1+v),List.set O.2.1 F r.1,());(rv w=(0:Rat)->r.1=List.getD O.2.1 F dQ)/\(rv w≠(0:Rat)->r.1=rc (rv M-rv l.2*rv w))->g/\I_1 B/\b B<b O) (I G/\a G<a p))) (d/\∃(I:D0k->Prop),∃(a: _->Nat),I (q,p.2.1,List.replicate n.toNat dQ,())/\∀(p:D0k),let s:=(i64.wrap (n-v)-p.1);let k:=(i64.wrap s);let o:=(gx [] x.1.2.2.2.2.2 k);let L:=(gx D7 o q);let A:=(↑o.length:Int);let h:Prop:=(p.1<n);(Ty.int i64).wf p.1/\WfL p.2.1/\WfL p.2.2.1/\True->I p->(iB (decide h) ((q<=i64.wrap s/\i64.wrap s<(x.1.2.2.2.2.2.length:Int))/\(q<=v/\v<=A/\A<=A)/\∃(I_1:A3e->Prop),∃(b: _->Nat),I_1 (q,p.2.1,())/\∀(O:A3e),let J:=(O.2.1.length:Int);let z:=(List.getD O.2.1 k.toNat dQ);let m:=(gx D7 (List.drop v.toNat (List.take A.toNat o)) O.1);let y:=(List.getD O.2.1 m.1.toNat dQ);let d:Prop:=(O.1<(↑(List.drop v.toNat (List.take A.toNat o)).length:Int));let c:Prop:=(q<=i64.wrap s/\i64.wrap s<J);(Ty.int i64).wf O.1/\WfL O.2.1/\True->I_1 O->(iB (decide d) ((q<=O.1/\d)/\c/\(q<=m.1/\m.1<J)/\(sz K1 z/\sz K1 m.2/\sz K1 y)/\N6 λr=>let E:=(i64.wrap (O.1+v),List.set O.2.1 k.toNat r.1,());(rv y=(0:Rat)->r.1=List.getD O.2.1 k.toNat dQ)/\(rv y≠(0:Rat)->r.1=rc (rv z-rv m.2*rv y))->c/\I_1 E/\b E<b O) (c/\(q<=q/\q<A)/\(H3 z/\H3 L.2)/\∀(r:nR),let K:=(List.set O.2.1 k.toNat r.1);let u:=(i64.wrap (p.1+v),List.set O.2.1 k.toNat r.1,List.set p.2.2.1 (gx q x.1.2.1 k).toNat (K.getD k.toNat dQ),());OZ r.1/\True/\True->(rv L.2=(0:Rat)->r.2.1=false)/\(rv L.2≠(0:Rat)->r.1=rc (rv z/rv L.2)/\r.2.1=true)->c/\(q<=i64.wrap s/\i64.wrap s<(x.1.2.1.length:Int))/\(q<=i64.wrap s/\i64.wrap s<(↑K.length:Int))/\(q<=gx q x.1.2.1 k/\gx q x.1.2.1 k<(p.2.2.1.length:Int))/\I u/\a u<a p))) ((¬O3 x.1 C->p.2.2.1= []/\q=v)/\(O3 x.1 C->(x.2.1.length≠x.1.1.length->p.2.2.1= []/\q=(4:Int))/\(x.2.1.length=x.1.1.length->q=q/\List.length p.2.2.1=x.1.1.length/\(∀(e:QQ),e∈p.2.2.1->e=rc (rv e))/\∀(i:Nat),i<x.1.1.length->(B8 x.1.1.length fun(j:Nat)=>GB x.1 x.1.1.length i j*rv (List.getD p.2.2.1 (ix x.1.2.1 j) zr))=rv (x.2.1.getD (ix x.1.1 i) zr)))))))))
def oC (k:Nat) (q:Rat) (x:C6):Prop:=sz k x/\Sf x/\rv x=q
def B9s {k:Nat} {q:Rat} (h:qs k q):oC k q (rc q):=⟨Tx h,A8r q,H2 q⟩
def DZ {j k:Nat} {q:Rat} {x:C6} (h:oC j q x) (a:j<=k):oC k q x:=⟨G5 h.1 a,h.2⟩
def C0u {v:List C8} {i:Nat} (a:∀e∈v,0<=e.1/\e.1<(i:Int)) (h:Nat->Rat):W5 v (λj=>h j.toNat)=B8 i λj=>A4 v (j:Int)*h j:=by
 rw[lH a];exact A8 λj _=>by rw[qN]
def dM {s j k:Nat} {a f b r:C6} {x y:Rat} (d:oC j x a) (w:Sf f) (z:sz s f) (D:1<=s) (v:oC k y b) (A:1<=j) (B:1<=k) (t:rv b=0->r=a) (u:rv b≠0->r=rc (rv a-rv f*rv b)):oC (j+(s+k)+1) (x-rv f*y) r:=by
 obtain⟨g,h,i⟩:=id d;obtain⟨l,n,o⟩:=id v;subst i o;by_cases c:rv b=0
 . rw[t c,c,sM,tK,wM,rK];exact DZ d ω
 rw[u c];exact B9s (A6p (Jw h g A) (Kv (Jw w z D) (Jw n l B)))
def FW (Y n i:Nat) (Lm:Nat->Nat->Rat) (b:Nat->Rat) (z:List C6):Prop:=z.length=n/\∀j,j<i->oC Y (rv (z.getD j zr)) (z.getD j zr)/\rv (z.getD j zr)+B8 j (λm=>Lm j m*rv (z.getD m zr))=b j
def FI (s T Y i:Nat) (c:Rat) (w:List C8) (b:List C6) (t:Nat) (z:List C6):Prop:=∃a,z=b.set i a/\Sf a/\rv a=c-W5 (w.take t) (λj=>rv (b.getD j.toNat zr))/\(sz T a\/a=rc (rv a))/\∀m:Nat,(∀e∈w.take t,e.1<(m:Int))->sz (T+m*(s+Y+1)) a
variable {s T Y n i:Nat} {c:Rat} {w:List C8} {z0 z:List C6} {Lm:Nat->Nat->Rat} {b:Nat->Rat}
def FI.init {x:C6} (a:oC T c x):FI s T Y i c w z0 0 (z0.set i x):=
 ⟨x,rfl,a.2.1,by rw[a.2.2];simp only[g0h,W5];rw[tK,wM,rK], .inl a.1,λm _=>G5 a.1 (g5j _ _)⟩
def B4d {d:C8} {w:List C8} (f:asc w) {t:Int} (h:0<=t) (i:t<(w.length:Int)):∀y∈w.take t.toNat,y.1<(gx d w t).1:=λy g=>by
 have c:(w.take (t+1).toNat).Pairwise (λa b=>a.1<b.1):=g1j f;rw[(ω:(t+1).toNat=t.toNat+1),rP,H0 (d:=d) h i,tG]at c;exact c.2.2 y g (gx d w t) (by simp)
def B7y {d:C8} {w:List C8} {t:Int} (b:0<=t) (c:t<(w.length:Int)) {m:Nat} (a:∀e∈w.take (t+1).toNat,e.1<(m:Int)):(gx d w t).1<(m:Int):=a _ (by
 rw[(ω:(t+1).toNat=t.toNat+1),rP,H0 (d:=d) b c];simp)
def mD {T s Y a m:Nat} (h:a+1<=m):T+a*(s+Y+1)+(s+Y)+1<=T+m*(s+Y+1):=by
 have:=rG (s+Y+1) h;rw[tZ]at this;omega
def FI.next (k:FW Y n i Lm b z0) (hT:1<=T) (hY:1<=Y) (hs:1<=s) (hi:i<n) (hasc:asc w) (hw:∀e∈w,0<=e.1/\e.1<(i:Int)/\sz s e.2/\Sf e.2) {t:Int} (t0:0<=t) (t1:t<(w.length:Int)) (h:FI s T Y i c w z0 t.toNat z):
 (z.length=n/\sz (T+n*(s+Y+1)) (z.getD i zr)/\sz Y (z.getD (gx D7 w t).1.toNat zr))/\∀r,(rv (z.getD (gx D7 w t).1.toNat zr)=0->r=z.getD i zr)->(rv (z.getD (gx D7 w t).1.toNat zr)≠0->r=rc (rv (z.getD i zr)-rv (gx D7 w t).2*rv (z.getD (gx D7 w t).1.toNat zr)))->FI s T Y i c w z0 (t+1).toNat (z.set i r):=by
 obtain⟨A,rfl,H,M,F,O⟩:=h;have G:=F6 (d:=D7) t0 t1;obtain⟨Q,R,B,D⟩:=hw _ G;have E:=B4d (d:=D7) hasc t0 t1;have N:=QC (d:=D7) t0 t1 (λj=>rv (z0.getD j.toNat zr));have P:∀m:Nat,(∀e∈w.take (t+1).toNat,e.1<(m:Int))->(gx D7 w t).1<(m:Int):=λm f=>B7y t0 t1 f
 generalize gx D7 w t=e at*;have J:e.1.toNat≠i:=ω
 have I:=k.1;rw[D8 J,B9 ω];obtain⟨l,_⟩:=k.2 e.1.toNat ω;have g:=O e.1.toNat λy hy=>by have:=E y hy;omega
 have U:=mD (T:=T) (s:=s) (Y:=Y) (ω:e.1.toNat+1<=n);refine⟨⟨by rw[qP];exact I,G5 g ω,l.1⟩,λr u v=>?_⟩;have a:=dM (x:=rv A) ⟨g,H,rfl⟩ D B hs l ω hY u v;refine⟨r,by rw[g5a],a.2.1,?_,?_,λm f=>?_⟩
 . rw[a.2.2,N,M];grind
 . by_cases o:rv (z0.getD e.1.toNat zr)=0
   . rw[u o];exact F
   right;rw[v o,H2]
 exact G5 a.1 (mD (by have:=P m f;omega))
def FI.done (o:FW Y n i Lm b z0) (I:i<n) (H:∀e∈w,0<=e.1/\e.1<(i:Int)) (v:∀j,j<i->A4 w (j:Int)=Lm i j) {t:Nat} (G:w.length<=t) (h:FI s T Y i (b i) w z0 t z) (x:T<=Y) (E:qs Y (b i-B8 i λm=>Lm i m*rv (z0.getD m zr))):FW Y n (i+1) Lm b z:=by
 obtain⟨l,rfl,B,d,a,_⟩:=h;have D:=o.1;rw[qU G]at d;have k:∀j,j<i->(z0.set i l).getD j zr=z0.getD j zr:=λj y=>D8 ω
 have F:W5 w (λj=>rv (z0.getD j.toNat zr))=B8 i λm=>Lm i m*rv (z0.getD m zr):=by
  rw[C0u H (λm=>rv (z0.getD m zr))];exact A8 λm c=>by rw[v m c]
 rw[F]at d;refine⟨by rw[qP];exact D,λj y=>?_⟩;by_cases A:j=i
 . subst A;rw[B9 ω];refine⟨⟨?_,B,rfl⟩,?_⟩
   . rcases a with a|a
     . exact G5 a x
     rw[a,d];exact Tx E
   rw[d,A8 (f:=λm=>Lm j m*rv ((z0.set j l).getD m zr)) (g:=λm=>Lm j m*rv (z0.getD m zr)) λm c=>by rw[k m c]];grind
 rw[k j ω];obtain⟨r,u⟩:=o.2 j ω;refine⟨r,?_⟩;rw[<-u];congr 1;exact A8 λm c=>by rw[k m ω]
def C7i {α:Type} (l:List α) (i:Nat) (d:α):l.set i (l.getD i d)=l:=by
 refine g2b (by rw[qP]) λj b a=>?_
 rw[g5g];split
 . rename_i e;subst e;rw[H1 _ _ a]
 rfl
def BW (Y n i:Nat) (U:Nat->Nat->Rat) (y:Nat->Rat) (z:List C6):Prop:=z.length=n/\(∀j,j<i->oC Y (y j) (z.getD j zr))/\∀j,i<=j->j<n->(∃q,z.getD j zr=rc q/\qs Y q)/\B8 n (λm=>U j m*rv (z.getD m zr))=y j
def BI (s Y n i:Nat) (c:Rat) (w:List C8) (z0:List C6) (t:Nat) (z:List C6):Prop:=∃a,z=z0.set i a/\Sf a/\rv a=c-W5 (w.take t) (λj=>rv (z0.getD j.toNat zr))/\∀m:Nat,(∀e∈w.take t,e.1<(m:Int))->sz (Y+m*(s+Y+1)) a
variable {s Y n i:Nat} {c:Rat} {w:List C8} {z0 z:List C6} {U:Nat->Nat->Rat} {y:Nat->Rat}
def BI.init (d:BW Y n (i+1) U y z0) (a:i<n):BI s Y n i (y i) w z0 0 z0:=by
 obtain⟨a,b,c⟩:=d.2.1 i (rN _);refine⟨z0.getD i zr,(C7i z0 i zr).symm,b,?_,λm _=>G5 a (g5j _ _)⟩;rw[c];simp only[g0h,W5];rw[tK,wM,rK]
def BI.next (f:BW Y n (i+1) U y z0) (hs:1<=s) (hY:1<=Y) (hi:i<n) (hasc:asc w) (hw:∀e∈w,(i:Int)<e.1/\e.1<(n:Int)/\sz s e.2/\Sf e.2) {t:Int} (t0:0<=t) (t1:t<(w.length:Int)) (h:BI s Y n i c w z0 t.toNat z):
 (z.length=n/\sz (Y+n*(s+Y+1)) (z.getD i zr)/\sz Y (z.getD (gx D7 w t).1.toNat zr))/\∀r,(rv (z.getD (gx D7 w t).1.toNat zr)=0->r=z.getD i zr)->(rv (z.getD (gx D7 w t).1.toNat zr)≠0->r=rc (rv (z.getD i zr)-rv (gx D7 w t).2*rv (z.getD (gx D7 w t).1.toNat zr)))->BI s Y n i c w z0 (t+1).toNat (z.set i r):=by
 obtain⟨l,rfl,B,H,J⟩:=h;have A:=F6 (d:=D7) t0 t1;obtain⟨P,Q,o,u⟩:=hw _ A;have v:=B4d (d:=D7) hasc t0 t1;have I:=QC (d:=D7) t0 t1 (λj=>rv (z0.getD j.toNat zr));have M:∀m:Nat,(∀e∈w.take (t+1).toNat,e.1<(m:Int))->(gx D7 w t).1<(m:Int):=λm b=>B7y t0 t1 b
 generalize gx D7 w t=e at*;have E:e.1.toNat≠i:=ω
 have D:=f.1;rw[D8 E,B9 ω];obtain⟨⟨q,F,G⟩,_⟩:=f.2.2 e.1.toNat ω ω;have k:=J e.1.toNat λy hy=>by have:=v y hy;omega
 have g:oC Y (rv (z0.getD e.1.toNat zr)) (z0.getD e.1.toNat zr):=by
  rw[F,H2];exact B9s G
 have R:=mD (T:=Y) (s:=s) (Y:=Y) (ω:e.1.toNat+1<=n);refine⟨⟨by rw[qP];exact D,G5 k ω,g.1⟩,λr N O=>?_⟩;have a:=dM (x:=rv l) ⟨k,B,rfl⟩ u o hs g ω hY N O;refine⟨r,by rw[g5a],a.2.1,?_,λm b=>?_⟩
 . rw[a.2.2,I,H];grind
 exact G5 a.1 (mD (by have:=M m b;omega))
def BI.done (f:BW Y n (i+1) U y z0) (Q:i<n) (d:∀e∈w,(i:Int)<e.1/\e.1<(n:Int)) (H:∀j,i<j->A4 w (j:Int)=U i j) (u:∀k m,m<k->k<n->U k m=0) (M:U i i≠0) {t:Nat} (O:w.length<=t) (h:BI s Y n i (y i) w z0 t z)
 (N:∀x:Nat->Rat,(∀j,i<=j->j<n->B8 n (λm=>U j m*x m)=y j)->qs Y (x i)):
 sz (Y+n*(s+Y+1)) (z.getD i zr)/\qs Y (rv (z.getD i zr)/U i i)/\BW Y n i U y (z.set i (rc (rv (z.getD i zr)/U i i))):=by
 obtain⟨c,rfl,R,A,E⟩:=h;have J:=f.1;rw[qU O]at A E;rw[B9 ω,g5a];have P:=E n λe a=>(d e a).2
 have D:∀j,B8 n (λm=>U j m*rv ((z0.set i (rc (rv c/U i i))).getD m zr))=B8 n (λm=>if m=i then U j i*(rv c/U i i)else U j m*rv (z0.getD m zr)):=λj=>A8 λm _=>by
  by_cases o:m=i
  . subst o;rw[qK rfl,B9 ω,H2]
  rw[qG o,D8 o]
 have B:∀j,i<=j->j<n->B8 n (λm=>U j m*rv ((z0.set i (rc (rv c/U i i))).getD m zr))=y j:=λj l b=>by
  by_cases g:j=i
  . subst g;rw[D];have F:W5 w (λm=>rv (z0.getD m.toNat zr))=B8 n (λm=>if m=j then 0 else U j m*rv (z0.getD m zr)):=by
     rw[lH (n:=n) λe a=>⟨by have:=(d e a).1;omega,(d e a).2⟩];refine A8 λm o=>?_
     rw[qN];rcases g1v m j with hmj|hmj|hmj
     . rw[qG ω,C7 λe a I=>by have:=(d e a).1;omega,u j m hmj b]
     . rw[qK hmj,C7 λe a I=>by have:=(d e a).1;omega,rV]
     rw[qG ω,H m hmj]
    have G:B8 n (λm=>if m=j then U j j*(rv c/U j j)else U j m*rv (z0.getD m zr))=B8 n (λm=>(if m=j then U j j*(rv c/U j j)else 0)+if m=j then 0 else U j m*rv (z0.getD m zr)):=A8 λm _=>by
     split
     . rw[rK]
     rw[sR]
    rw[G,Ag, <-F,G7 b λm _ o=>qG o,qK rfl,A,tS,wW,tU,wU _ M,uJ];grind
  rw[D, <-(f.2.2 j ω b).2];refine A8 λm o=>?_
  by_cases r:m=i
  . rw[qK r,r,u j i ω b,rV,rV]
  rw[qG r]
 have v:qs Y (rv c/U i i):=by
  have:=N _ B;rwa[B9 ω,H2]at this
 refine⟨P,v,by rw[qP];exact J,λj l=>?_,λj l b=>⟨?_,B j l b⟩⟩
 . rw[D8 ω];exact f.2.1 j ω
 by_cases g:j=i
 . subst g;exact⟨_,B9 ω,v⟩
 rw[D8 g];exact(f.2.2 j ω b).1
def B9n (b:∀k m,m<k->k<n->U k m=0) (c:∀i,i<n->U i i≠0):∀(i:Nat) (x:Nat->Rat),i<=n->(∀j,i<=j->j<n->B8 n (λm=>U j m*x m)=y j)->∃a:Nat->Rat,(∀j,i<=j->a j=x j)/\∀j,j<n->B8 n (λm=>U j m*a m)=y j
 |0,x,_,h=>⟨x,λ_ _=>rfl,λj d=>h j (rQ _) d⟩
 |i+1,x,s,h=>by
  let q:=y i-B8 n (λm=>if m=i then 0 else U i m*x m)
  have r:∀j,B8 n (λm=>U j m*(if m=i then q/U i i else x m))=U j i*(q/U i i)+B8 n (λm=>if m=i then 0 else U j m*x m):=λj=>by
   rw[A8 (g:=λm=>(if m=i then U j i*(q/U i i)else 0)+if m=i then 0 else U j m*x m) λm _=>by
    by_cases e:m=i
    . subst e;rw[qK rfl,qK rfl,qK rfl,rK]
    rw[qG e,qG e,qG e,sR],Ag,G7 (k:=i) ω λm _ o=>qG o,qK rfl]
  obtain⟨a,d,f⟩:=B9n b c i (λm=>if m=i then q/U i i else x m) ω λj l hjn=>by
   rw[r];by_cases e:j=i
   . subst e;rw[tS,wW,tU,wU _ (c j hjn),uJ];show y j-B8 n (λm=>if m=j then 0 else U j m*x m)+ _= _;grind
   rw[b j i ω hjn,rV,sR, <-h j ω hjn];refine A8 λm _=>?_
   by_cases e:m=i
   . subst e;rw[qK rfl,b j m ω hjn,rV]
   rw[qG e]
  exact⟨a,λj l=>by rw[d j ω,qG ω],f⟩
def B8u {n:Nat} {L U:Nat->Nat->Rat} {b:Nat->Rat} {v:Nat->Rat} {y:Nat->Rat} (d:∀j,j<n->y j+B8 j (λm=>L j m*y m)=b j) (f:∀j,j<n->B8 n (λm=>U j m*v m)=y j) (h:∀i,i<n->L i i=1) (l:∀i j,i<j->j<n->L i j=0) {i:Nat} (a:i<n):
 B8 n (λj=>B8 n (λk=>L i k*U k j)*v j)=b i:=by
 have c:B8 n (λj=>B8 n (λk=>L i k*U k j)*v j)=B8 n λk=>L i k*y k:=by
  rw[A8 (g:=λj=>B8 n λk=>L i k*(U k j*v j)) λj _=>by rw[<-jH];exact A8 λk _=>tU _ _ _,EZ];exact A8 λk o=>by rw[Hm,f k o]
 rw[c, <-d i a];have c:∀t,i+1+t<=n->B8 (i+1+t) (λk=>L i k*y k)=y i+B8 i (λm=>L i m*y m):=by
  intro t
  induction t with
  |zero=>intro _;rw[tD,B8,h i a,uB,yK]
  |succ t a=>intro d;rw[<-uM,B8,a ω,l i (i+1+t) ω ω,rV,rK]
 have:=c (n-(i+1)) ω;rwa[(ω:i+1+(n-(i+1))=n)]at this
def BZ:sq Ah Pv:=λx _ i=>by
 obtain⟨⟨P,Q,⟨j,lc,L⟩,⟨l,k,U⟩⟩,b,_⟩:=x;obtain⟨f,c,d⟩:=i;simp only[Pv,iB,Gh];refine⟨⟨qF _,Int.ofNat_le.2 f,c,d⟩,?_⟩;rintro⟨(r:Bool),_⟩ _ a;simp only at a|-;cases r with
 |false=>
  have g:¬O3 (P,Q,(j,lc,L),(l,k,U)) (P.length:Int):=λh=>by have:=a.2 h;cases this
  exact⟨λ_=>⟨λ_=>by trivial,λh=>absurd h g⟩,λh=>(by cases h)⟩
 |true=>
  have h:=a.1 rfl;refine⟨λh=>(by cases h),λ_=>⟨λhne=>⟨λh2=>absurd h h2,λ_=>⟨λ_=>by trivial,λhe=>absurd (sA Int.ofNat he) (qA hne)⟩⟩,λheq=>⟨λh2=>absurd h h2,λ_=>⟨λhne=>absurd (g1w (qM (qB heq))) hne,λ_=>by trivial⟩⟩⟩⟩
def Q3 {p:Wf} {n:Nat} (h:G2 p (n:Int)):p.length=n/\(∀a,a<n->p.getD a 0=(ix p a:Int)/\ix p a<n)/\∀a b,a<n->b<n->ix p a=ix p b->a=b:=by
 obtain⟨c,g,i⟩:=h;have k:p.length=n:=ω
 have c:∀a,a<n->p.getD a 0=(ix p a:Int)/\ix p a<n:=λa f=>by
  have:=g _ (D4 (d:=0) (ω:a<p.length));unfold ix;omega
 refine⟨k,c,λa b f j e=>?_⟩;have g:=(c a f).1;have f:=(c b j).1;rw[<-e]at f;have c:p.getD a 0=p.getD b 0:=g.trans f.symm;rw[H1 _ _ ω,H1 _ _ ω]at c;exact(xK i).1 c
def C6n {v:List C8} {n:Int} (h:E7 v n) {i:Nat} (r:(i:Int)<n) (k:∀j:Nat,(j:Int)<n->i<j->A4 v (j:Int)=0) (o:A4 v (i:Int)=1):v≠ []/\asc (v.take (v.length-1))/\(∀e∈v.take (v.length-1),e∈v/\0<=e.1/\e.1<(i:Int))/\∀j:Nat,j<i->A4 (v.take (v.length-1)) (j:Int)=A4 v (j:Int):=by
 obtain⟨f,y,z⟩:=(A8w h r).2 ⟨k,o⟩;have A:0<v.length:=uX.2 f;have c:v=v.take (v.length-1)++ [gx D7 v ((v.length:Int)-1)]:=by
  have:=Mc (d:=D7) (l:=v) (t:=(v.length:Int)-1) ω ω;rw[(ω:((v.length:Int)-1+1).toNat=v.length),vG,(ω:((v.length:Int)-1).toNat=v.length-1)]at this;exact this
 generalize gx D7 v ((v.length:Int)-1)=l at*;have b:=h.1;generalize u:v.take (v.length-1)=w at*;have s:∀e∈w,e.1<(i:Int):=λe a=>by
  rw[c]at b;have:=(tG.1 b).2.2 e a l (qO.2 rfl);omega
 refine⟨f,u▸g1j b,λe a=>?_,λj x=>?_⟩
 . have g:e∈v:=by rw[c];exact sJ _ a
   exact⟨g,(h.2 e g).1,s e a⟩
 rw[c,R9];have:A4 [l] (j:Int)=0:=C7 λe a hej=>by
  rw[qO]at a;subst a;omega
 rw[this,rK]
def C4s {v:List C8} {n:Int} (h:E7 v n) {i:Nat} (c:∀j:Nat,j<i->A4 v (j:Int)=0) (d:A4 v (i:Int)≠0):1<=v.length/\gx D7 v 0∈v/\rv (gx D7 v 0).2=A4 v (i:Int)/\asc (v.drop 1)/\(∀e∈v.drop 1,e∈v/\(i:Int)<e.1/\e.1<n)/\∀j:Nat,i<j->A4 (v.drop 1) (j:Int)=A4 v (j:Int):=by
 obtain⟨k,b⟩:=(B9o h).2 ⟨c,d⟩;cases v with
 |nil=>exact absurd rfl k
 |cons e r=>
  have g:gx D7 (e::r) 0=e:=rfl;rw[g]at b|-;obtain⟨f,l⟩:=J8.1 h.1;refine⟨by rw[rH];omega,rD,?_,l,λx a=>⟨qJ _ a,?_,(h.2 x (qJ _ a)).2.1⟩,λj o=>?_⟩
  . rw[<-b,P7 h.1]
  . have:=f x a;omega
  exact(Cg ω).symm
def fwI (Y n:Nat) (ML:J6) (c:Nat->Rat) (p:Int×List C6×Unit):Prop:=0<=p.1/\p.1<=(n:Int)/\FW Y n p.1.toNat (el ML) c p.2.1
def fiI (s T Y i:Nat) (c:Rat) (w:List C8) (z0:List C6) (p:Int×List C6×Unit):Prop:=0<=p.1/\p.1<=(w.length:Int)/\FI s T Y i c w z0 p.1.toNat p.2.1
def bwI (Y n:Nat) (Q:Wf) (MU:J6) (y:Nat->Rat) (p:Int×List C6×List C6×Unit):Prop:=0<=p.1/\p.1<=(n:Int)/\BW Y n (n-p.1.toNat) (el MU) y p.2.1/\p.2.2.1.length=n/\∀j,n-p.1.toNat<=j->j<n->p.2.2.1.getD (ix Q j) zr=p.2.1.getD j zr
def biI (s Y n i:Nat) (c:Rat) (w:List C8) (z0:List C6) (p:Int×List C6×Unit):Prop:=0<=p.1/\p.1<=(w.length:Int)/\BI s Y n i c w z0 p.1.toNat p.2.1
def C3m {T:Nat} {b:List C6} (h:nK T b) {i:Nat} (a:i<b.length):sz T (b.getD i zr):=h _ (D4 a)
def JX:sq Di Xk:=λx ar ci=>by
 obtain⟨⟨(P:Wf),(Q:Wf),⟨av,lc,L⟩,⟨b0,ai,U⟩⟩,b,_⟩:=x;change List (List C8)at L U;change List C6 at b;change Int at av lc b0 ai;have cb:Hc (av,lc,L):=R4 ar.1.2.2.1.2.2.2;have cc:Hc (b0,ai,U):=R4 ar.1.2.2.2.2.2.2;have ce:∀x∈b,Sf x:=λx hx=>Vr (ar.2.1.2 x hx)
 obtain⟨ap,c8,c9,c6⟩:=ci;simp only[Xk,iB,Ci,N6];refine⟨⟨ap,c8,c9⟩,?_⟩;rintro⟨(s:Int),_⟩ _ X;simp only at X|-;by_cases M:O3 (P,Q,(av,lc,L),(b0,ai,U)) (P.length:Int)
 case neg=>
  have a6:s=1:=X.1 M;subst a6;exact⟨λ_=>⟨λ_=>⟨by trivial,by trivial⟩,λr=>absurd r M⟩,λr=>absurd r (by simp)⟩
 by_cases R:b.length=P.length
 case neg=>
  have a6:s=4:=(X.2 M).1 R;subst a6;exact⟨λ_=>⟨λr=>absurd M r,λ_=>⟨λ_=>⟨by trivial,by trivial⟩,λr=>absurd r R⟩⟩,λr=>absurd r (by simp)⟩
 have a6:s=0:=(X.2 M).2 R;subst a6;refine⟨λr=>absurd r (by simp),λ_=>?_⟩;obtain⟨D,T0,Y0,af,aj,b8,cm,cn,co,⟨cp,cq⟩,bb⟩:=c6 M R;obtain⟨bf,bg,⟨bo,ag,bk⟩,⟨bp,ah,bl⟩,H⟩:=id M;simp only at bf bg bo ag bp ah;obtain⟨_,b5,d2⟩:=Q3 bf;obtain⟨cy,b6,bn⟩:=Q3 bg;subst bo bp;have ag:lc=(P.length:Int):=ag;have ah:ai=(P.length:Int):=ah;subst ag ah;have ap:P.length<=16384:=ap;have bb:Y0+P.length*(D+Y0+1)+D<=K1:=bb;have ac:1<=Y0:=qY aj b8;generalize an:P.length*(D+Y0+1)=d3 at*;have R:b.length=P.length:=R;have bx:L.length=P.length:=g1w bk.2.2.2.2.1;have c2:U.length=P.length:=g1w bl.2.2.2.2.1;have c0:∀i,i<P.length->E7 (L.getD i []) (P.length:Int)/\AT (L.getD i []):=λi f=>by
  have J:=D4 (d:=([]:List C8)) (ω:i<L.length);exact⟨bk.2.2.2.2.2 _ J,cb _ J⟩
 have c3:∀i,i<P.length->E7 (U.getD i []) (P.length:Int)/\AT (U.getD i []):=λi f=>by
  have J:=D4 (d:=([]:List C8)) (ω:i<U.length);exact⟨bl.2.2.2.2.2 _ J,cc _ J⟩
 have c4:∀i,i<P.length->ix P i<b.length/\Sf (b.getD (ix P i) zr):=λi f=>by
  have:=(b5 i f).2;exact⟨ω,ce _ (D4 ω)⟩
 refine⟨⟨qF _,qH _,ω,ω⟩,fwI Y0 P.length (↑P.length, ↑P.length,L) (λi=>rv (b.getD (ix P i) zr)),λp=>((P.length:Int)-p.1).toNat,⟨qH _,qF _,rL,λj c=>absurd c (tX j)⟩,?_⟩;rintro⟨(i:Int),(z:List C6),_⟩ _ ⟨N,cv,A⟩;simp only at N cv A|-;refine⟨λf=>?_,λf=>?_⟩
 . have f:=qA f;have G:i.toNat<P.length:=ω
   obtain⟨bv,d0⟩:=b5 _ G;obtain⟨ak,c5⟩:=c4 _ G;rw[O8 (d:=(0:Int)) N f,Ir N (ω:i<(L.length:Int)),bv];obtain⟨Y,ao⟩:=c0 _ G;obtain⟨ch,O,u,au⟩:=C6n Y (i:=i.toNat) ω (λj c a4=>(H i.toNat j (sG.2 G) c).1 a4) (H i.toNat i.toNat (sG.2 G) (sG.2 G)).2.1;have cf:0<(L.getD i.toNat []).length:=uX.2 ch;have d1:=Aa Y;have bz:∀e∈L.getD i.toNat [],sz D e.2:=cm _ (D4 (l:=L) (ω:i.toNat<L.length));have ad:∀j:Nat,el ((P.length:Int),(P.length:Int),L) i.toNat j=A4 (L.getD i.toNat []) (j:Int):=λ_=>rfl
   generalize L.getD i.toNat []=v at*;rw[wv ω,(ω:((v.length:Int)-1).toNat=v.length-1)];simp only[show Int.toNat 0=0 from rfl,uH];generalize v.take (v.length-1)=w at*;have V:∀e∈w,0<=e.1/\e.1<(i.toNat:Int)/\sz D e.2/\Sf e.2:=λe h=>by
    obtain⟨b4,bt,bu⟩:=u e h;exact⟨bt,bu,bz e b4,ao e b4⟩
   have cr:w.length<=16384:=by
    have:=Aa (n:=(i.toNat:Int)) (v:=w) ⟨O,λe h=>⟨(u e h).2.1,(u e h).2.2,(Y.2 e (u e h).1).2.2⟩⟩;omega
   refine⟨⟨N,f⟩,⟨qF _,sG.2 ak⟩,⟨N,by rw[A.1];exact f⟩,⟨N,by rw[bx];exact f⟩,⟨qH _,ω,ω⟩,fiI D T0 Y0 i.toNat (rv (b.getD (ix P i.toNat) zr)) w z,λp=>((w.length:Int)-p.1).toNat,⟨qH _,qF _,?_⟩,?_⟩
   . show FI D T0 Y0 i.toNat (rv (b.getD (ix P i.toNat) zr)) w z 0 (z.set i.toNat (gx dQ b ↑(ix P i.toNat)));rw[O8 (d:=dQ) (qF _) (sG.2 ak),qN];exact FI.init ⟨C3m co ak,c5,rfl⟩
   rintro⟨(aa:Int),(y:List C6),_⟩ _ ⟨E,az,B⟩;simp only at E az B|-;refine⟨λo=>?_,λo=>?_⟩
   . have o:=qA o;obtain⟨⟨a0,a9,aw⟩,_⟩:=FI.next A aj ac af G O V E o B
     have am:=F6 (d:=D7) E o;obtain⟨b3,ab,a2,bs⟩:=V _ am;rw[an]at a9;rw[wv ω];refine⟨⟨E,o⟩,⟨N,by rw[a0];exact f⟩,⟨b3,by rw[a0];omega⟩,⟨G5 a9 ω,G5 a2 ω,G5 aw ω⟩,?_⟩;rintro⟨(s:C6),_⟩ _ ⟨ax,ay⟩;exact⟨⟨N,by rw[a0];exact f⟩,⟨by simp only;omega,by simp only;omega,(FI.next A aj ac af G O V E o B).2 s ax ay⟩,ω⟩
   have o:=qB o;rw[wv ω];refine⟨⟨by simp only;omega,by simp only;omega,?_⟩,ω⟩;simp only;rw[(ω:(i+1).toNat=i.toNat+1)];refine FI.done A G (λe h=>⟨(u e h).2.1,(u e h).2.2⟩) (λj c=>(au j c).trans (ad j).symm) (ω:w.length<=aa.toNat) B b8 ?_;have:=cp i.toNat (λm=>if m=i.toNat then rv (b.getD (ix P i.toNat) zr)-B8 i.toNat (λm=>el ((P.length:Int),(P.length:Int),L) i.toNat m*rv (z.getD m zr))else rv (z.getD m zr)) G λj c=>by
    rw[A8 (g:=λm=>el ((P.length:Int),(P.length:Int),L) j m*rv (z.getD m zr)) λm J=>by rw[qG ω]];by_cases e:j=i.toNat
    . subst e;rw[qK rfl];grind
    rw[qG e,yK];exact(A.2 j ω).2
   rwa[qK rfl]at this
 have f:=qB f;have c7:i.toNat=P.length:=ω
 rw[c7]at A;refine⟨⟨qF _,qH _,ω,ω⟩,bwI Y0 P.length Q (↑P.length, ↑P.length,U) (λj=>rv (z.getD j zr)),λp=>((P.length:Int)-p.1).toNat,⟨qH _,qF _,?_,rL,λj I a3=>?_⟩,?_⟩
 . exact⟨A.1,λj c=>(A.2 j c).1,λj I a3=>absurd a3 (Nat.not_lt.2 I)⟩
 . simp only[Int.toNat_zero,g2t]at I;omega
 rintro⟨(k:Int),(a1:List C6),(b1:List C6),_⟩ _ ⟨cw,cx,F,a7,a8⟩;simp only at cw cx F a7 a8|-;have be:∀i,i<P.length->el ((P.length:Int),(P.length:Int),U) i i≠0:=λi f=>(H i i (sG.2 f) (sG.2 f)).2.2.2
 have b9:∀a m,m<a->a<P.length->el ((P.length:Int),(P.length:Int),U) a m=0:=λa m J W=>(H a m (sG.2 W) ω).2.2.1 J
 refine⟨λa5=>?_,λa5=>?_⟩
 . have a5:=qA a5;obtain⟨q,t,cj,ck,bh⟩:∃q:Nat,q<P.length/\(P.length:Int)-1-k=(q:Int)/\P.length-k.toNat=q+1/\P.length-(k+1).toNat=q:=⟨P.length-1-k.toNat,ω,ω,ω,ω⟩;have cs:i64.wrap (i64.wrap ((P.length:Int)-1)-k)=(q:Int):=by
    rw[wv (a:=(P.length:Int)-1) ω,wv ω];exact cj
   rw[ck]at F a8;obtain⟨bw,b7⟩:=b6 q t;have T:(q:Int)<(P.length:Int):=sG.2 t;obtain⟨Y,ao⟩:=c3 q t;have ba:∀e∈U.getD q [],sz D e.2:=cn _ (D4 (l:=U) (ω:q<U.length));have ad:∀j:Nat,el ((P.length:Int),(P.length:Int),U) q j=A4 (U.getD q []) (j:Int):=λ_=>rfl
   have bc:A4 (U.getD q []) (q:Int)≠0:=(H q q T T).2.2.2;obtain⟨cf,cg,bj,O,u,au⟩:=C4s Y (i:=q) (λj c=>(H q j T ω).2.2.1 c) bc;simp only[cs];rw[Ir (qF q) (ω:(q:Int)<(U.length:Int)),O8 (d:=(0:Int)) (qF q) (ω:(q:Int)<(Q.length:Int))];simp only[qN,vG,show Int.toNat 1=1 from rfl];rw[bw];simp only[qN];generalize U.getD q []=v at*;generalize v.drop 1=w at*;have V:∀e∈w,(q:Int)<e.1/\e.1<(P.length:Int)/\sz D e.2/\Sf e.2:=λe h=>by
    obtain⟨b4,bt,bu⟩:=u e h;exact⟨bt,bu,ba e b4,ao e b4⟩
   have cr:w.length<=16384:=by
    have:=Aa (n:=(P.length:Int)) (v:=w) ⟨O,λe h=>⟨by have:=(u e h).2.1;omega,(u e h).2.2,(Y.2 e (u e h).1).2.2⟩⟩;omega
   have cd:(q:Int)<(U.length:Int):=by rw[c2];exact T
   refine⟨⟨qF _,cd⟩,⟨δ,ω,qH _⟩,biI D Y0 P.length q (rv (z.getD q zr)) w a1,λp=>((w.length:Int)-p.1).toNat,⟨qH _,qF _,BI.init F t⟩,?_⟩;rintro⟨(aa:Int),(y:List C6),_⟩ _ ⟨E,az,B⟩;simp only at E az B|-;refine⟨λo=>?_,λo=>?_⟩
   . have o:=qA o;obtain⟨⟨a0,a9,aw⟩,_⟩:=BI.next F af ac t O V E o B
     rw[an]at a9;have am:=F6 (d:=D7) E o;obtain⟨b3,ab,a2,bs⟩:=V _ am;have Z:(q:Int)<(y.length:Int):=by rw[a0];exact T
     rw[wv ω];refine⟨⟨E,o⟩,⟨qF _,Z⟩,⟨ω,by rw[a0];exact ab⟩,⟨G5 a9 ω,G5 a2 ω,G5 aw ω⟩,?_⟩;rintro⟨(s:C6),_⟩ _ ⟨ax,ay⟩;exact⟨⟨qF _,Z⟩,⟨by simp only;omega,by simp only;omega,(BI.next F af ac t O V E o B).2 s ax ay⟩,ω⟩
   have o:=qB o;obtain⟨b2,cz,bq⟩:=BI.done F t (λe h=>(u e h).2) (λj c=>(au j c).trans (ad j).symm) b9 (be q t) (ω:w.length<=aa.toNat) B λx hx=>by
    obtain⟨b4,ab,a2⟩:=B9n b9 be q x ω hx;rw[<-ab q (qT _)];refine cq b4 (λi f=>?_) q t;exact B8u (L:=el ((P.length:Int),(P.length:Int),L)) (U:=el ((P.length:Int),(P.length:Int),U)) (λj c=>(A.2 j c).2) a2 (λi f=>(H i i (sG.2 f) (sG.2 f)).2.1) (λi j a4 c=>(H i j ω (sG.2 c)).1 a4) f
   rw[an]at b2;have Z:y.length=P.length:=by
    obtain⟨b4,rfl,_⟩:=B;rw[qP];exact F.1
   have cu:∀j,j≠q->y.getD j zr=a1.getD j zr:=λj c=>by
    obtain⟨b4,rfl,_⟩:=B;exact D8 c
   have aq:(q:Int)<(y.length:Int):=by rw[Z];exact T
   refine⟨⟨qF _,aq⟩,⟨δ,ω⟩,⟨O4 (k:=K1) (G5 b2 ω) δ,O4 (ba _ cg) (qY (ω:D<=K1) δ)⟩,?_⟩;rintro⟨(s:C6),d4,_⟩ _ ⟨_,bi⟩;simp only at bi|-;have X:s=rc (rv (y.getD q zr)/el ((P.length:Int),(P.length:Int),U) q q):=by
    rw[ad, <-bj];exact(bi (by rw[bj];exact bc)).1
   rw[show(List.set y q s).getD q dQ=s from B9 (by rw[Z];exact t),wv ω];refine⟨⟨qF _,aq⟩,⟨qF _,by rw[cy];exact T⟩,⟨qF _,by rw[qP];exact aq⟩,⟨qF _,by rw[a7];exact sG.2 b7⟩,⟨by simp only;omega,by simp only;omega,?_,by simp only;rw[qP];exact a7,λj I a3=>?_⟩,ω⟩
   . simp only;rw[bh,X];exact bq
   simp only at I|-;rw[bh]at I;by_cases ae:j=q
   . subst ae;rw[B9 (by rw[a7];exact b7),B9 (by rw[Z];exact t)]
   rw[D8 λe=>ae (bn j q a3 t e),D8 ae,cu j ae];exact a8 j ω a3
 have a5:=qB a5;have ca:P.length-k.toNat=0:=ω
 rw[ca]at F a8;have bm:∀j,j<P.length->b1.getD (ix Q j) zr=a1.getD j zr:=λj c=>a8 j (rQ _) c
 have ct:∀e∈b1,∃j,j<P.length/\e=a1.getD j zr:=λe h=>by
  obtain⟨a,W,rfl⟩:=T8 zr h;obtain⟨j,c,b4⟩:=M9 (λa W=>(b6 a W).2) bn (ω:a<P.length);exact⟨j,c,by rw[<-b4];exact bm j c⟩
 refine⟨λr=>absurd M r,λ_=>⟨λr=>absurd R r,λ_=>⟨by trivial,a7,λe h=>?_,λa W=>?_⟩⟩⟩
 . obtain⟨j,c,rfl⟩:=ct e h;obtain⟨⟨x,I,_⟩,_⟩:=F.2.2 j (rQ _) c;rw[I,H2]
 have cl:=B8u (L:=el ((P.length:Int),(P.length:Int),L)) (U:=el ((P.length:Int),(P.length:Int),U)) (v:=λj=>rv (a1.getD j zr)) (λj c=>(A.2 j c).2) (λj c=>(F.2.2 j (rQ _) c).2) (λi f=>(H i i (sG.2 f) (sG.2 f)).2.1) (λi j a4 c=>(H i j ω (sG.2 c)).1 a4) W;refine Eq.trans (A8 λj c=>?_) cl;rw[bm j c];rfl
def UM:An:= {join:= [(8,⟨[0,4,5,6,11,12],[],[(3,false,[.val .bool])],[],[(0, .row .bool 4)]⟩)],loop:= [(7,⟨[0,4,5,11,12],[],[(3,false,[.val .bool]),(6,false,vI)],[],[(0, .row .bool 4)]⟩),(4,⟨[0,4,11],[],[(3,false,[.val .bool]),(12,false,vI)],[],[(0, .row .bool 4)]⟩)]}
def dX:An:= {join:= [(14,⟨[2,6],[1],[],[(3,46,[.val .bool, .val qa, .val qa])],[]⟩)],loop:= [(8,⟨[2,4,6,24,25],[1,2],[(26,false,vI)],[(3,46,[.val .bool, .val qa, .val qa])],[]⟩)],plan:= [(10,[0,4],[6],true, .done),(12,[1,4],[],true, .done)]}
abbrev C3q:=Bool×Int×List Bool×Unit
def Xl(x:Rj):Prop:=let e:=(0:Int);let a:=(x.1.length:Int);(e<=a/\a<=a/\(↑(1:Nat):Int)*a<=(281474976710656:Int)/\a<=(9223372036854775807:Int))/\∃(I:C3q->Prop),∃(h: _->Nat),I (false,e,List.replicate a.toNat false,())/\∀(p:C3q),Ty.bool.wf p.1/\(Ty.int i64).wf p.2.1/\(List.length p.2.2.1<=9223372036854775807/\∀(x:Bool),x∈p.2.2.1->True)/\True->I p->(iB (decide (p.2.1<a)) (∃(I_1:C3q->Prop),∃(j: _->Nat),I_1 (p.1,p.2.1,p.2.2.1,())/\∀(i:C3q),let k:Prop:=(gx e x.1 i.2.1≠p.2.1);let g:Prop:=(e<=i.2.1/\i.2.1<a);let d:=i.2.1.toNat;let c:=(i.1,i64.wrap (p.2.1+1),i.2.2.1,());let b:Prop:=(e<=i.2.1/\i.2.1<(i.2.2.1.length:Int));Ty.bool.wf i.1/\(Ty.int i64).wf i.2.1/\(List.length i.2.2.1<=9223372036854775807/\∀(x:Bool),x∈i.2.2.1->True)/\True->I_1 i->b/\(iB ((!List.getD i.2.2.1 d false)) (∃(J:Bool×List Bool×Unit->Prop),(b/\g/\(iB (decide k) (J (!i.1,List.set i.2.2.1 d true,())) (J (i.1,List.set i.2.2.1 d true,()))))/\∀(p:Bool×List Bool×Unit),let f:=(p.1,gx e x.1 i.2.1,p.2.1,());Ty.bool.wf p.1/\(List.length p.2.1<=9223372036854775807/\∀(x:Bool),x∈p.2.1->True)/\True->J p->g/\I_1 f/\j f<j i) (I c/\h c<h p))) (det x.1.length (Yu (ix x.1))=sgB p.1))
def HM(x:T4):Prop:=let l:=(4:Int);let h:=(1:Int);let d:=x.1.1.toNat;let b:=(0:Int);(J1 K1 x.1/\(A3 x.1->x.1.1=x.1.2.1->∃(T:Nat),(1:Nat)<=T/\(8:Nat)*T+(8:Nat)<=K1/\Jr d d (el x.1) T))/\∀(r:B9i),let m:=r.1.1.length;let k:=r.1.2.1.length;(WX r.1.1/\WX r.1.2.1/\WfM r.1.2.2.1/\R8 r.1.2.2.2.1/\R8 r.1.2.2.2.2.1/\Ye r.1.2.2.2.2.2)/\R8 r.2.1/\True->(¬A3 x.1->r.1=WS/\r.2.1=h)/\(A3 x.1->(x.1.1≠x.1.2.1->r.1=WS/\r.2.1=l)/\(x.1.1=x.1.2.1->(¬nonsing d (el x.1)->r.1=WS/\r.2.1=6)/\(nonsing d (el x.1)->O3 r.1 x.1.1/\r.2.1=b/\(∀(v:List EE),v∈r.1.2.2.1.2.2->R3 v)/\(∀(v:List EE),v∈r.1.2.2.2.2.2->R3 v)/\(∀(T:Nat),(1:Nat)<=T->Jr d d (el x.1) T->∀(i j:Nat),i<Int.toNat x.1.1->qs (T+T) (el r.1.2.2.1 i j)/\qs (T+T) (el r.1.2.2.2 i j))/\∀(i j:Nat),i<Int.toNat x.1.1->j<Int.toNat x.1.1->GB r.1 d i j=el x.1 (ix r.1.1 i) (ix r.1.2.1 j))))->(iB (decide (r.2.1=6)) (True/\N6 λr=>r.1=ri b->(¬A3 x.1->r.1=dQ/\b=h)/\(A3 x.1->(x.1.1≠x.1.2.1->r.1=dQ/\b=l)/\(x.1.1=x.1.2.1->r.1=rc (det x.1.1.toNat (el x.1))/\b=b))) ((iB (decide (r.2.1≠b)) ((¬A3 x.1->dQ=dQ/\r.2.1=h)/\(A3 x.1->(x.1.1≠x.1.2.1->dQ=dQ/\r.2.1=l)/\(x.1.1=x.1.2.1->dQ=rc (det x.1.1.toNat (el x.1))/\r.2.1=b))) (True/\N6 λo=>o.1=ri h->∃(I:A3b->Prop),∃(s: _->Nat),I (b,o.1.1.1,o.1.1.2,o.1.2,())/\∀(p:A3b),let f:=(gx [] r.1.2.2.2.2.2 p.1);let c:=((p.2.1,p.2.2.1),p.2.2.2.1);let a:Prop:=(p.1<(r.1.2.2.2.2.2.length:Int));(Ty.int i64).wf p.1/\Ty.bool.wf p.2.1/\(Ty.int u32).sl.wf p.2.2.1/\(Ty.int u32).sl.wf p.2.2.2.1/\True->I p->(iB (decide a) ((b<=p.1/\a)/\(b<=b/\b<(↑f.length:Int))/\(H3 c/\H3 (gx D7 f b).2)/\N6 λn=>let e:=(i64.wrap (p.1+h),n.1.1.1,n.1.1.2,n.1.2,());n.1=rc (rv c*rv (gx D7 f b).2)->I e/\s e<s p) (∃(J:A3a->Prop),((G2 r.1.1 (↑m:Int)/\List.length r.1.1<=16384)/\Gh λn=>det m (Yu (ix r.1.1))=sgB n.1->(G2 r.1.2.1 (↑k:Int)/\List.length r.1.2.1<=16384)/\Gh λq=>det k (Yu (ix r.1.2.1))=sgB q.1->(iB ((n.1 !=q.1)) (H3 c/\N6 λr=>r.1=rc (-rv c)->J (r.1.1.1,r.1.1.2,r.1.2,())) (J (p.2.1,p.2.2.1,p.2.2.2.1,()))))/\∀(p:A3a),let g:=((p.1,p.2.1),p.2.2.1);Ty.bool.wf p.1/\(Ty.int u32).sl.wf p.2.1/\(Ty.int u32).sl.wf p.2.2.1/\True->J p->(¬A3 x.1->g=dQ/\b=h)/\(A3 x.1->(x.1.1≠x.1.2.1->g=dQ/\b=l)/\(x.1.1=x.1.2.1->g=rc (det x.1.1.toNat (el x.1))/\b=b))))))))
def pJ:∀ {l:List Bool} {j:Nat},j<l.length->l.getD j false=false->(l.set j true).countP (λb=> !b)+1=l.countP (λb=> !b)
 | [],_,h,_=>by cases h
 |b::l,0,_,h=>by
  have h:b=false:=h;subst h;simp
 |b::l,j+1,h,a=>by
  have c:=pJ (l:=l) (j:=j) (by simpa using h) a;simp only[g4o,List.countP_cons];omega
def Nt (s:List Bool) (a:Nat):Prop:=s.getD a false=true
def C2v {s:List Bool} {j:Nat} (b:j<s.length) (a:Nat):Nt (s.set j true) a↔Nt s a\/a=j:=by
 unfold Nt;by_cases h:a=j
 . subst h;rw[B9 b];exact⟨λ_=> .inr rfl,λ_=>rfl⟩
 rw[D8 h];exact⟨.inl,λg=>g.resolve_right h⟩
def JY:sq Dj Xl:=λx _ M=>by
 obtain⟨(l:Wf),_⟩:=x;obtain⟨J,Q⟩:G2 l (l.length:Int)/\l.length<=16384:=M;obtain⟨_,B,I⟩:=Q3 J;simp only[Xl,iB];refine⟨⟨qF _,qH _,ω,ω⟩,λp=>0<=p.2.1/\p.2.1<=(l.length:Int)/\p.2.2.1.length=l.length/\WU l.length (ix l) p.1 (Nt p.2.2.1)/\∀a,a<p.2.1.toNat->Nt p.2.2.1 a,λp=>((l.length:Int)-p.2.1).toNat,⟨qH _,qF _,by simp,WU.start I λa g h=>?_,λa g=>by simp at g⟩,?_⟩
 . unfold Nt at h;rw[qE,uW]at h;split at h<;>cases h
 rintro⟨(r:Bool),(i:Int),(seen:List Bool),_⟩ _ ⟨F,N,n,v,f⟩;simp only at F N n v f|-;refine⟨λk=>?_,λk=>?_⟩
 . have k:=qA k;have w:i.toNat<l.length:=ω
   refine⟨λq=>0<=q.2.1/\q.2.1<(l.length:Int)/\q.2.2.1.length=l.length/\(∀a,a<i.toNat->Nt q.2.2.1 a)/\((q.2.1=i/\WU l.length (ix l) q.1 (Nt q.2.2.1))\/oJ l.length (ix l) i.toNat q.2.1.toNat q.1 (Nt q.2.2.1)),λq=>q.2.2.1.countP (λb=> !b),⟨F,k,n,f, .inl ⟨rfl,v⟩⟩,?_⟩;rintro⟨(r:Bool),(j:Int),(seen:List Bool),_⟩ _ ⟨o,u,n,f,c⟩;simp only at o u n f c|-;have t:j.toNat<l.length:=ω
   refine⟨⟨o,ω⟩,λh=>?_,λh=>?_⟩
   . have z:seen.getD j.toNat false=false:=by simpa using h
     have D:¬Nt seen j.toNat:=λhh=>by unfold Nt at hh;rw[z]at hh;cases hh
     have y:=C2v (s:=seen) (j:=j.toNat) ω;have H:gx 0 l j=(ix l j.toNat:Int):=(O8 (d:=(0:Int)) o u).trans (B _ t).1;have P:=(B _ t).2;have O:=pJ (l:=seen) (j:=j.toNat) ω z;rw[H];refine⟨λs=>s.1=(if ix l j.toNat=i.toNat then r else !r)/\s.2.1=seen.set j.toNat true,⟨⟨o,ω⟩,⟨o,u⟩,λhd=>⟨?_,rfl⟩,λhd=>⟨?_,rfl⟩⟩,?_⟩
     . have:=qA hd;rw[qG ω]
     . have:=tA.1 (qB hd);rw[qK ω]
     rintro⟨R,T,_⟩ _ ⟨rfl,rfl⟩;refine⟨⟨o,u⟩,⟨qF _,ω,by rw[qP];exact n,λa g=>(y a).2 (.inl (f a g)), .inr ?_⟩,(ω:(seen.set j.toNat true).countP (λb=> !b)<seen.countP (λb=> !b))⟩;show oJ l.length (ix l) i.toNat ((ix l j.toNat:Nat):Int).toNat _ _;rw[qN];rcases c with⟨rfl,c⟩ |c
     . exact c.enter w D y
     exact c.step w t D y
   have E:Nt seen j.toNat:=by unfold Nt;simpa using h
   have A:WU l.length (ix l) r (Nt seen)/\Nt seen i.toNat:=by
    rcases c with⟨rfl,c⟩ |c
    . exact⟨c,E⟩
    exact⟨(c.exit w t E).2,c.1⟩
   rw[wv ω];refine⟨⟨ω,ω,n,A.1,λa g=>?_⟩,ω⟩;by_cases G:a=i.toNat
   . rw[G];exact A.2
   exact f a ω
 have k:=qB k;exact v.finish λa g=>f a ω
def SL:sq Ho HM:=λx b6 ai=>by
 obtain⟨⟨(R:Int),(C:Int),D⟩,_⟩:=x;change List (List C8)at D;obtain⟨am,a5⟩:J1 K1 (R,C,D)/\(A3 (R,C,D)->R=C->∃T:Nat,1<=T/\Jr R.toNat R.toNat (el (R,C,D)) T/\(T+T)*(R.toNat+4)+8<=K1):=ai;simp only[HM,iB,N6,Gh];refine⟨⟨am,λv w=>?_⟩,?_⟩
 . obtain⟨T,ax,ay,b8⟩:=a5 v w;have:=sB (T+T) (ω:4<=R.toNat+4);exact⟨T,ax,ω,ay⟩
 rintro⟨⟨(P:Wf),(Q:Wf),(L:J6),(l:Int),(k:Int),U⟩,(e:Int),_⟩ _ ⟨N,o⟩;change List (List C8)at U;simp only at N o|-;by_cases f:A3 (R,C,D)
 case neg=>
  obtain⟨_,rfl⟩:=N f;exact⟨λh=>by simp at h,λ_=>⟨λ_=>⟨λ_=>⟨by trivial,by trivial⟩,λh=>absurd h f⟩,λh=>by simp at h⟩⟩
 by_cases r:R=C
 case neg=>
  obtain⟨_,rfl⟩:=(o f).1 r;exact⟨λh=>by simp at h,λ_=>⟨λ_=>⟨λh=>absurd f h,λ_=>⟨λ_=>⟨by trivial,by trivial⟩,λh=>absurd h r⟩⟩,λh=>by simp at h⟩⟩
 have o:=(o f).2 r;obtain⟨s,aw,ak,b7⟩:=a5 f r;have b5:=sB (s+s) (ω:4<=R.toNat+4);obtain⟨a6,az,_⟩:=id f;simp only at a6 az;by_cases F:nonsing R.toNat (el (R,C,D))
 case neg=>
  obtain⟨_,rfl⟩:=o.1 F;refine⟨λ_=>⟨trivial,?_⟩,λh=>by simp at h⟩;rintro⟨A,_⟩ _ d;simp only at d|-;refine⟨λh=>absurd f h,λ_=>⟨λh=>absurd r h,λ_=>⟨?_,by trivial⟩⟩⟩;have E:det R.toNat (el (R,C,D))=0:=by
   refine qM λE=>F λx aq j t=>qM λar=>E (B4y t ar aq)
  rw[d,E,Xg];rfl
 obtain⟨ah,rfl,_,ad,an,a9⟩:=o.2 F;refine⟨λh=>by simp at h,λ_=>⟨λh=>by simp at h,λ_=>⟨trivial,?_⟩⟩⟩;rintro⟨one,_⟩ _ a1;simp only at a1|-;obtain⟨y,z,a8,X,u⟩:=id ah;simp only at y z a8 X u;have ac:((R.toNat:Nat):Int)=R:=ω
 rw[<-ac]at y z;obtain⟨V,aa,b2⟩:=Q3 y;obtain⟨W,ab,b3⟩:=Q3 z;obtain⟨a2,ap,a3⟩:=X;simp only at a2 ap;have b4:(U.length:Int)=R:=a3.2.2.2.2.1.trans a2;have ao:∀i:Nat,i<R.toNat->qs (s+s) (el (l,k,U) i i):=λi a=>(an s aw ak i i a).2
 let n:Nat->Rat:=λi=>if i<R.toNat then el (l,k,U) i i else 0
 have Y:∀i,qs (s+s) (n i):=λi=>by
  show qs (s+s) (if i<R.toNat then el (l,k,U) i i else 0);by_cases a:i<R.toNat
  . rw[qK a];exact ao i a
  rw[qG a];exact M0 ω
 have Z:∀i,i<=R.toNat->qs K1 (W2 n i 0):=λi a=>G4 (jW ω Y i) (qY (sB (s+s) (ω:i+1<=R.toNat+4)) ω)
 have b1:K1+1<=2199023255552:=δ
 refine⟨λp=>0<=p.1/\p.1<=R/\((p.2.1,p.2.2.1),p.2.2.2.1)=rc (W2 n p.1.toNat 0),λp=>(R-p.1).toNat,⟨qH _,a6,by rw[a1];exact(Xg 1).trans (sA rc (show((1:Int):Rat)=1 from rfl))⟩,?_⟩;rintro⟨(i:Int),H,b,c,_⟩ _ ⟨G,au,g⟩;simp only at G au g|-;refine⟨λa=>?_,λa=>?_⟩
 . have a:=qA a;have af:i.toNat<R.toNat:=ω
   rw[Ir G a];have a0:U.getD i.toNat []∈U:=D4 ω;obtain⟨b0,a7,B,_⟩:=C4s (i:=i.toNat) (a3.2.2.2.2.2 _ a0) (λj t=>(u i.toNat j ω ω).2.2.1 t) (u i.toNat i.toNat ω ω).2.2.2;have B:rv (gx D7 (U.getD i.toNat []) 0).2=el (l,k,U) i.toNat i.toNat:=B;have ae:n i.toNat=el (l,k,U) i.toNat i.toNat:=qK af;have a4:(gx D7 (U.getD i.toNat []) 0).2=rc (n i.toNat):=by
    rw[((ad _ a0).2 _ a7).2,B,ae]
   have aj:=Z i.toNat ω;refine⟨⟨G,a⟩,⟨qH _,ω⟩,⟨by rw[g];exact N8 aj δ,by rw[a4];exact N8 (G4 (Y _) (ω:s+s<=K1)) δ⟩,?_⟩;rintro⟨A,_⟩ _ d;simp only at d|-;rw[g,a4,H2,H2]at d;rw[wv ω];refine⟨⟨ω,ω,?_⟩,ω⟩;show A= _;rw[d,(ω:(i+1).toNat=i.toNat+1),Ua,rZ]
 have a:=qB a;have ag:i.toNat=R.toNat:=ω
 rw[ag]at g;refine⟨λp=>((p.1,p.2.1),p.2.2.1)=rc (det R.toNat (el (R,C,D))),⟨⟨by rw[V];exact y,ω⟩,?_⟩,?_⟩
 . rintro⟨(I:Bool),_⟩ _ v;simp only at v|-;refine⟨⟨by rw[W];exact z,ω⟩,?_⟩;rintro⟨(J:Bool),_⟩ _ w;simp only at w|-;rw[V]at v;rw[W]at w;have av:sgB I*(sgB J*det R.toNat (el (R,C,D)))=W2 n R.toNat 0:=by
    rw[<-v, <-w,C5n (L:=el L) (U:=el (l,k,U)) (λi a=>(aa i a).2) (λi a=>(ab i a).2) (λi j E t=>(u i j ω ω).1 E) (λi a=>(u i i ω ω).2.1) (λi j E a=>(u i j ω ω).2.2.1 E) λi j a t=>a9 i j a t];exact BS λi _ a=>(qK ω).symm
   have M:=C5o av;refine⟨λh=>⟨by rw[g];exact N8 (Z _ (qT _)) δ,?_⟩,λh=>?_⟩
   . rintro⟨A,_⟩ _ d;simp only at d|-;show A= _;rw[d,g,H2,M,qK h]
   show((H,b),c)= _;rw[g,M,qG (by rw[h];decide)]
 rintro⟨H,b,c,_⟩ _ O;simp only at O|-;exact⟨λh=>absurd f h,λ_=>⟨λh=>absurd r h,λ_=>⟨O,by trivial⟩⟩⟩
noncomputable def NI:G9:= [(54,Gi)]
def KY:An:= {loop:= [(3,⟨[1,3],[0,2,3],[(4,false,vI)],[],[(4, .rows tQ 28 46)]⟩)],plan:= [(5,[3,6,8],[14],true, .done)]}
def XE:An:= {join:= [(11,⟨[4,7],[0],[],[(2,25,[.val qb, .val qb, .val ql])],[]⟩)],loop:= [(7,⟨[4,6,7,8],[0,2],[(9,false,vI)],[],[(4, .rows tQ 28 46)]⟩)],plan:= [(9,[3,8,11],[15],true, .done)]}
noncomputable def bM:G9:= [(6,Jc),(19,V2),(20,Q8),(22,Lz),(23,Ck),(24,Jd),(21,W3 (Pg ⟨prog,nS⟩ [(24,NI,KY)] f21.results.toList (f21.body.getD .skip) f21.ntmps))]
abbrev D0f:=Int×Int×List (List EE)×Unit
def CL(x:VO):Prop:=let h:=(1:Int);let d:=(0:Int);let b:(Kw)->Prop:=(λp=>d<=p.1/\p.1<(p.2.1.length:Int));True/\∀(r:nP),let u:=(r.1.1.length:Int);(WX r.1.1/\R8 r.1.2)/\True->r.1=(x.1,d)->(d<x.2.1/\d<=r.1.2/\r.1.2<=u)/\∀(w:D3) (o:nP),let v:=(o.1.1.length:Int);let q:=(i64.wrap (h+w.1));R8 w.1/\True->((Ty.int i64).sl.pair (Ty.int i64)).wf o.1/\True->d<=w.1/\w.1<x.2.1->o.1.1=r.1.1/\d<=o.1.2/\o.1.2<=u->(d<=i64.wrap (h+w.1)/\i64.wrap (h+w.1)<=(20:Int)/\d<=i64.wrap (h+w.1)/\i64.wrap (h+w.1)<=(20:Int)/\d<=o.1.2/\o.1.2<=v)/\∀(r:T4) (y:nP),let t:=(y.1.1.length:Int);WfM r.1/\True->((Ty.int i64).sl.pair (Ty.int i64)).wf y.1/\True->C6a q.toNat q.toNat r.1->y.1.1=o.1.1/\d<=y.1.2/\y.1.2<=v->∃(J:D0f->Prop),((d<(4:Int)/\d<=y.1.2/\y.1.2<=t)/\∀(A:D3) (o:nP),R8 A.1/\True->((Ty.int i64).sl.pair (Ty.int i64)).wf o.1/\True->d<=A.1/\A.1<4->o.1.1=y.1.1/\d<=o.1.2/\o.1.2<=t->(iB (decide (d<A.1)) ((d<=r.1.1/\r.1.1<=r.1.1/\(↑(24:Nat):Int)*r.1.1<=281474976710656/\r.1.1<=9223372036854775807)/\∃(I:Kw->Prop),∃(a: _->Nat),I (d,List.replicate r.1.1.toNat [],())/\∀(p:Kw),let s:=(gx [] r.1.2.2 p.1);(Ty.int i64).wf p.1/\FJ p.2.1/\True->I p->(iB (decide (p.1<r.1.1)) ((d<=p.1/\p.1<(r.1.2.2.length:Int))/\(Vy K1 s/\E7 s r.1.2.1/\d<=r.1.2.1/\r.1.2.1<=16384)/\∀(z:List QQ×Bool×Unit),let k:=(i64.wrap (p.1+h),List.set p.2.1 p.1.toNat z.1,());WfL z.1/\True/\True->z.1=dl r.1.2.1 (A4 s)/\z.2.1=true->(b p)/\I k/\a k<a p) (∃(I:Kw->Prop),∃(a: _->Nat),I (d,p.2.1,())/\∀(p:Kw),let m:=p.1.toNat;let e:=(List.getD p.2.1 m []);let c:Prop:=(p.1<i64.wrap (h+w.1));let f:Prop:=(d<=p.1/\p.1<(↑e.length:Int));(Ty.int i64).wf p.1/\FJ p.2.1/\True->I p->(iB (decide c) ((b p)/\(b p)/\f/\True/\N6 λr=>r.1=ri (20:Int)->(H3 (e.getD m dQ)/\H3 r.1)/\N6 λz=>let g:=(i64.wrap (p.1+h),List.set p.2.1 m (e.set m z.1),());z.1=rc (rv (e.getD m dQ)+rv r.1)->f/\I g/\a g<a p) (((∀(l:List QQ),l∈p.2.1->nK K1 l/\(↑l.length:Int)=i64.wrap (h+w.1))/\d<=i64.wrap (h+w.1)/\i64.wrap (h+w.1)<=(16384:Int)/\List.length p.2.1<=16384)/\rT8 λr=>Lq p.2.1.length q.toNat (fun(i j:Nat)=>rv ((List.getD p.2.1 i []).getD j zr)) r.1->J (r.1.1,r.1.2.1,r.1.2.2,())))))) (J (r.1.1,r.1.2.1,r.1.2.2,()))))/\∀(p:D0f),(Ty.int i64).wf p.1/\(Ty.int i64).wf p.2.1/\tE.sl.sl.wf p.2.2.1/\True->J p->∃(n:Nat),(1:Nat)<=n/\(↑n:Int)<=x.2.1/\∃(f:Nat->Nat->Rat),(∀(i j:Nat),qs (4:Nat) (f i j))/\Lq n n f (p.1,p.2.1,p.2.2.1)
def NW:sq Fa CL:=λx _ ae=>by
 obtain⟨(a1:Wf),(M:Int),_⟩:=x;obtain⟨ap,aq⟩:1<=M/\M<=20:=ae;simp only[CL,iB,N6,rT8];refine⟨trivial,?_⟩;rintro⟨⟨tl,ti⟩,_⟩ _ Z;simp only at Z|-;have ag:ti=0:=sA Prod.snd Z;subst ag;refine⟨⟨ω,qH _,qF _⟩,?_⟩;rintro⟨(v:Int),_⟩ ⟨⟨av,ar⟩,_⟩ _ _ ⟨ai,aj⟩ ⟨a2,a3,a4⟩;simp only at ai aj a2 a3 a4|-;have ah:i64.wrap (1+v)=1+v:=wv ω;simp only[ah];refine⟨⟨ω,ω,ω,ω,a3,by rw[a2];exact a4⟩,?_⟩;rintro⟨⟨(R:Int),(C:Int),D⟩,_⟩ ⟨⟨aw,au⟩,_⟩ _ _ o ⟨a5,a6,a7⟩;change List (List C8)at D;simp only at o a5 a6 a7|-;obtain⟨r,A,o⟩:=o;have a0:A3 (R,C,D):=Gd o ω ω;have af:J1 K1 (R,C,D):=Qt o δ λi j _ _=>G4 (A i j) δ
 obtain⟨ab,a9,aa,X⟩:=id o;simp only at ab a9 aa X;have am:∀w∈D,E7 w C:=a0.2.2.2.2.2;generalize an:(1+v).toNat=N at*;have ao:(N:Int)=1+v:=ω
 refine⟨λp=>∃y:Nat->Nat->Rat,(∀i j,qs 4 (y i j))/\Lq N N y (p.1,p.2.1,p.2.2.1),⟨⟨ω,a6,by rw[a5];exact a7⟩,?_⟩,?_⟩
 . rintro⟨(a8:Int),_⟩ ⟨ax,_⟩ _ _ _ _;simp only;refine⟨λ_=>⟨⟨ω,qH _,ω,ω⟩,λp=>0<=p.1/\p.1<=R/\fill R.toNat p.1.toNat (λi=>dl C (A4 (D.getD i []))) p.2.1,λp=>(R-p.1).toNat,⟨qH _,ω,B5q rL⟩,?_⟩,λ_=>⟨r,λi j=>G4 (A i j) δ,o⟩⟩;rintro⟨(k:Int),rows,_⟩ _ ⟨g,J,B⟩;change List (List C6)at rows;simp only at g J B|-;have:=B.1;refine⟨λh=>?_,λh=>?_⟩
   . have h:=qA h;have G:k<(D.length:Int):=ω
     have V:=F6 (d:=([]:List C8)) g G;refine⟨⟨g,G⟩,⟨JN a0 af V,am _ V,ω,ω⟩,?_⟩;rintro⟨ak,b,_⟩ _ ⟨E,_⟩;simp only at E|-;rw[wv ω];refine⟨⟨g,ω⟩,⟨ω,ω,YO B g ω ?_⟩,ω⟩;rw[E,Ir g G]
   have h:=qB h;have Y:rows=Ot (R,C,D):=YN B ω;have u:rows.length=N:=by rw[Y];unfold Ot;rw[sO,g0f];omega
   refine⟨λp=>0<=p.1/\p.1<=(N:Int)/\p.2.1.length=N/\∀i,i<N->(p.2.1.getD i []).length=N/\∀j,j<N->(p.2.1.getD i []).getD j zr=rc (r i j+if i=j/\i<p.1.toNat then 20 else 0),λp=>((N:Int)-p.1).toNat,⟨qH _,qF _,u,λi f=>?_⟩,?_⟩
   . have n:rows.getD i []=dl C (A4 (D.getD i [])):=by
      rw[Y];unfold Ot;rw[qE,vH,wN (ω:i<(R:Int).toNat)];rfl
     show(rows.getD i []).length=N/\∀j,j<N->(rows.getD i []).getD j zr= _;rw[n,QB];refine⟨ω,λj l=>?_⟩;rw[lF zr ω,(X i f).2.2 j l,qG (by simp),rK]
   rintro⟨(k:Int),rows,_⟩ _ ⟨g,J,u,n⟩;change List (List C6)at rows;simp only at g J u n|-;refine⟨λh=>?_,λh=>?_⟩
   . have h:=qA h;have U:k.toNat<N:=ω
     obtain⟨F,O⟩:=n k.toNat U;have z:=O k.toNat U;rw[qG ω,rK]at z;have z:(rows.getD k.toNat []).getD k.toNat dQ=rc (r k.toNat k.toNat):=z;refine⟨⟨g,ω⟩,⟨g,ω⟩,⟨g,by rw[F];omega⟩,trivial,?_⟩;rintro⟨ay,_⟩ _ I;simp only at I|-;rw[z];refine⟨⟨N8 (A _ _) δ,by rw[I,Xg];exact N8 (Mx δ) δ⟩,?_⟩;rintro⟨ak,_⟩ _ H;simp only at H|-;rw[I,H2,NF]at H;rw[wv ω];refine⟨⟨g,by rw[F];omega⟩,⟨ω,ω,by rw[qP];exact u,λi f=>?_⟩,ω⟩;by_cases Q:i=k.toNat
     . subst Q;rw[B9 ω];refine⟨by rw[qP];exact F,λj l=>?_⟩;by_cases T:j=k.toNat
       . subst T;rw[B9 ω,H,qK ⟨rfl,ω⟩];rfl
       rw[D8 T,O j l,qG ω,qG ω]
     rw[D8 Q];refine⟨(n i f).1,λj l=>?_⟩;rw[(n i f).2 j l];congr 2;by_cases s:i=j/\i<k.toNat
     . rw[qK s,qK ω]
     rw[qG s,qG ω]
   have h:=qB h;have W:∀i j,qs 4 (r i j+if i=j then 20 else 0):=λi j=>by
    refine G4 (BG (A i j) (k:=1) ?_) δ;split
    . exact Mx (a:=20) δ
    exact M0 δ
   have P:∀i j,i<N->j<N->(rows.getD i []).getD j zr=rc (r i j+if i=j then 20 else 0):=λi j f l=>by
    rw[(n i f).2 j l];congr 2;by_cases s:i=j
    . rw[qK s,qK ω]
    rw[qG s,qG ω]
   refine⟨⟨λa1 E=>?_,ω,ω,ω⟩,?_⟩
   . obtain⟨i,f,rfl⟩:=T8 [] E;have f:i<N:=ω
     refine⟨λe ac=>?_,by rw[(n i f).1];omega⟩;obtain⟨j,l,rfl⟩:=T8 zr ac;rw[P i j f (by rw[<-(n i f).1];exact l)];exact Tx (G4 (W i j) δ)
   rintro⟨m,_⟩ _ t;simp only at t|-;rw[u]at t;exact⟨_,W,ER t λi j f l=>by rw[P i j f l,H2]⟩
 rintro⟨a,b,c,_⟩ _ ⟨y,ad,t⟩;exact⟨N,ω,ω,y,ad,t⟩
noncomputable def Lv:G9:= []
def Lj:An:= {}
noncomputable def Rf:G9:= [(30,N1),(116,T3),(139,W3 (Pg ⟨prog,nS⟩ [(17,Lv,Lj)] f139.results.toList (f139.body.getD .skip) f139.ntmps))]
def Qn:An:= {loop:= [(8,⟨[2,4,5,19,20,21,26,27],[0,2,4,7],[(28,false,vI)],[],[(6, .rows tE 61 75)]⟩),(5,⟨[2,4,19,20],[0,2,4,7],[(21,false,vI)],[],[(6, .rows tE 61 75)]⟩)],plan:= [(10,[5,7,9,12],[16,18],false, .done)]}
def Yg:An:= {loop:= [(3,⟨[1,3,19,20],[0],[(21,false,vI)],[],[(1, .row qb 3)]⟩),(8,⟨[1,3,36],[0],[(37,false,vI)],[],[(1, .row qb 3)]⟩),(14,⟨[1,3,7,56,57],[0],[(58,false,vI)],[],[(1, .row qb 3),(2, .row qb 3)]⟩),(21,⟨[10,85,86],[8],[(7,false,[.val qh]),(87,false,vI)],[],[(6, .row qd 61)]⟩)],plan:= [(10,[4,8],[11],true, .done),(23,[1],[10],true, .done)]}
noncomputable def Yw:G9:= [(35,R0),(131,W3 (Pg ⟨prog,nS⟩ [(81,Rf,Qn)] f131.results.toList (f131.body.getD .skip) f131.ntmps))]
abbrev D0x:=Wf×Int×List (List EE)×Unit
def Ik(x:T4):Prop:=let Z:=(140737488355328:Nat);let S:=(2:Int);let R:=(281474976710656:Int);let L:=(9223372036854775807:Int);let J:=(x.1.2.2.length:Int);let y:=(1:Int);let w:=(0:Int);(w<=i64.wrap (x.1.2.1+S)/\i64.wrap (x.1.2.1+S)<=i64.wrap (x.1.2.1+S)/\(↑(8:Nat):Int)*i64.wrap (x.1.2.1+S)<=R/\i64.wrap (x.1.2.1+S)<=L)/\∃(I:bT->Prop),∃(g: _->Nat),I (w,List.replicate (i64.wrap (x.1.2.1+S)).toNat w,())/\∀(p:bT),let A:=(↑(gx [] x.1.2.2 p.1).length:Int);let Y:=(i64.wrap (A+y));let C:=(i64.wrap (p.1+y),List.set p.2.1 Y.toNat (i64.wrap (List.getD p.2.1 Y.toNat w+y)),());let n:Prop:=(p.1<J);let d:Prop:=(w<=i64.wrap (A+y)/\i64.wrap (A+y)<(p.2.1.length:Int));(Ty.int i64).wf p.1/\WX p.2.1/\True->I p->(iB (decide n) ((w<=p.1/\n)/\d/\d/\I C/\g C<g p) (∃(I:bT->Prop),∃(g: _->Nat),I (w,p.2.1,())/\∀(a:bT),let U:=(i64.wrap (a.1+y));let T:=(a.2.1.length:Int);let z:=(i64.wrap (a.1+y),List.set a.2.1 U.toNat (i64.wrap (List.getD a.2.1 U.toNat w+List.getD a.2.1 a.1.toNat w)),());let q:Prop:=(a.1<i64.wrap (x.1.2.1+y));let h:Prop:=(w<=i64.wrap (a.1+y)/\i64.wrap (a.1+y)<T);(Ty.int i64).wf a.1/\WX a.2.1/\True->I a->(iB (decide q) (h/\(w<=a.1/\a.1<T)/\h/\I z/\g z<g a) ((w<=x.1.1/\x.1.1<=x.1.1/\(↑(8:Nat):Int)*x.1.1<=R/\x.1.1<=L)/\∃(I:C3t->Prop),∃(g: _->Nat),I (w,a.2.1,List.replicate x.1.1.toNat w,())/\∀(d:C3t),let u:=(↑(gx [] x.1.2.2 d.1).length:Int);let B:=(i64.wrap (d.1+y),List.set d.2.1 u.toNat (i64.wrap (List.getD d.2.1 u.toNat w+y)),List.set d.2.2.1 d.1.toNat (List.getD d.2.1 u.toNat w),());let l:Prop:=(d.1<J);let a:Prop:=(w<=u/\u<(d.2.1.length:Int));(Ty.int i64).wf d.1/\WX d.2.1/\WX d.2.2.1/\True->I d->(iB (decide l) ((w<=d.1/\l)/\a/\(w<=d.1/\d.1<(d.2.2.1.length:Int))/\a/\a/\I B/\g B<g d) (True/\Gh λr=>r.1=decide (A3 x.1)->(iB ((!r.1)) (False) ((w<=x.1.2.1/\x.1.2.1<=x.1.2.1/\(↑(24:Nat):Int)*x.1.2.1<=R/\x.1.2.1<=L)/\∃(I:A3d->Prop),∃(g: _->Nat),I (w,List.replicate x.1.2.1.toNat [],())/\∀(f:A3d),let X:=(gx [] x.1.2.2 f.1);let m:Prop:=(f.1<J);(Ty.int i64).wf f.1/\Ye f.2.1/\True->I f->(iB (decide m) ((w<=f.1/\m)/\∃(I_1:A3d->Prop),∃(j: _->Nat),I_1 (w,f.2.1,())/\∀(p:A3d),let Q:=(i64.wrap (f.1+y),p.2.1,());let t:=(gx D7 X p.1);let v:=t.1.toNat;let H:=(List.getD p.2.1 v []);let a:Prop:=(p.1<(↑X.length:Int));let k:(D1)->Prop:=(λr=>(H.length+ [(f.1,r.1)].length)*(64:Nat)<=Z/\H.length+ [(f.1,r.1)].length<=9223372036854775807);let c:Prop:=(w<=t.1/\t.1<(p.2.1.length:Int));let h:(D1)->Prop:=(λr=>let W:=(f.1,r.1);let M:=(List.getD p.2.1 v []++ [W]);let N:=(i64.wrap (p.1+y),List.set p.2.1 v M,());((H.length+ [W].length)*(64:Nat)<=Z/\H.length+ [W].length<=9223372036854775807)/\c/\Int.toNat t.1=Int.toNat t.1/\I_1 N/\j N<j p);let b:Prop:=((H3 t.2/\N6 λr=>r.1=rc (rv t.2)->h r)/\H3 t.2/\N6 λr=>let O:=(List.getD p.2.1 v []++ [(f.1,r.1)]);let P:=(i64.wrap (p.1+y),List.set p.2.1 v O,());r.1=rc (rv t.2)->(h r)/\(h r)/\(k r)/\c/\Int.toNat t.1=Int.toNat t.1/\I_1 P/\j P<j p);(Ty.int i64).wf p.1/\Ye p.2.1/\True->I_1 p->(iB (decide a) ((w<=p.1/\a)/\c/\b/\b/\H3 t.2/\N6 λr=>let D:=(List.getD p.2.1 v []++ [(f.1,r.1)]);let E:=(i64.wrap (p.1+y),List.set p.2.1 v D,());r.1=rc (rv t.2)->((h r)/\(h r)/\h r)/\((h r)/\(h r)/\h r)/\((h r)/\h r)/\((h r)/\h r)/\(k r)/\(c/\Int.toNat t.1=Int.toNat t.1/\I_1 E/\j E<j p)/\c/\Int.toNat t.1=Int.toNat t.1/\I_1 E/\j E<j p) (I Q/\g Q<g f))) (∃(I:D0x->Prop),∃(g: _->Nat),I (d.2.2.1,w,f.2.1,())/\∀(a:D0x),let K:=(a.1.length:Int);let F:=(List.getD a.2.2.1 a.2.1.toNat []);let s:Prop:=(a.2.1<(f.2.1.length:Int));let o:Prop:=(w<=a.2.1/\a.2.1<(a.2.2.1.length:Int));(Ty.int i64).sl.wf a.1/\(Ty.int i64).wf a.2.1/\Ye a.2.2.1/\True->I a->(iB (decide s) (o/\(Vy K1 F/\List.length a.1<=100000)/\∀(d:List EE×Bool×Unit),let G:=(a.1,i64.wrap (a.2.1+y),List.set a.2.2.1 a.2.1.toNat d.1,());FH d.1/\True/\True->(G2 a.1 K->(∀(j:Int),A4 F j≠(0:Rat)->w<=j/\j<K)->MA (fun(i:Int)=>if w<=i/\i<K then A4 F (↑(List.idxOf i a.1):Int)else(0:Rat)) d.1/\d.2.1=true)->o/\I G/\g G<g a) (∃(p:Wf),G2 p x.1.1/\List.length a.2.2.1=x.1.2.1.toNat/\∀(j:Nat),let V:=(List.getD a.2.2.1 j []);j<List.length a.2.2.1->R3 V/\(∀(e:C8),e∈List.getD a.2.2.1 j []->w<=e.1/\e.1<x.1.1)/\∀(i:Nat),i<x.1.1.toNat->A4 V (p.getD i w)=el x.1 i j))))))))))))
def Rm:sq O0 Ik:=λx bk bg=>by
 obtain⟨⟨(R:Int),(C:Int),D⟩,_⟩:=x;change List (List C8)at D;obtain⟨P,g⟩:A3 (R,C,D)/\J1 K1 (R,C,D):=bg;obtain⟨Z,bu,am,bv,_,_⟩:=id P;have bz:(D.length:Int)=R:=P.2.2.2.2.1;have b1:∀w∈D,E7 w C:=P.2.2.2.2.2;simp only at Z bu am bv;have bf:Hc (R,C,D):=R4 bk.1.2.2.2
 let ln:Nat->Nat:=λk=>(D.getD k []).length
 have au:∀k:Nat,(k:Int)<R->(ln k:Int)<=C:=λk z=>by
  have:=Aa (b1 _ (D4 (l:=D) (i:=k) (d:= []) ω));show((D.getD k []).length:Int)<=C;omega
 have bm:i64.wrap (C+2)=C+2:=wv ω;have bl:i64.wrap (C+1)=C+1:=wv ω;have V:∀(i:Nat) (q:Nat->Bool),cN i q<=i:=λi q=>A4t
 simp only[Ik,iB,N6,Gh,bm,bl];refine⟨⟨ω,qH _,ω,ω⟩,λp=>0<=p.1/\p.1<=R/\p.2.1.length=C.toNat+2/\∀s,s<C.toNat+2->p.2.1.getD s 0=((cN p.1.toNat λk=>decide (ln k+1=s):Nat):Int),λp=>(R-p.1).toNat,⟨qH _,Z,by rw[rL];omega,λs g=>?_⟩,?_⟩
 . show(List.replicate (C+2).toNat (0:Int)).getD s 0= _;rw[qE,uW,qK ω];rfl
 rintro⟨(i:Int),(F:Wf),_⟩ _ ⟨I,ag,v,c⟩;simp only at I ag v c|-;refine⟨λh=>?_,λh=>?_⟩
 . have h:=qA h;rw[Ir I h];have X:=au i.toNat ω;have bn:i64.wrap (((D.getD i.toNat []).length:Int)+1)=((ln i.toNat:Nat):Int)+1:=wr (by show _ <=((ln i.toNat:Nat):Int)+1;omega) (by show((ln i.toNat:Nat):Int)+1<= _;omega);rw[bn,(ω:(((ln i.toNat:Nat):Int)+1).toNat=ln i.toNat+1),c _ ω];have:=V i.toNat λk=>decide (ln k+1=ln i.toNat+1)
   rw[wv (a:=i+1) ω,wv (a:=(_:Int)+1) ω];refine⟨⟨I,h⟩,⟨ω,ω⟩,⟨ω,ω⟩,⟨ω,ω,by rw[qP];exact v,λs g=>?_⟩,ω⟩;rw[(ω:(i+1).toNat=i.toNat+1)];show _=((cN i.toNat _ +(if decide (ln i.toNat+1=s)=true then 1 else 0):Nat):Int);by_cases Y:s=ln i.toNat+1
   . subst Y;rw[B9 ω,qK (by simp)];omega
   rw[D8 Y,c s g,qG (by simp;omega),tD]
 have h:=qB h;have b9:i.toNat=R.toNat:=ω
 rw[b9]at c;refine⟨λp=>0<=p.1/\p.1<=C+1/\p.2.1.length=C.toNat+2/\∀s,s<C.toNat+2->p.2.1.getD s 0=((cN R.toNat λk=>if s<=p.1.toNat then decide (ln k+1<=s)else decide (ln k+1=s):Nat):Int),λp=>(C+1-p.1).toNat,⟨qH _,ω,v,λs g=>?_⟩,?_⟩
 . show F.getD s 0= _;rw[c s g];refine sA Int.ofNat (AA λk _=>?_);by_cases a7:s<=(0:Int).toNat
   . rw[qK a7];have:s=0:=by simpa using a7
     subst this;rfl
   rw[qG a7]
 rintro⟨(t:Int),(F:Wf),_⟩ _ ⟨M,ak,v,c⟩;simp only at M ak v c|-;refine⟨λh=>?_,λh=>?_⟩
 . have h:=qA h;have bp:i64.wrap (t+1)=t+1:=wv ω;rw[bp,(ω:(t+1).toNat=t.toNat+1),c _ ω,c _ ω];have c1:=V R.toNat λk=>if t.toNat+1<=t.toNat then decide (ln k+1<=t.toNat+1)else decide (ln k+1=t.toNat+1)
   have b2:=V R.toNat λk=>if t.toNat<=t.toNat then decide (ln k+1<=t.toNat)else decide (ln k+1=t.toNat)
   rw[wv (a:=(_:Int)+ _) ω];refine⟨⟨ω,ω⟩,⟨M,ω⟩,⟨ω,ω⟩,⟨ω,ω,by rw[qP];exact v,λs g=>?_⟩,ω⟩;by_cases ay:s=t.toNat+1
   . subst ay;rw[B9 ω, <-wO];refine sA Int.ofNat (A4s λk _=>?_).symm;rw[qK (qT (t.toNat+1)),qG (ω:¬t.toNat+1<=t.toNat),qK (qT t.toNat)];simp only[rR];split<;>split<;>split<;>omega
   rw[D8 ay,c s g];refine sA Int.ofNat (AA λk _=>?_);by_cases O:s<=t.toNat
   . rw[qK O,qK ω]
   rw[qG O,qG ω]
 have h:=qB h;have c:∀s,s<C.toNat+2->F.getD s 0=((cN R.toNat λk=>decide (ln k<s):Nat):Int):=λs g=>by
  rw[c s g];refine sA Int.ofNat (AA λk _=>?_);rw[qK ω];exact wH.2 ω
 refine⟨⟨Z,qH _,ω,ω⟩,λp=>0<=p.1/\p.1<=R/\p.2.1.length=C.toNat+2/\p.2.2.1.length=R.toNat/\(∀s,s<C.toNat+2->p.2.1.getD s 0=((cN R.toNat (λk=>decide (ln k<s))+cN p.1.toNat λk=>decide (ln k=s):Nat):Int))/\∀b,b<p.1.toNat->p.2.2.1.getD b 0=((rkN R.toNat ln b:Nat):Int),λp=>(R-p.1).toNat,⟨qH _,Z,v,rL,λs g=>c s g,λb f=>by simp at f⟩,?_⟩;rintro⟨(i:Int),(F:Wf),(N:Wf),_⟩ _ ⟨I,ag,v,a5,c,A⟩;simp only at I ag v a5 c A|-;refine⟨λh=>?_,λh=>?_⟩
 . have h:=qA h;rw[Ir I h];have X:=au i.toNat ω;have bc:(D.getD i.toNat []).length=ln i.toNat:=rfl;rw[bc,qN,c _ ω];have c1:=V R.toNat λk=>decide (ln k<ln i.toNat)
   have b2:=V i.toNat λk=>decide (ln k=ln i.toNat)
   rw[wv (a:=i+1) ω,wv (a:=(_:Int)+1) ω];refine⟨⟨I,h⟩,⟨ω,ω⟩,⟨I,ω⟩,⟨ω,ω⟩,⟨ω,ω⟩,⟨ω,ω,by rw[qP];exact v,by rw[qP];exact a5,λs g=>?_,λb f=>?_⟩,ω⟩
   . rw[(ω:(i+1).toNat=i.toNat+1)];show _=((_ +(cN i.toNat _ +(if decide (ln i.toNat=s)=true then 1 else 0)):Nat):Int);by_cases Y:s=ln i.toNat
     . subst Y;rw[B9 ω,qK (by simp)];omega
     rw[D8 Y,c s g,qG (by simp;omega),tD]
   by_cases ap:b=i.toNat
   . subst ap;rw[B9 ω,B2e ω]
   rw[D8 ap];exact A b ω
 have h:=qB h;have A:∀b,b<R.toNat->N.getD b 0=((rkN R.toNat ln b:Nat):Int):=λb f=>A b ω
 have a2:∀b,b<R.toNat->ix N b=rkN R.toNat ln b:=λb f=>by unfold ix;rw[A b f,qN]
 have ae:G2 N R:=by
  have:=mV a5 (λa E=>by rw[a2 a E];exact A a E) (λa E=>by rw[a2 a E];exact B8r E) λa b E f ab=>C2o E f (by rw[<-a2 a E, <-a2 b f,ab])
  rwa[(ω:((R.toNat:Nat):Int)=R)]at this
 refine⟨trivial,?_⟩;rintro⟨bt,_⟩ _ a4;simp only at a4|-;have a4:bt=true:=by rw[a4];exact rB P
 rw[a4];refine⟨λh=>(by cases h),λ_=>⟨⟨am,qH _,ω,ω⟩,?_⟩⟩;refine⟨λp=>0<=p.1/\p.1<=R/\p.2.1.length=C.toNat/\∀j,j<C.toNat->eK p.1.toNat (λi=>el (R,C,D) i j) (p.2.1.getD j []),λp=>(R-p.1).toNat,⟨qH _,Z,rL,λj r=>?_⟩,?_⟩
 . have e:(List.replicate C.toNat ([]:List C8)).getD j []= []:=by
    rw[qE,uW,qK r];rfl
   show eK _ _ ((List.replicate C.toNat ([]:List C8)).getD j []);rw[e];exact⟨AC,λ_ h=>(by cases h),λi n=>by simp at n⟩
 rintro⟨(k:Int),rows,_⟩ _ ⟨a6,bs,X,W⟩;change List (List C8)at rows;simp only at a6 bs X W|-;refine⟨λz=>?_,λz=>?_⟩
 . have z:=qA z;have ac:=F6 (d:=([]:List C8)) a6 z;rw[Ir a6 z]at ac|-;have az:=b1 _ ac;have af:=JN P g ac;have b7:∀j:Nat,A4 (D.getD k.toNat []) (j:Int)=el (R,C,D) k.toNat j:=λj=>rfl
   generalize D.getD k.toNat []=row at*;have a5:=af.2.2;refine⟨⟨a6,z⟩,λp=>0<=p.1/\p.1<=(row.length:Int)/\p.2.1.length=C.toNat/\∀j,j<C.toNat->eK (k+1).toNat (λi=>if i<k.toNat then el (R,C,D) i j else A4 (row.take p.1.toNat) (j:Int)) (p.2.1.getD j []),λp=>((row.length:Int)-p.1).toNat,⟨qH _,qF _,X,λj r=>?_⟩,?_⟩
   . obtain⟨T,U,a0⟩:=W j r;refine⟨T,λe y=>by have:=U e y;omega,λi n=>?_⟩;dsimp only;by_cases u:i<k.toNat
     . rw[qK u];exact a0 i u
     rw[qG u,C7 λe y bx=>by have:=(U e y).2;omega];rfl
   rintro⟨(t:Int),o,_⟩ _ ⟨M,ak,J,of⟩;change List (List C8)at o;simp only at M ak J of|-;refine⟨λB=>?_,λB=>?_⟩
   . have B:=qA B;have ar:=F6 (d:=D7) M B;obtain⟨an,bw,b3⟩:=az.2 _ ar;have bh:=af.2.1 _ ar;have aa:=PV (d:=D7) M B;have ao:A4 (row.take t.toNat) (gx D7 row t).1=0:=by
      refine C7 λx E ab=>?_
      have G:(row.take (t+1).toNat).Pairwise (λa b=>a.1<b.1):=af.1.take;rw[(ω:(t+1).toNat=t.toNat+1),rP,H0 (d:=D7) M B,tG]at G;have:=G.2.2 x E (gx D7 row t) (by simp);omega
     generalize gx D7 row t=e at*;have bi:H3 e.2:=O4 bh δ;have A1:t<(row.length:Int):=B;have B1:e.1<(o.length:Int):=by rw[J];omega
     have ad:=of e.1.toNat ω;have be:=A8n ad;have L1:((o.getD e.1.toNat []).length+ [(k,rc (rv e.2))].length)*64<=140737488355328:=by simp only[rC];omega
     have L2:(o.getD e.1.toNat []).length+ [(k,rc (rv e.2))].length<=9223372036854775807:=by simp only[rC];omega
     have bo:i64.wrap (t+1)=t+1:=wv ω;rw[bo];have I1:0<=t+1:=ω
     have I2:t+1<=(row.length:Int):=ω
     have I3:(o.set e.1.toNat (o.getD e.1.toNat []++ [(k,rc (rv e.2))])).length=C.toNat:=by rw[qP];exact J
     have I4:∀j,j<C.toNat->eK (k+1).toNat (λi=>if i<k.toNat then el (R,C,D) i j else A4 (row.take (t+1).toNat) (j:Int)) ((o.set e.1.toNat (o.getD e.1.toNat []++ [(k,rc (rv e.2))])).getD j []):=λj r=>by
      rw[qE,xU];by_cases ab:e.1.toNat=j
      . rw[qK ab,qK ω];subst ab;obtain⟨T,U,a0⟩:=ad;have av:∀x∈o.getD e.1.toNat [],x.1<k:=λx E=>by
         have G:=U x E;have O:=(T.2 x E).1;rw[<-H8 T.1 E]at O;refine qM λa3=>O ?_
         have b4:x.1=((k.toNat:Nat):Int):=ω
         rw[b4,a0 k.toNat ω];dsimp only;rw[qG ω,(ω:((e.1.toNat:Nat):Int)=e.1)];exact ao
        refine⟨Lw T b3 av,λx E=>?_,λi n=>?_⟩
        . rcases qZ.1 E with E|E
          . exact U x E
          rw[qO.1 E];show 0<=k/\k< _;omega
        show A4 (o.getD e.1.toNat []++ [(k,rc (rv e.2))]) (i:Int)= _;rw[Ga,a0 i n];dsimp only;rw[aa,qK (ω:e.1=((e.1.toNat:Nat):Int))];by_cases u:i<k.toNat
        . rw[qK u,qK u,qG ω,rK]
        rw[qG u,qG u,qK ω]
      rw[qG ab, <-qE];refine QV (of j r) λi _=>?_
      rw[aa,qG (ω:¬e.1=(j:Int)),rK]
     have M1:((row.length:Int)-(t+1)).toNat<((row.length:Int)-t).toNat:=ω
     clear ad be aa ao of W az
     repeat' first
      |exact⟨⟨an,B1⟩,by trivial,⟨I1,I2,I3,I4⟩,M1⟩
      |exact⟨L1,L2⟩
      |exact⟨an,B1⟩
      |exact⟨M,A1⟩
      |exact bi
      |apply And.intro
      | (rintro⟨q,_⟩ _ E;simp only at E|-;subst E)
   have B:=qB B;rw[wv ω];rw[E6 (l:=row) (i:=t) ω]at of;refine⟨⟨ω,ω,J,λj r=>QV (of j r) λi n=>?_⟩,ω⟩;by_cases u:i<k.toNat
   . rw[qK u]
   rw[qG u,b7,(ω:i=k.toNat)]
 have z:=qB z;rw[(ω:k.toNat=R.toNat)]at W;have b5:((R.toNat:Nat):Int)=R:=ω
 have ax:(N.length:Int)=R:=ω
 refine⟨λp=>p.1=N/\0<=p.2.1/\p.2.1<=C/\p.2.2.1.length=C.toNat/\(∀b,p.2.1.toNat<=b->b<C.toNat->eK R.toNat (λi=>el (R,C,D) i b) (p.2.2.1.getD b []))/\∀b,b<p.2.1.toNat->R3 (p.2.2.1.getD b [])/\(∀e∈p.2.2.1.getD b [],0<=e.1/\e.1<R)/\∀i:Nat,i<R.toNat->A4 (p.2.2.1.getD b []) (N.getD i 0)=el (R,C,D) i b,λp=>(C-p.2.1).toNat,⟨rfl,qH _,am,X,λb _ f=>W b f,λb f=>by simp at f⟩,?_⟩;rintro⟨(Q:Wf),(j:Int),o,_⟩ _ ⟨aw,ah,bq,J,ai,aj⟩;change List (List C8)at o;simp only at aw ah bq J ai aj|-;subst aw;refine⟨λr=>?_,λr=>?_⟩
 . have r:=qA r;have bb:j.toNat<C.toNat:=ω
   have H:=ai j.toNat (qT _) bb;have bj:Vy K1 (o.getD j.toNat []):=by
    refine⟨H.1.1,λe y=>?_,by have:=A8n H;omega⟩;have G:=H8 H.1.1 y;have O:=H.2.1 e y;have E:=H.2.2 e.1.toNat ω;rw[(ω:((e.1.toNat:Nat):Int)=e.1),G]at E;rw[(H.1.2 e y).2,E];exact Tx (Pf P bf g δ _ _)
   have b8:∀i:Int,A4 (o.getD j.toNat []) i≠0->0<=i/\i<R:=λi n=>by
    rw[MB H i,b5]at n;exact qM λa3=>n (qG a3)
   refine⟨⟨ah,ω⟩,⟨bj,ω⟩,?_⟩;rintro⟨(b0:List C8),b,_⟩ _ a8;simp only at a8|-;rw[ax]at a8;obtain⟨⟨a9,a1⟩,_⟩:=a8 ae b8;have a1:∀i:Int,A4 b0 i=if 0<=i/\i<R then A4 (o.getD j.toNat []) ((List.idxOf i Q:Nat):Int)else 0:=a1
   rw[wv ω];refine⟨⟨ah,ω⟩,⟨by trivial,ω,ω,by rw[qP];exact J,λb f b6=>?_,λb f=>?_⟩,ω⟩
   . rw[D8 ω];exact ai b ω b6
   by_cases aq:b=j.toNat
   . subst aq;rw[B9 ω];refine⟨a9,λe y=>?_,λi n=>?_⟩
     . have G:=H8 a9.1 y;rw[a1]at G;exact qM λa3=>(a9.2 e y).1 (by rw[<-G,qG a3])
     have av:=B8r (ln:=ln) n;have ba:((List.idxOf (Q.getD i 0) Q:Nat):Int)=(i:Int):=((mW (by rw[ax];exact ae) (a:=(i:Int)) (i:=Q.getD i 0) ω ω (by rw[A i n];omega) (by rw[A i n];omega)).1 (by rw[qN])).symm;rw[a1,qK (by rw[A i n];omega),ba];exact H.2.2 i n
   rw[D8 aq];exact aj b ω
 have r:=qB r;exact⟨Q,ae,J,λb f=>aj b ω⟩
noncomputable def Re:G9:= [(43,Ar),(78,N7),(79,W0)]
def Qm:An:= {join:= [(6,⟨[],[1,2],[(1,false,[.val qd])],[],[]⟩)],loop:= [(1,⟨[0],[1,2],[(1,false,[.val qd])],[],[]⟩)],plan:= [(4,[3,7],[13],true, .done)]}
def Yf:An:= {join:= [(12,⟨[4,14,15,16],[],[(5,false,[.own qb 3])],[],[(1, .map false qb false qd)]⟩)],loop:= [(6,⟨[4,14,15],[],[(5,false,[.own qb 3]),(16,false,vI)],[],[(1, .map false qb false qd)]⟩)]}
noncomputable def Yv:G9:= [(30,N1),(85,O0),(86,W3 (Pg ⟨prog,tys⟩ [(23,Re,Qm)] f86.results.toList (f86.body.getD .skip) f86.ntmps))]
abbrev D0v:=Wf×Int×List (Int×List EE)×Unit
abbrev D0z:=Wf×List (Int×List EE)×Unit
def Ij(x:T4):Prop:=let k:=(1:Int);let g:=(0:Int);let b:(Nw)->Prop:=(λl=>g<(l.1.length:Int));True/\Gh λr=>r.1=decide (A3 x.1)->(iB ((!r.1)) ((¬A3 x.1->Ow Int= []/\k=k)/\(A3 x.1->QT x.1 []/\k=g)) ((A3 x.1/\J1 K1 x.1)/\∀(r:List (List EE)×Unit),Ye r.1/\True->spF x.1 r.1->∃(I:D0v->Prop),∃(a: _->Nat),I ([],g,[],())/\∀(p:D0v),let d:Prop:=(p.2.1<(r.1.length:Int));(Ty.int i64).sl.wf p.1/\(Ty.int i64).wf p.2.1/\(∀(x:Int×List EE),x∈p.2.2.1->R8 x.1/\FH x.2)/\True->I p->(iB (decide d) (∃(J:D0z->Prop),((g<=p.2.1/\d)/\∃(J_1:Nw->Prop),(∃(I:Nw->Prop),∃(a: _->Nat),I (gx [] r.1 p.2.1,())/\∀(l:Nw),let h:=(gx D7 l.1 g);let f:=(gx D7 ((F8 (Ty.int i64) h.1 p.2.2.1).getD []) g);let e:Prop:=(g<=g/\b l);let c:Prop:=(H3 h.2/\H3 f.2);let d:(nR)->Prop:=(λr=>OZ r.1/\True/\True->(rv f.2=(0:Rat)->r.2.1=false)/\(rv f.2≠(0:Rat)->r.1=rc (rv h.2/rv f.2)/\r.2.1=true)->H3 r.1/\N6 λm=>m.1=rc (-rv r.1)->(Vy K1 l.1/\sz K1 m.1/\Vy K1 ((F8 (Ty.int i64) h.1 p.2.2.1).getD []))/\aY λr=>MA (fun(i:Int)=>A4 l.1 i+rv m.1*A4 ((F8 (Ty.int i64) h.1 p.2.2.1).getD []) i) r.1->I r/\a r<a l);tE.sl.wf l.1/\True->I l->(iB (decide (b l)) (e/\(iB ((!(F8 (Ty.int i64) h.1 p.2.2.1).isSome)) (J_1 l) (e/\(g<=g/\g<(↑((F8 (Ty.int i64) h.1 p.2.2.1).getD []).length:Int))/\(c/\∀(r:nR),d r)/\c/\∀(r:nR),d r))) (J_1 l)))/\∀(l:Nw),tE.sl.wf l.1/\True->J_1 l->(iB (decide (b l)) ((g<=g/\b l)/\((p.1.length+ [p.2.1].length)*(8:Nat)<=(140737488355328:Nat)/\p.1.length+ [p.2.1].length<=9223372036854775807)/\J (p.1++ [p.2.1],Eb (Ty.int i64) (gx D7 l.1 g).1 l.1 p.2.2.1,())) (J (p.1,p.2.2.1,()))))/\∀(l:D0z),let j:=(l.1,i64.wrap (p.2.1+k),l.2.1,());(Ty.int i64).sl.wf l.1/\(∀(x:Int×List EE),x∈l.2.1->R8 x.1/\FH x.2)/\True->J l->I j/\a j<a p) ((¬A3 x.1->p.1= []/\g=k)/\(A3 x.1->QT x.1 p.1/\g=g)))))
def nI (c:Nat->Int->Rat) (j:Nat) (u:Int->Rat):Prop:=∃x:Nat->Rat,∀i,u i=B8 j λk=>x k*c k i
section
variable {c:Nat->Int->Rat} {j:Nat} {u v:Int->Rat}
def Jg (h:nI c j u) (e:∀i,v i=u i):nI c j v:=by
 obtain⟨x,a⟩:=h;exact⟨x,λi=>(e i).trans (a i)⟩
def NJ (b:nI c j u) (a:Rat) (d:nI c j v):nI c j λi=>u i+a*v i:=by
 obtain⟨x,f⟩:=b;obtain⟨y,b⟩:=d;refine⟨λk=>x k+a*y k,λi=>?_⟩;show u i+a*v i=B8 j λk=>(x k+a*y k)*c k i
 rw[f,b, <-Hm, <-Ag];exact A8 λk _=>by grind
def A6y (h:nI c j u):nI c (j+1) u:=by
 obtain⟨x,a⟩:=h;refine⟨λk=>if k<j then x k else 0,λi=>?_⟩;show u i=B8 j (λk=>(if k<j then x k else 0)*c k i)+(if j<j then x j else 0)*c j i;rw[qG (tT j),rV,rK,a];exact A8 λk a=>by rw[qK a]
def C3e:nI c (j+1) (c j):=by
 refine⟨λk=>if k=j then 1 else 0,λi=>?_⟩;show _=B8 j (λk=>(if k=j then 1 else 0)*c k i)+(if j=j then 1 else 0)*c j i;rw[qK rfl,uB,S7 λk a=>by rw[qG ω,rV],sR]
def A2w (h:nI c (j+1) u):∃a,nI c j λi=>u i-a*c j i:=by
 obtain⟨x,b⟩:=h;refine⟨x j,x,λi=>?_⟩;have:=b i;show u i-x j*c j i=B8 j λk=>x k*c k i
 rw[this];show B8 j (λk=>x k*c k i)+x j*c j i-x j*c j i= _;grind
end
def C9f (c:Nat->Int->Rat) (j:Nat) (G:Int->Option (List C8)):Prop:=∀u,nI c j u->(∃i,u i≠0)->∃k w,G k=some w/\u k≠0/\∀i,i<k->u i=0
def Kx (v:List C8):Int:=(gx D7 v 0).1
def gvU (G:Int->Option (List C8)) (t:Nat) (i:Int):Rat:=match G (t:Int)with
 |some w=>A4 w i
 |none=>0
def pI (c:Nat->Int->Rat) (j:Nat) (G:Int->Option (List C8)) (n:Nat) (v:List C8):Prop:=∃X:Nat->Rat,∀i,c j i=B8 n (λt=>X t*gvU G t i)+A4 v i
structure KT (c:Nat->Int->Rat) (R:Int) (T j:Nat) (G:Int->Option (List C8)) (P:Wf):Prop where
 key:∀k w,G k=some w->0<=k/\k<R/\R3 w/\w≠ []/\Kx w=k/\(∀e∈w,0<=e.1/\e.1<R)/\Zr (T+T) w/\nI c j (A4 w)
 cmb:∀k w,G k=some w->∃q,q<j/\pI c q G k.toNat w
 lead:C9f c j G
 piv:P.Pairwise (· < ·)/\∀b:Int,b∈P↔0<=b/\b<(j:Int)/\¬nI c b.toNat (c b.toNat)
def A8a {c:Nat->Int->Rat} {j n m:Nat} {G G':Int->Option (List C8)} {v:List C8} (h:pI c j G n v) (b:∀k w,G k=some w->G' k=some w) (g:n<=m):pI c j G' m v:=by
 obtain⟨X,d⟩:=h;refine⟨λt=>if t<n/\(G (t:Int)).isSome=true then X t else 0,λi=>?_⟩;show c j i=B8 m (λt=>(if t<n/\(G (t:Int)).isSome=true then X t else 0)*gvU G' t i)+A4 v i;rw[d i,Eg g λk o r=>by rw[qG (λa=>ω),rV]];congr 1;refine A8 λt l=>?_
 show X t*gvU G t i=(if t<n/\(G (t:Int)).isSome=true then X t else 0)*gvU G' t i;unfold gvU;cases f:G (t:Int)with
 |none=>rw[qG (λa=>by have:=a.2;cases this),rV];exact sM _
 |some w=>rw[qK ⟨l,rfl⟩,b _ _ f]
def VD (C:Nat) (c:Nat->Int->Rat) (k i:Nat):Rat:=if k<C then c k (i:Int)else if i=k-C then 1 else 0
def C5i {C R T n j:Nat} {c:Nat->Int->Rat} {G:Int->Option (List C8)} {v:List C8} (N:Jr (C+R) R (VD C c) T) (W:1<=T) (s:∀(t:Nat) w,t<R->G (t:Int)=some w->(∀i:Nat,i<t->A4 w (i:Int)=0)/\A4 w (t:Int)≠0/\∃q,q<C/\pI c q G t w) (Y:n<=R) (P:j<C) (V:pI c j G n v) (M:∀i:Nat,i<n->A4 v (i:Int)=0) {i:Nat} (O:i<R):qs (T+T) (A4 v (i:Int)):=by
 by_cases H:n=R
 . rw[M i ω];exact M0 ω
 have H:n<R:=ω
 let f:Nat->Nat->Rat:=λb i=>match G (b:Int)with
  |some w=>A4 w (i:Int)
  |none=>if i=b then 1 else 0
 have I:∀(X:Nat->Rat) (m i:Nat),B8 m (λt=>X t*gvU G t (i:Int))=B8 m λt=>(if(G (t:Int)).isSome=true then X t else 0)*f t i:=λX m i=>A8 λt _=>by
  show X t*gvU G t (i:Int)=(if(G (t:Int)).isSome=true then X t else 0)*(match G (t:Int)with
   |some w=>A4 w (i:Int)
   |none=>if i=t then 1 else 0)
  unfold gvU;cases o:G (t:Int)with
  |none=>rw[qG δ,rV];exact sM _
  |some w=>rw[qK (show(some w).isSome=true from rfl)]
 have U:∀b,∃y:Nat×(Nat->Rat),b<R->y.1<C+R/\∀i,i<R->VD C c y.1 i=B8 b (λt=>y.2 t*f t i)+f b i:=λb=>by
  by_cases B:b<R
  . cases o:G (b:Int)with
    |none=>
     refine⟨(C+b,λ_=>0),λ_=>⟨by simp only;omega,λi _=>?_⟩⟩;rw[S7 λQ _=>rV _,sR];show VD C c (C+b) i=match G (b:Int)with
      |some w=>A4 w (i:Int)
      |none=>if i=b then 1 else 0
     rw[o];unfold VD;rw[qG ω,(ω:C+b-C=b)]
    |some w=>
     obtain⟨_,_,q,Q,X,k⟩:=s b w B o;refine⟨(q,λt=>if(G (t:Int)).isSome=true then X t else 0),λ_=>⟨by simp only;omega,λi _=>?_⟩⟩;show VD C c q i= _ +match G (b:Int)with
      |some w=>A4 w (i:Int)
      |none=>if i=b then 1 else 0
     rw[o, <-I];unfold VD;rw[qK Q];exact k i
  exact⟨(0,λ_=>0),λE=>absurd E B⟩
 obtain⟨F,z⟩:=g2a U;obtain⟨X,k⟩:=V;have h:∀b,b<n->(if b=n then(λi:Nat=>A4 v (i:Int))else f b)=f b:=λb d=>qG ω
 have x:∀m,m<n->(if m=n then i else m)=m:=λm g=>qG ω
 have D:∀b,b<=n->(if b=n then i else b)<R:=λb d=>by
  split
  . exact O
  omega
 have J:∀b,b<R->(∀m,m<b->f b m=0)/\f b b≠0:=λb d=>by
  show(∀m,m<b->(match G (b:Int)with
   |some w=>A4 w (m:Int)
   |none=>if m=b then 1 else 0)=0)/\(match G (b:Int)with
   |some w=>A4 w (b:Int)
   |none=>if b=b then 1 else 0)≠0
  cases o:G (b:Int)with
  |none=>exact⟨λm g=>qG ω,by simp only[vZ];decide⟩
  |some w=>exact⟨(s b w d o).1,(s b w d o).2.1⟩
 have:=nL (R:=C+R) (C:=R) (T:=T) (A:=VD C c) (a:=n) (u:=λb=>if b=n then(λi:Nat=>A4 v (i:Int))else f b) (X:=λb=>if b=n then(λt=>if(G (t:Int)).isSome=true then X t else 0)else(F b).2) (r:=λb=>if b=n then j else(F b).1) (l:=λm=>if m=n then i else m) N (λb d=>by
  show(if b=n then j else(F b).1)<C+R;split
  . omega
  . exact(z b ω).1) D ω H (λb d m g=>by
  have E:=D m g;generalize (if m=n then i else m)=y at E;by_cases e:b=n
  . subst e;simp only[vZ];show VD C c j y= _ +A4 v (y:Int);unfold VD;rw[qK P,k y,I];congr 1;exact A8 λo B=>by rw[h o B]
  . simp only[qG e];rw[(z b ω).2 y E];congr 1;exact A8 λo B=>by rw[h o ω]) (λb m g d=>by
  show(if b=n then(λi:Nat=>A4 v (i:Int))else f b) (if m=n then i else m)=0;rw[x m ω];by_cases e:b=n
  . rw[qK e];exact M m ω
  . rw[qG e];exact(J b ω).1 m g) (λb d=>by
  show(if b=n then(λi:Nat=>A4 v (i:Int))else f b) (if b=n then i else b)≠0;rw[h b d,x b d];exact(J b ω).2)
 simp only[vZ]at this;exact this
def Ml {v:List C8} (h:R3 v) (g:v≠ []):gx D7 v 0∈v/\A4 v (Kx v)=rv (gx D7 v 0).2/\rv (gx D7 v 0).2≠0/\(∀i,i<Kx v->A4 v i=0)/\∀e∈v,Kx v<=e.1:=by
 cases v with
 |nil=>exact absurd rfl g
 |cons e t=>
  have f:gx D7 (e::t) 0=e:=rfl;have c:e∈e::t:=rD;have d:∀a∈e::t,e.1<=a.1:=λa b=>by
   rcases qV.1 b with rfl|b
   . exact qH _
   exact xF ((zW.1 h.1).1 a b)
  unfold Kx;rw[f];exact⟨c,H8 h.1 c,(h.2 e c).1,λi k=>C7 λa b j=>by have:=d a b;omega,d⟩
structure dS (c:Nat->Int->Rat) (R:Int) (T j:Nat) (G:Int->Option (List C8)) (v:List C8):Prop where
 can:R3 v
 rng:∀e∈v,0<=e.1/\e.1<R
 sp:nI c j λi=>c j i-A4 v i
 sz:Zr (T+T) v
 st:∃n:Nat,n<=R.toNat/\(∀i:Nat,i<n->A4 v (i:Int)=0)/\pI c j G n v
section
variable {c:Nat->Int->Rat} {R:Int} {C j T:Nat} {G:Int->Option (List C8)} {P:Wf} {v w r:List C8}
def dS.start (b:R3 v) (d:∀e∈v,0<=e.1/\e.1<R) (f:Zr (T+T) v) (a:∀i,c j i=A4 v i):dS c R T j G v:=
 ⟨b,d,⟨λ_=>0,λi=>by show c j i-A4 v i=B8 j λk=>0*c k i;rw[a,S7 λk _=>rV _];grind⟩,f,0,rQ _,λi b=>absurd b (tX _),λ_=>0,λi=>by rw[a,B8,sR]⟩
def cqs {K:Nat} (d:1<=K) (h:R3 v) (g:Zr K v) (i:Int):qs K (A4 v i):=by
 by_cases c:∃e∈v,e.1=i
 . obtain⟨e,a,rfl⟩:=c;rw[H8 h.1 a];have b:=g e a;rw[(h.2 e a).2]at b;exact b
 rw[C7 λe a f=>c ⟨e,a,f⟩];exact M0 d
def KT.keys (d:KT c R T j G P) (a:j<=C) (t:Nat) (w:List C8) (_:t<R.toNat) (f:G (t:Int)=some w):(∀i:Nat,i<t->A4 w (i:Int)=0)/\A4 w (t:Int)≠0/\∃q,q<C/\pI c q G t w:=by
 obtain⟨a,b,h,l,k,_⟩:=d.key _ _ f;obtain⟨n,a,g,b,o⟩:=Ml h l;obtain⟨q,l,h⟩:=d.cmb _ _ f;rw[k]at a b;exact⟨λi d=>b _ ω,by rw[a];exact g,q,ω,by rwa[qN]at h⟩
def dS.step (h:dS c R T j G v) (Q:Jr (C+R.toNat) R.toNat (VD C c) T) (U:1<=T) (z:j<C) (y:KT c R T j G P) (a0:v≠ []) (E:G (Kx v)=some w) (Z:MA (λi=>A4 v i+ -(rv (gx D7 v 0).2/rv (gx D7 w 0).2)*A4 w i) r):dS c R T j G r/\(r≠ []->Kx v<Kx r):=by
 obtain⟨ac,ad,a2,a4,a3,a5,af,a6⟩:=y.key _ _ E;obtain⟨d,a⟩:=Z;have a:∀i,A4 r i=A4 v i+ -(rv (gx D7 v 0).2/rv (gx D7 w 0).2)*A4 w i:=a;obtain⟨I,o,J,M,a7⟩:=Ml h.can a0;obtain⟨a8,s,N,u,O⟩:=Ml a2 a4;rw[a3]at s u O;have F:∀i,i<=Kx v->A4 r i=0:=λi f=>by
  rcases g4m f with f|rfl
  . rw[a,M i f,u i f];grind
  rw[a,o,s,g5q,Rat.div_mul_cancel N];grind
 have B:∀e∈r,0<=e.1/\e.1<R:=λe b=>by
  have k:A4 r e.1≠0:=by rw[H8 d.1 b];exact(d.2 e b).1
  refine qM λA=>k ?_
  rw[a,C7 (v:=v) (i:=e.1) λx l g=>A (g▸h.rng x l),C7 (v:=w) (i:=e.1) λx l g=>A (g▸a5 x l)];grind
 have W:r≠ []->Kx v<Kx r:=λk=>by
  obtain⟨c1,g,l,x,A⟩:=Ml d k;refine qM λa9=>l ?_
  rw[<-g];exact F _ ω
 have aa:0<=Kx v/\Kx v<R:=h.rng _ I;obtain⟨n,ae,a1,X,V⟩:=h.st;have Y:n<=(Kx v).toNat:=g2i λhh=>J (by
  have:=a1 (Kx v).toNat hh;rw[(ω:(((Kx v).toNat:Nat):Int)=Kx v)]at this;rw[<-o];exact this)
 have D:pI c j G ((Kx v).toNat+1) r:=⟨λt=>if t=(Kx v).toNat then rv (gx D7 v 0).2/rv (gx D7 w 0).2 else if t<n then X t else 0,λi=>by
  show c j i=B8 ((Kx v).toNat+1) (λt=>(if t=(Kx v).toNat then rv (gx D7 v 0).2/rv (gx D7 w 0).2 else if t<n then X t else 0)*gvU G t i)+A4 r i;rw[V i,B8,qK rfl,show gvU G (Kx v).toNat i=A4 w i from by unfold gvU;rw[(ω:(((Kx v).toNat:Nat):Int)=Kx v),E],Eg Y λx g l=>by rw[qG ω,qG ω,rV],a];have e:B8 n (λt=>X t*gvU G t i)=B8 n λt=>(if t=(Kx v).toNat then rv (gx D7 v 0).2/rv (gx D7 w 0).2 else if t<n then X t else 0)*gvU G t i:=A8 λt ht=>by rw[qG ω,qK ht]
  rw[<-e];grind⟩
 have H:∀i:Nat,i<(Kx v).toNat+1->A4 r (i:Int)=0:=λi f=>F _ ω
 refine⟨⟨d,B,Jg (NJ h.sp (rv (gx D7 v 0).2/rv (gx D7 w 0).2) a6) λi=>by rw[a];grind,λe b=>?_,_,ω,H,D⟩,W⟩;have ab:=B e b;have:=C5i Q U (y.keys (vV z)) ω z D H (i:=e.1.toNat) ω;rw[(ω:((e.1.toNat:Nat):Int)=e.1),H8 d.1 b]at this;rw[(d.2 e b).2];exact Tx this
def KT.skip (a:KT c R T j G P) (h:dS c R T j G []):KT c R T (j+1) G P:=by
 have k:nI c j (c j):=Jg h.sp λi=>by show _= _-(0:Rat);grind
 refine⟨λd w g=>?_,λd w g=>?_,λu o n=>?_,a.piv.1,λb=>?_⟩
 . obtain⟨d,f,l,s,r,t,x,v⟩:=a.key _ _ g;exact⟨d,f,l,s,r,t,x,A6y v⟩
 . obtain⟨q,d,f⟩:=a.cmb _ _ g;exact⟨q,ω,f⟩
 . obtain⟨g,l⟩:=A2w o;exact a.lead u (Jg (NJ l g k) λi=>by grind) n
 rw[a.piv.2];refine⟨fun⟨d,f,h3⟩=>⟨d,ω,h3⟩,fun⟨d,f,h3⟩=>⟨d,?_,h3⟩⟩;refine qM λa=>h3 ?_
 rw[(ω:b.toNat=j)];exact k
def KT.add (g:KT c R T j G P) (h:dS c R T j G v) (V:v≠ []) (E:G (Kx v)=none) {G':Int->Option (List C8)} (o:∀i,G' i=if i=Kx v then some v else G i):KT c R T (j+1) G' (P++ [(j:Int)]):=by
 obtain⟨W,s,t,u,aa⟩:=Ml h.can V;have F:=h.rng _ W;have F:0<=Kx v/\Kx v<R:=F;have Y:¬nI c j (c j):=λhd=>by
  have a0:nI c j (A4 v):=Jg (NJ hd (-1) h.sp) λi=>by grind
  obtain⟨k,w,d,D,r⟩:=g.lead _ a0 ⟨Kx v,by rw[s];exact t⟩;have x:¬k<Kx v:=λa=>D (u k a)
  have l:¬Kx v<k:=λa=>t (by rw[<-s];exact r _ a)
  rw[(ω:k=Kx v),E]at d;cases d
 have Q:∀k w,G k=some w->G' k=some w:=λk w a=>by
  rw[o,qG (λe=>by rw[e,E]at a;cases a)];exact a
 refine⟨λk w a=>?_,λk w a=>?_,λH a1 Z=>?_,?_,λb=>?_⟩
 . rw[o]at a;split at a
   . rename_i O;cases a;subst O;exact⟨F.1,F.2,h.can,V,rfl,h.rng,h.sz,Jg (NJ (C3e (c:=c) (j:=j)) (-1) (A6y h.sp)) λi=>by grind⟩
   obtain⟨a2,d,a4,a6,a5,a7,a9,a8⟩:=g.key _ _ a;exact⟨a2,d,a4,a6,a5,a7,a9,A6y a8⟩
 . rw[o]at a;split at a
   . rename_i O;cases a;subst O;obtain⟨n,ab,a3,X⟩:=h.st;refine⟨j,rN _,A8a X Q (g2i λN=>t ?_)⟩;have:=a3 (Kx v).toNat N;rw[(ω:(((Kx v).toNat:Nat):Int)=Kx v)]at this;rw[<-s];exact this
   obtain⟨q,x,l⟩:=g.cmb _ _ a;exact⟨q,ω,A8a l Q (qT _)⟩
 . obtain⟨f,M⟩:=A2w a1;have l:nI c j λi=>H i-f*A4 v i:=Jg (NJ M f h.sp) λi=>by grind
   by_cases I:f=0
   . subst I;obtain⟨k,w,d,D,r⟩:=g.lead H (Jg l λi=>by grind) Z;refine⟨k,w,?_,D,r⟩;rw[o,qG (λe=>by rw[e,E]at d;cases d)];exact d
   by_cases B:∃i,H i-f*A4 v i≠0
   . obtain⟨k,w,d,D,r⟩:=g.lead _ l B;have U:k≠Kx v:=λe=>by rw[e,E]at d;cases d
     rcases g4n U with a|a
     . refine⟨k,w,by rw[o,qG U];exact d,λe=>D ?_,λi A=>?_⟩
       . rw[e,u k a];grind
       have:=r i A;rw[u i ω]at this;grind
     refine⟨Kx v,v,by rw[o,qK rfl],λe=>?_,λi A=>?_⟩
     . have y:=r _ a;rw[e,s]at y;have:f*rv (gx D7 v 0).2=0:=by grind
       rcases xE.1 this with J|J
       . exact I J
       exact t J
     have:=r i ω;rw[u i A]at this;grind
   have B:∀i,H i=f*A4 v i:=λi=>by
    have:=qM λN=>B ⟨i,N⟩
    grind
   refine⟨Kx v,v,by rw[o,qK rfl],?_,λi A=>by rw[B,u i A,sM]⟩;rw[B,s];exact λe=>(xE.1 e).elim I t
 . refine tG.2 ⟨g.piv.1,wZ _ _,λf M b z=>?_⟩;rw[qO]at z;have:=((g.piv.2 f).1 M).2.1;show f<b;omega
 rw[qZ,qO,g.piv.2];refine⟨λz=>?_,fun⟨x,l,y⟩=>?_⟩
 . rcases z with⟨x,l,y⟩ |rfl
   . exact⟨x,ω,y⟩
   exact⟨qF _,ω,by rw[qN];exact Y⟩
 by_cases z:b=(j:Int)
 . exact .inr z
 exact .inl ⟨x,ω,y⟩
def KT.start:KT c R T 0 (λ_=>none) []:=
 ⟨λk w h=>(by cases h),λk w h=>(by cases h),λu ⟨x,hx⟩ ⟨i,hi⟩=>absurd (hx i) hi,List.Pairwise.nil,λb=>⟨λh=>(by cases h),fun⟨h1,h2,_⟩=>ω⟩⟩
end
def bB {f:Nat->Rat} {m:Nat} :∀ {n:Nat},m<=n->(∀k,m<=k->k<n->f k=0)->B8 n f=B8 m f
 |0,h,_=>by rw[g5n.1 h]
 |n+1,h,c=>by
  rcases sI m (n+1)with a|a
  . show B8 n f+f n= _;rw[bB ω λk d b=>c k d ω,c n ω ω,rK]
  rw[Nat.le_antisymm h a]
def C0o {m:J6} {cs:List (List C8)} (A:spF m cs) {b:Nat} (v:b<m.2.1.toNat) (H:0<=m.1):LQ m.1.toNat m.2.1.toNat (el m) b↔nI (λk=>A4 (cs.getD k [])) b (A4 (cs.getD b [])):=by
 obtain⟨p,J,I,h⟩:=A;have z:G2 p ((m.1.toNat:Nat):Int):=by rwa[(ω:((m.1.toNat:Nat):Int)=m.1)]
 obtain⟨pl,s,G⟩:=Q3 z;have r:∀k,k<m.2.1.toNat->∀i:Int,¬(0<=i/\i<m.1)->A4 (cs.getD k []) i=0:=λk o i f=>C7 λe he hei=>f (hei▸(h k ω).2.1 e he)
 have B:∀i:Int,0<=i->i<m.1->∃a,a<m.1.toNat/\p.getD a 0=i:=λi i0 i1=>by
  obtain⟨a,c,u⟩:=M9 (n:=m.1.toNat) (q:=ix p) (λa c=>(s a c).2) G (j:=i.toNat) ω;exact⟨a,c,by rw[(s a c).1,u];omega⟩
 constructor
 . rintro⟨x,o,E,D⟩;refine⟨λk=> -(x k/x b),λi=>?_⟩;by_cases f:0<=i/\i<m.1
   . obtain⟨a,c,rfl⟩:=B i f.1 f.2;have d:=o a c;rw[bB (m:=b+1) ω λk l w=>by rw[D k ω,sM]]at d;have d:B8 b (λk=>el m a k*x k)+el m a b*x b=0:=d;show A4 (cs.getD b []) (p.getD a 0)=B8 b λk=> -(x k/x b)*A4 (cs.getD k []) (p.getD a 0)
     rw[(h b ω).2.2 a c,A8 (g:=λk=> -(1/x b)*(el m a k*x k)) λk l=>by rw[(h k ω).2.2 a c,tS,tS];grind,Hm];have t:B8 b (λk=>el m a k*x k)= -(el m a b*x b):=by grind
     rw[t,tS,uB,g5q,Rat.mul_neg,Rat.neg_neg,wW,tU,vQ _ E,uJ]
   show A4 (cs.getD b []) i=B8 b λk=> -(x k/x b)*A4 (cs.getD k []) i
   rw[r b v i f,S7 λk l=>by rw[r k ω i f,sM]]
 rintro⟨y,F⟩;refine⟨λk=>if k<b then y k else if k=b then -1 else 0,λa c=>?_,by show(if b<b then y b else if b=b then(-1:Rat)else 0)≠0;rw[qG (tT b),qK rfl];decide,λk o=>by show(if k<b then y k else if k=b then(-1:Rat)else 0)=0;rw[qG ω,qG ω]⟩;rw[bB (m:=b+1) ω λk l w=>by show el m a k*(if k<b then y k else if k=b then(-1:Rat)else 0)=0;rw[qG ω,qG ω,sM]];show B8 b (λk=>el m a k*(if k<b then y k else if k=b then -1 else 0))+el m a b*(if b<b then y b else if b=b then -1 else 0)=0;have d:=F (p.getD a 0);rw[(h b ω).2.2 a c]at d;rw[qG (tT b),qK rfl,d,A8 (g:=λk=>y k*A4 (cs.getD k []) (p.getD a 0)) λk l=>by rw[qK l,(h k ω).2.2 a c,wW]];grind
def C2h {P:Wf} {j:Nat} (d:P.Pairwise (· < ·)) (c:∀b∈P,0<=b/\b<(j:Int)):P.length<=j:=by
 have:=B7r (a:=P) (b:=(List.range j).map Int.ofNat) (d.imp λh=>Int.ne_of_lt h) λb hb=>sV.2 ⟨b.toNat,xM.2 (by have:=c b hb;omega),by have:=c b hb;show((b.toNat:Nat):Int)=b;omega⟩
 simpa using this
def C9k (R:Int) (v:List C8):Nat:=if v= []then 0 else(R-Kx v).toNat
def Rl:sq S1 Ij:=λx au O=>by
 obtain⟨⟨(R:Int),(C:Int),D⟩,_⟩:=x;change List (List C8)at D;have a2:Hc (R,C,D):=R4 au.1.2.2.2;obtain⟨s,J,y,aq,av⟩:∃s:Nat,1<=s/\J1 s (R,C,D)/\s<=K1/\(A3 (R,C,D)->8*tB s (C.toNat+R.toNat) R.toNat+8<=K1):=O;simp only[Ij,iB,N6,Gh,aY];refine⟨trivial,?_⟩;rintro⟨V,_⟩ _ t;simp only at t|-;by_cases o:A3 (R,C,D)
 case neg=>
  rw[qX o]at t;subst t;exact⟨λ_=>⟨λ_=>⟨by trivial,by trivial⟩,λh=>absurd h o⟩,λh=>(by cases h)⟩
 rw[rB o]at t;subst t;refine⟨λh=>(by cases h),λ_=>⟨⟨o,λv o e a=>G5 (y v o e a) aq⟩,?_⟩⟩;have bi:=av o;obtain⟨a5,b1,b2,b3,_,_⟩:=id o;simp only at a5 b1 b2 b3;rintro⟨f,_⟩ _ H;change List (List C8)at f;have H:spF (R,C,D) f:=H;simp only;obtain⟨p,O,af,G⟩:=id H;simp only at O af G;have ao:G2 p ((R.toNat:Nat):Int):=by rwa[(ω:((R.toNat:Nat):Int)=R)]
 obtain⟨pl,I,a3⟩:=Q3 ao;have ag:∀j,j<C.toNat->Zr s (f.getD j []):=λj l e a=>by
  obtain⟨F,A,W⟩:=G j ω;obtain⟨B,E,Q⟩:=M9 (n:=R.toNat) (q:=ix p) (λB E=>(I B E).2) a3 (j:=e.1.toNat) (by have:=A e a;omega);have N:=W B E;rw[(I B E).1,Q,show((e.1.toNat:Nat):Int)=e.1 from by have:=A e a;omega,H8 F.1 a]at N;rw[(F.2 e a).2,N];exact Tx (Pf o a2 y J _ _)
 have ap:∀j,j<C.toNat->∀i:Nat,i<R.toNat->qs s (A4 (f.getD j []) (i:Int)):=λj l i hi=>by
  obtain⟨B,E,Q⟩:=M9 (n:=R.toNat) (q:=ix p) (λB E=>(I B E).2) a3 (j:=i) hi;have N:=(G j ω).2.2 B E;rw[(I B E).1,Q]at N;rw[N];exact Pf o a2 y J _ _
 have an:Jr (C.toNat+R.toNat) R.toNat (VD C.toNat λk=>A4 (f.getD k [])) (tB s (C.toNat+R.toNat) R.toNat):=A5w ω λi j hi l=>by
  unfold VD;split
  . rename_i h;exact ap i h j l
  split
  . exact mZ J
  exact M0 J
 have ad:1<=tB s (C.toNat+R.toNat) R.toNat:=g2w 1 _;have ae:s<=tB s (C.toNat+R.toNat) R.toNat+tB s (C.toNat+R.toNat) R.toNat\/R.toNat=0:=by
  rcases vN R.toNat with h|h
  . exact .inr h
  refine .inl (qY ?_ (g2w _ _));unfold tB;have B:=sB s (ω:1<=(C.toNat+R.toNat)*R.toNat+1);have E:=vB (ω:1<=C.toNat+R.toNat) (qT (s*((C.toNat+R.toNat)*R.toNat+1)+1));omega
 generalize tB s (C.toNat+R.toNat) R.toNat=T at*;refine⟨λp=>0<=p.2.1/\p.2.1<=(f.length:Int)/\KT (λk=>A4 (f.getD k [])) R T p.2.1.toNat (λk=>F8 (.int .i64) k p.2.2.1) p.1,λp=>((f.length:Int)-p.2.1).toNat,⟨qH _,qF _,KT.start⟩,?_⟩;rintro⟨(P:Wf),(j:Int),g,_⟩ _ ⟨U,aw,r⟩;change List (Int×List C8)at g;simp only at U aw r|-;refine⟨λl=>?_,λl=>?_⟩
 . have l:=qA l;have a1:j.toNat<C.toNat:=ω
   refine⟨λq=>KT (λk=>A4 (f.getD k [])) R T (j.toNat+1) (λk=>F8 (.int .i64) k q.2.1) q.1,⟨⟨U,l⟩,λv=>dS (λk=>A4 (f.getD k [])) R T j.toNat (λk=>F8 (.int .i64) k g) v.1/\(v.1= []\/F8 (.int .i64) (Kx v.1) g=none),⟨λv=>dS (λk=>A4 (f.getD k [])) R T j.toNat (λk=>F8 (.int .i64) k g) v.1,λv=>C9k R v.1,?_,?_⟩,?_⟩,?_⟩
   . rw[Ir U l];obtain⟨F,A,_⟩:=G j.toNat ω;exact dS.start F A (λe a=>G5 (ag _ a1 e a) (ae.resolve_right λbc=>by have:=A e a;omega)) λi=>rfl
   . rintro⟨(v:List C8),_⟩ _ c;simp only at c|-;refine⟨λd=>?_,λd=>⟨c, .inl ?_⟩⟩
     . have d:=qA d;have z:v≠ []:=λe=>by rw[e]at d;simp at d
       obtain⟨X,a8,b4,b5,b6⟩:=Ml c.can z;have bh:0<=Kx v/\Kx v<R:=c.rng _ X;show(0<=0/\ _)/\((!(F8 (.int .i64) (Kx v) g).isSome)=true-> _)/\((!(F8 (.int .i64) (Kx v) g).isSome)=false-> _);refine⟨⟨qH _,d⟩,λh=>⟨c, .inr ?_⟩,λh=>?_⟩
       . cases u:F8 (.int .i64) (Kx v) g with
         |none=>rfl
         |some w=>rw[u]at h;cases h
       cases u:F8 (.int .i64) (Kx v) g with
       |none=>rw[u]at h;cases h
       |some w=>
        have am:F8 (.int .i64) (gx D7 v 0).1 g=some w:=u;rw[am];simp only[vW];obtain⟨bj,bk,B,a6,bl,a7,W,bm⟩:=r.key _ _ u;obtain⟨a9,aa,ab,b7,b8⟩:=Ml B a6;have be:K1=549755813888:=rfl;have Z:1<=T+T:=ω
        have az:=c.sz _ X;have b0:=W _ a9;have ax:qs (T+T) (rv (gx D7 v 0).2):=by rw[<-a8];exact cqs Z c.can c.sz _
        have ay:qs (T+T) (rv (gx D7 w 0).2):=by rw[<-aa];exact cqs Z B W _
        have a4:=BH ax ay;have aj:v.length<=100000:=by
         have:=Aa (v:=v) (n:=R) ⟨c.can.1,λe a=>⟨(c.rng e a).1,(c.rng e a).2,(c.can.2 e a).1⟩⟩;omega
        have ak:w.length<=100000:=by
         have:=Aa (v:=w) (n:=R) ⟨B.1,λe a=>⟨(a7 e a).1,(a7 e a).2,(B.2 e a).1⟩⟩;omega
        refine(λy=>⟨⟨qH _,d⟩,⟨qH _,by have:=uX.2 a6;omega⟩,y,y⟩) ?_;refine⟨⟨O4 az ω,O4 b0 ω⟩,?_⟩;rintro⟨ba,b,_⟩ _ ⟨_,E⟩;simp only at E|-;obtain⟨E,_⟩:=E ab;rw[E];refine⟨N8 a4 ω,?_⟩;rintro⟨bb,_⟩ _ N;simp only at N|-;rw[H2]at N;rw[N,H2];refine⟨⟨⟨c.can.1,λe a=>G5 (c.sz e a) ω,aj⟩,Tx (G4 (A6n a4) ω),⟨B.1,λe a=>G5 (W e a) ω,ak⟩⟩,?_⟩;rintro⟨(V:List C8),_⟩ _ t;simp only at t|-;obtain⟨ac,ah⟩:=c.step an ad a1 r z u t;refine⟨ac,?_⟩;unfold C9k;rw[qG z];by_cases Q:V= []
        . rw[qK Q];omega
        rw[qG Q];have:=ah Q;omega
     have d:=qB d;exact qR ω
   . rintro⟨(v:List C8),_⟩ _ ⟨c,a0⟩;simp only at c a0|-;refine⟨λd=>?_,λd=>?_⟩
     . have d:=qA d;have z:v≠ []:=λe=>by rw[e]at d;simp at d
       have bf:=C2h r.piv.1 λb M=>⟨((r.piv.2 b).1 M).1,((r.piv.2 b).1 M).2.1⟩
       refine⟨⟨qH _,d⟩,⟨by rw[rC];omega,by rw[rC];omega⟩,?_⟩;have:=r.add c z (a0.resolve_left z) (G':=λk=>F8 (.int .i64) k (Eb (.int .i64) (Kx v) v g)) λi=>Sg (Kx v) i v g
       rw[(ω:((j.toNat:Nat):Int)=j)]at this;exact this
     have d:=qB d;have ar:v= []:=qR ω;subst ar;exact r.skip c
   rintro⟨P2,b9,_⟩ _ Y;simp only at Y|-;rw[wv ω];refine⟨⟨ω,ω,?_⟩,ω⟩;rw[(ω:(j+1).toNat=j.toNat+1)];exact Y
 have l:=qB l;refine⟨λh=>absurd o h,λ_=>⟨⟨r.piv.1,λb=>?_⟩,by trivial⟩⟩;rw[r.piv.2];have ai:(j.toNat:Int)=C:=ω
 rw[ai];exact g3e λbg=>g3e λM=>g5s (C0o H (by show b.toNat<C.toNat;omega) a5).symm
def XQ:An:= {join:= [(18,⟨[1,7,9,11,12],[1],[(10,false,vI)],[],[(0, .rows tQ 28 46)]⟩),(10,⟨[1,7,12],[],[(9,false,[.own qb 3]),(10,false,vI),(11,false,vI)],[],[(0, .rows tQ 28 46)]⟩)],loop:= [(3,⟨[0,1],[],[(7,false,[.ownR tQ 28 46]),(8,false,vI)],[],[]⟩),(12,⟨[1,7,9,10,11,12],[1],[(13,false,vI)],[],[(0, .rows tQ 28 46)]⟩),(23,⟨[1,7,9,10,11,12,14,15],[1,5],[(16,false,vI)],[],[(0, .rows tQ 28 46)]⟩),(19,⟨[1,7,9,10,11,12],[1],[(14,false,vI)],[],[(0, .rows tQ 28 46)]⟩),(9,⟨[1,7],[],[(9,false,[.own qb 3]),(10,false,vI),(11,false,vI),(12,false,vI)],[],[(0, .rows tQ 28 46)]⟩)],plan:= [(16,[7,11],[13,15],false, .done),(21,[3,6,10,13],[16],true, .done),(25,[3,8,11,12,16,19],[23],true, .done)]}
abbrev D0t:=Wf×Int×Int×Int×List (List QQ)×Unit
abbrev D0u:=Wf×Int×Int×List (List QQ)×Unit
def DJ(x:B3b):Prop:=let K:=(140737488355328:Nat);let A:=(1:Int);let s:=(0:Int);∃(I:B3b->Prop),∃(a: _->Nat),I ([],s,())/\∀(p:B3b),let O:=(gx [] x.1 p.2.1);let g:Prop:=(p.2.1<(x.1.length:Int));tQ.sl.sl.wf p.1/\(Ty.int i64).wf p.2.1/\True->I p->(iB (decide g) ((s<=p.2.1/\g)/\(((0:Nat)+O.length)*(56:Nat)<=K/\(0:Nat)+O.length<=9223372036854775807)/\((p.1.length+ [gx [] x.1 p.2.1].length)*(24:Nat)<=K/\p.1.length+ [gx [] x.1 p.2.1].length<=9223372036854775807)/\I (p.1++ [gx [] x.1 p.2.1],i64.wrap (p.2.1+A),())/\a (p.1++ [gx [] x.1 p.2.1],i64.wrap (p.2.1+A),())<a p) (∃(I:D0t->Prop),∃(a: _->Nat),I ([],A,s,s,p.1,())/\∀(R:D0t),let o:=R.2.2.2.1.toNat;let n:=R.2.2.1.toNat;let m:Prop:=(R.2.2.2.1<x.2.1);let k:Prop:=(R.2.2.1<(R.2.2.2.2.1.length:Int));(Ty.int i64).sl.wf R.1/\(Ty.int i64).wf R.2.1/\(Ty.int i64).wf R.2.2.1/\(Ty.int i64).wf R.2.2.2.1/\FJ R.2.2.2.2.1/\True->I R->(iB (F5 (decide m) (decide k) false) (∃(J:D0u->Prop),(∃(I:Kw->Prop),∃(a: _->Nat),I (R.2.2.1,R.2.2.2.2.1,())/\∀(S:Kw),let Q:Prop:=(S.1≠R.2.2.1);let G:=(i64.wrap (S.1+A),S.2.1,());let C:=(List.set S.2.1 S.1.toNat (List.getD S.2.1 n []));let y:=(S.2.1.length:Int);let u:=(List.getD S.2.1 S.1.toNat []);let l:Prop:=(S.1=y);let b:Prop:=(S.1<y);(Ty.int i64).wf S.1/\FJ S.2.1/\True->I S->(decide b=true->s<=S.1/\S.1<y)/\(decide b=true->s<=R.2.2.2.1/\R.2.2.2.1<(↑u.length:Int))/\(decide b=true->H3 (u.getD o dQ))/\∀(r:D3),(decide b=true->(R8 r.1/\True)/\r.1=(rv (u.getD o dQ)).num.sign)->(iB (F5 (decide b) (decide (r.1=s)) false) (I G/\a G<a S) ((iB (decide l) (J (R.1,R.2.1,R.2.2.1,S.2.1,())) (∃(J_1:Kw->Prop),((iB (decide Q) ((s<=R.2.2.1/\R.2.2.1<y)/\(s<=S.1/\b)/\(s<=S.1/\b)/\(Int.toNat S.1=Int.toNat S.1/\Int.toNat S.1≠Int.toNat R.2.2.1)/\(s<=R.2.2.1/\R.2.2.1<(↑C.length:Int))/\Int.toNat R.2.2.1=Int.toNat R.2.2.1/\J_1 (i64.wrap (-R.2.1),C.set n u,())) (J_1 (R.2.1,S.2.1,()))))/\∀(V:Kw),(Ty.int i64).wf V.1/\FJ V.2.1/\True->J_1 V->∃(I:Kw->Prop),∃(a: _->Nat),I (i64.wrap (R.2.2.1+A),V.2.1,())/\∀(U:Kw),let M:=(U.2.1.length:Int);let L:=U.1.toNat;let B:=(List.getD U.2.1 n []);let z:=(List.getD U.2.1 L []);let g:Prop:=(U.1<M);let f:Prop:=(H3 (z.getD o dQ)/\H3 (B.getD o dQ));let d:(D1)->Prop:=(λr=>OZ r.1/\True->(rv (B.getD o dQ)≠(0:Rat)->r.1=rc (rv (z.getD o dQ)/rv (B.getD o dQ)))->∃(I_1:Kw->Prop),∃(μ_1: _->Nat),I_1 (s,U.2.1,())/\∀(p:Kw),let N:=(p.2.1.length:Int);let H:=(i64.wrap (U.1+A),p.2.1,());let F:=(List.getD p.2.1 n []);let D:=p.1.toNat;let q:=(List.getD p.2.1 L []);let h:Prop:=(s<=U.1/\U.1<N);let e:Prop:=(s<=p.1/\p.1<(↑q.length:Int));(Ty.int i64).wf p.1/\FJ p.2.1/\True->I_1 p->(iB (decide (p.1<x.2.1)) (h/\h/\e/\(s<=R.2.2.1/\R.2.2.1<N)/\(s<=p.1/\p.1<(↑F.length:Int))/\(H3 r.1/\H3 (F.getD D dQ))/\N6 λW=>W.1=rc (rv r.1*rv (F.getD D dQ))->(H3 (q.getD D dQ)/\H3 W.1)/\N6 λr=>let v:=(i64.wrap (p.1+A),List.set p.2.1 L (q.set D r.1),());r.1=rc (rv (q.getD D dQ)-rv W.1)->e/\I_1 v/\μ_1 v<μ_1 p) (I H/\a H<a U)));(Ty.int i64).wf U.1/\FJ U.2.1/\True->I U->(iB (decide g) ((s<=U.1/\g)/\(s<=R.2.2.2.1/\R.2.2.2.1<(↑z.length:Int))/\(s<=R.2.2.1/\R.2.2.1<M)/\(s<=R.2.2.2.1/\R.2.2.2.1<(↑B.length:Int))/\(f/\∀(r:D1),d r)/\f/\∀(r:D1),d r) (((R.1.length+ [R.2.2.2.1].length)*(8:Nat)<=K/\R.1.length+ [R.2.2.2.1].length<=9223372036854775807)/\J (R.1++ [R.2.2.2.1],V.1,i64.wrap (R.2.2.1+A),U.2.1,()))))))))/\∀(p:D0u),let w:=(p.1,p.2.1,p.2.2.1,i64.wrap (R.2.2.2.1+A),p.2.2.2.1,());(Ty.int i64).sl.wf p.1/\(Ty.int i64).wf p.2.1/\(Ty.int i64).wf p.2.2.1/\FJ p.2.2.2.1/\True->J p->I w/\a w<a R) (∃(E:Nat->Nat->Rat),∃(t:Nat),∃(c:Nat),∃(P:List Nat),Tz x.1.length x.2.1.toNat E R.2.2.2.2.1/\HU x.1.length x.2.1.toNat (aF x.1) E t c P/\(c=x.2.1.toNat\/t=x.1.length)/\R.1=List.map Int.ofNat P/\(R.2.1=A\/R.2.1=(-1:Int))/\(x.2.1.toNat=x.1.length->det x.2.1.toNat (aF x.1)=(↑R.2.1:Rat)*det x.2.1.toNat E)/\∀(T:Nat),(1:Nat)<=T->Jr x.1.length x.2.1.toNat (aF x.1) T->∀(i j:Nat),i<x.1.length->j<x.2.1.toNat->qs (T+T) (E i j)))))
def Mz (q:Rat):(rv (rc q)).num.sign=0↔q=0:=by
 rw[H2,xR];exact⟨λh=>yM.1 h,λh=>by rw[h];rfl⟩
set_option maxHeartbeats 2000000 in
def OR:sq Fo DJ:=λx _ bl=>by
 obtain⟨B,M,_⟩:=x;change List (List C6)at B;change Int at M;obtain⟨c6,c1,cc,az,T,av,bh,ar⟩:eT M B:=bl;simp only[DJ,iB,N6];have bg:K1=549755813888:=rfl;rw[bg]at bh;generalize c7:aF B=A at*;generalize c8:M.toNat=C at*;generalize c9:B.length=R at*;have bk:∀i,i<R->(B.getD i []).length=C:=λi g=>(az.2 i g).1
 refine⟨λp=>0<=p.2.1/\p.2.1<=(R:Int)/\p.1=B.take p.2.1.toNat,λp=>((R:Int)-p.2.1).toNat,⟨qH _,qF _,rfl⟩,?_⟩;rintro⟨e,i,_⟩ _ ⟨b5,bp,X⟩;change List (List C6)at e;change Int at i;simp only at b5 bp X|-;refine⟨λh=>?_,λh=>?_⟩
 . have h:=qA h;have g:i.toNat<R:=ω
   have V:gx ([]:List C6) B i=B.getD i.toNat []:=rfl;have ax:=bk i.toNat g;have ae:e.length<=R:=by rw[X,rA];omega
   rw[wv ω];refine⟨⟨b5,ω⟩,⟨by rw[V,ax];omega,by rw[V,ax];omega⟩,⟨by simp only[rC];omega,by simp only[rC];omega⟩,⟨ω,ω,?_⟩,ω⟩;rw[X,V,(ω:(i+1).toNat=i.toNat+1),rP,qE,qQ ω];rfl
 have h:=qB h;have ae:e=B:=by rw[X,qU ω]
 subst ae;clear X h;refine⟨λp=>∃E P,0<=p.2.2.1/\p.2.2.1<=(R:Int)/\0<=p.2.2.2.1/\p.2.2.2.1<=(C:Int)/\Tz R C E p.2.2.2.2.1/\HU R C A E p.2.2.1.toNat p.2.2.2.1.toNat P/\Ym R C A E p.2.2.1.toNat (p.2.2.1.toNat+1)/\p.1=P.map Int.ofNat/\(p.2.1=1\/p.2.1= -1)/\LR R C A E p.2.1,λp=>((C:Int)-p.2.2.2.1).toNat,⟨A,[],qH _,qF _,qH _,qF _,az,HU.start A,Ym.start A,rfl, .inl rfl,LR.start⟩,?_⟩;rintro⟨(b6:Wf),(s:Int),(t:Int),(c:Int),e,_⟩ _ ⟨E,P,Q,ak,a0,b7,f,d,l,Y,a6,y⟩;change List (List C6)at e;simp only at Q ak a0 b7 f d l Y a6 y|-;have ae:e.length=R:=f.1;simp only[J5,qC,rR,wS,rM];refine⟨fun⟨a9,aa⟩=>?_,λh=>?_⟩
 case refine_2=>
  refine⟨E,t.toNat,c.toNat,P,f,d,ω,Y,a6,λe=>y ω,λT' an am i G g J=>l.qs d am an (.inl rfl) g J⟩
 have F:t.toNat<R:=ω
 have w:c.toNat<C:=ω
 have z:∀ {i G:Nat},i<R->G<C->qs (T+T) (E i G):=λg J=>l.qs d ar av (.inl rfl) g J
 refine⟨λp=>∃E P,0<=p.2.2.1/\p.2.2.1<=(R:Int)/\Tz R C E p.2.2.2.1/\HU R C A E p.2.2.1.toNat (c.toNat+1) P/\Ym R C A E p.2.2.1.toNat (p.2.2.1.toNat+1)/\p.1=P.map Int.ofNat/\(p.2.1=1\/p.2.1= -1)/\LR R C A E p.2.1,?_,?_⟩
 case refine_2=>
  rintro⟨cd,(c4:Int),(c5:Int),D,_⟩ _ ⟨E',P',H,U,o,am,an,ao,ap,aq⟩;simp only at H U o am an ao ap aq|-;rw[wv ω];exact⟨⟨E',P',H,U,ω,ω,o,by rw[(ω:(c+1).toNat=c.toNat+1)];exact am,an,ao,ap,aq⟩,ω⟩
 refine⟨λp=>t<=p.1/\p.1<=(R:Int)/\p.2.1=e/\∀r:Nat,t.toNat<=r->(r:Int)<p.1->E r c.toNat=0,λp=>((R:Int)-p.1).toNat,⟨qH _,ak,rfl,λr N W=>ω⟩,?_⟩;rintro⟨(k:Int),a8,_⟩ _ ⟨bs,bt,aw,a7⟩;change List (List C6)at a8;simp only at bs bt aw a7|-;subst aw;have a3:k<(R:Int)->(a8.getD k.toNat []).length=C/\(a8.getD k.toNat []).getD c.toNat dQ=rc (E k.toNat c.toNat):=λO=>⟨(f.2 k.toNat ω).1,(f.2 k.toNat ω).2 c.toNat w⟩
 refine⟨λh=>⟨ω,h⟩,λh=>⟨a0,by rw[(a3 ω).1];omega⟩,λh=>by rw[(a3 ω).2];exact N8 (z ω w) ω,?_⟩;rintro⟨(r:Int),_⟩ u;simp only at u|-;have ag:k<(R:Int)->(r=0↔E k.toNat c.toNat=0):=λO=>by
  rw[(u ω).2,(a3 O).2];exact Mz _
 refine⟨fun⟨N,W⟩=>?_,λa2=>⟨λN=>?_,λN=>?_⟩⟩
 . rw[wv ω];have O:k<(R:Int):=ω
   refine⟨⟨ω,ω,trivial,λZ ai bv=>?_⟩,ω⟩;by_cases e:(Z:Int)<k
   . exact a7 Z ai e
   have:Z=k.toNat:=ω
   rw[this];exact(ag O).1 W
 . exact⟨E,P,Q,ak,f,d.skip w λZ ai bv=>a7 Z ai ω,l,Y,a6,y⟩
 have O:k<(R:Int):=ω
 have a4:k.toNat<R:=ω
 have bm:E k.toNat c.toNat≠0:=λn=>by
  rcases a2 with a2|a2
  . omega
  exact a2 ((ag O).2 n)
 refine⟨λp=>(p.1=1\/p.1= -1)/\LR R C A (SG E t.toNat k.toNat) p.1/\Tz R C (SG E t.toNat k.toNat) p.2.1,⟨λq=>?_,λq=>?_⟩,?_⟩
 . have a5:t.toNat≠k.toNat:=λn=>q ω
   refine⟨⟨Q,ω⟩,⟨ω,ω⟩,⟨ω,ω⟩,⟨trivial,Ne.symm a5⟩,⟨Q,by rw[qP];omega⟩,trivial,?_,?_,B2v f F a4⟩
   . rw[wv ω];omega
   rw[wv ω];exact y.swap F a4 a5
 . have:k=t:=by
    refine qM λn=>?_
    exact q n
   rw[this,B9b];exact⟨a6,y,f⟩
 have ad:=d.swap (k:=k.toNat) ω a4;have ab:=l.swap (k:=k.toNat) ω a4;have af:SG E t.toNat k.toNat t.toNat c.toNat≠0:=by unfold SG;rw[qK rfl];exact bm
 generalize SG E t.toNat k.toNat=E2 at ad ab af|-;clear ag a3 z a7 l d y f;rintro⟨(aj:Int),b9,_⟩ _ ⟨b3,ac,ah⟩;change List (List C6)at b9;simp only at b3 ac ah|-;rw[wv (a:=t+1) ω];refine⟨λp=>t<p.1/\p.1<=(R:Int)/\∃E,Tz R C E p.2.1/\oF R C A E t.toNat c.toNat P p.1.toNat/\Ym R C A E t.toNat p.1.toNat/\LR R C A E aj,λp=>((R:Int)-p.1).toNat,⟨ω,ω,E2,ah,by rw[(ω:(t+1).toNat=t.toNat+1)];exact ad.begin F w af,by rw[(ω:(t+1).toNat=t.toNat+1)];exact ab,ac⟩,?_⟩;clear ad ab af ac ah;rintro⟨(b:Int),a1,_⟩ _ ⟨bw,bx,E,f,d,l,y⟩;change List (List C6)at a1;simp only at bw bx f d l y|-;have ca:=f.1;refine⟨λq=>?_,λq=>?_⟩
 case refine_2=>
  have v:b.toNat=R:=ω
  have am:b6.length=t.toNat:=by rw[Y,sO,d.len]
  rw[v]at d l;refine⟨⟨by simp only[rC];omega,by simp only[rC];omega⟩,E,P++ [c.toNat],ω,ω,f,?_,?_,?_,b3,y⟩
  . rw[(ω:(t+1).toNat=t.toNat+1)];exact d.finish
  . rw[(ω:(t+1).toNat=t.toNat+1)];exact l.finish
  rw[uZ,Y];congr 1;show [c]= [Int.ofNat c.toNat];rw[show Int.ofNat c.toNat=c from by show((c.toNat:Nat):Int)=c;omega]
 have v:b.toNat<R:=ω
 have z:∀ {i G:Nat},i<R->G<C->qs (T+T) (E i G):=λg J=>l.qs d.1 ar av (.inr ⟨d.tlt,d.clt,d.pv,d.done⟩) g J
 obtain⟨bz,c0⟩:=f.2 b.toNat v;obtain⟨c2,c3⟩:=f.2 t.toNat F;have V:(a1.getD b.toNat []).getD c.toNat dQ=rc (E b.toNat c.toNat):=c0 c.toNat w;have b8:(a1.getD t.toNat []).getD c.toNat dQ=rc (E t.toNat c.toNat):=c3 c.toNat w;have bu:∀r:C6×Unit,(rv (rc (E t.toNat c.toNat))≠(0:Rat)->r.1=rc (rv (rc (E b.toNat c.toNat))/rv (rc (E t.toNat c.toNat))))->r.1=rc (E b.toNat c.toNat/E t.toNat c.toNat):=λr u=>by
  rw[H2,H2]at u;exact u d.pv
 have b1:qs (4*T) (E b.toNat c.toNat/E t.toNat c.toNat):=G4 (BH (z v w) (z F w)) ω;generalize bj:E b.toNat c.toNat/E t.toNat c.toNat=j at*;have b4:H3 (rc (E b.toNat c.toNat))/\H3 (rc (E t.toNat c.toNat)):=⟨N8 (z v w) ω,N8 (z F w) ω⟩;have a5:t.toNat≠b.toNat:=ω
 have bo:∀D,Tz R C (sbP E t.toNat b.toNat j C) D->Tz R C (jK E t.toNat b.toNat j) D:=λD h=>bP h λi G _ J=>by
  unfold sbP jK;by_cases g:i=b.toNat
  . rw[qK ⟨g,J⟩,qK g]
  rw[qG (λn=>g n.1),qG g]
 have bi:∀D,Tz R C (jK E t.toNat b.toNat j) D->t<b+1/\b+1<=(R:Int)/\∃E,Tz R C E D/\oF R C A E t.toNat c.toNat P (b+1).toNat/\Ym R C A E t.toNat (b+1).toNat/\LR R C A E aj:=λD h=>by
  rw[(ω:(b+1).toNat=b.toNat+1)];refine⟨ω,ω,_,h,?_,l.step j ω v,y.step j ω v⟩;rw[<-bj];exact d.step ω v
 rw[V,b8,wv (a:=b+1) ω];have bq:∀r:C6×Unit,r.1=rc j->∀p:Int×List (List C6)×Unit,(0<=p.1/\p.1<=(C:Int)/\Tz R C (sbP E t.toNat b.toNat j p.1.toNat) p.2.1)->p.1<M->(0<=b/\b<(p.2.1.length:Int))/\(0<=p.1/\p.1<((p.2.1.getD b.toNat []).length:Int))/\(0<=t/\t<(p.2.1.length:Int))/\(0<=p.1/\p.1<((p.2.1.getD t.toNat []).length:Int))/\(p.2.1.getD b.toNat []).getD p.1.toNat dQ=rc (E b.toNat p.1.toNat)/\(p.2.1.getD t.toNat []).getD p.1.toNat dQ=rc (E t.toNat p.1.toNat):=λr u p ⟨H,U,o⟩ b0=>by
  have hdC:p.1.toNat<C:=ω
  have aq:=o.1;obtain⟨am,an⟩:=o.2 b.toNat v;obtain⟨ao,ap⟩:=o.2 t.toNat F;refine⟨⟨ω,ω⟩,⟨H,by rw[am];omega⟩,⟨Q,ω⟩,⟨H,by rw[ao];omega⟩,?_,?_⟩
  . have:=an _ hdC;rw[show sbP E t.toNat b.toNat j p.1.toNat b.toNat p.1.toNat=E b.toNat p.1.toNat from by unfold sbP;rw[qG (λn=>tT _ n.2)]]at this;exact this
  have:=ap _ hdC;rw[show sbP E t.toNat b.toNat j p.1.toNat t.toNat p.1.toNat=E t.toNat p.1.toNat from by unfold sbP;rw[qG (λn=>a5 n.1)]]at this;exact this
 have start:Tz R C (sbP E t.toNat b.toNat j 0) a1:=bP f λi G _ _=>by unfold sbP;rw[qG (λn=>tX _ n.2)]
 have one:∀r:C6×Unit,(rv (rc (E t.toNat c.toNat))≠(0:Rat)->r.1=rc (rv (rc (E b.toNat c.toNat))/rv (rc (E t.toNat c.toNat))))->r.1=rc j:=bu;refine⟨⟨ω,ω⟩,⟨a0,by rw[bz];omega⟩,⟨Q,ω⟩,⟨a0,by rw[c2];omega⟩,⟨b4,?_⟩,b4,?_⟩;all_goals
  intro r _ u;have u:=one r u;refine⟨λp=>0<=p.1/\p.1<=(C:Int)/\Tz R C (sbP E t.toNat b.toNat j p.1.toNat) p.2.1,λp=>((C:Int)-p.1).toNat,⟨qH _,qF _,start⟩,?_⟩;rintro⟨(I:Int),ba,_⟩ _ au;change List (List C6)at ba;have ay:=bq r u _ au;obtain⟨H,U,o⟩:=au;simp only at H U o ay|-;refine⟨λq=>?_,λq=>?_⟩
  . have b0:I<M:=by first|exact qA q|exact q
    obtain⟨N,W,bb,bc,be,bf⟩:=ay b0;have hdC:I.toNat<C:=ω
    have bn:=z v hdC;have b2:=z F hdC;rw[bf,u];refine⟨N,N,W,bb,bc,⟨N8 b1 ω,N8 b2 ω⟩,?_⟩;intro ce _ a9;rw[H2,H2]at a9;rw[be,a9];refine⟨⟨N8 bn ω,N8 (Kv b1 b2) ω⟩,?_⟩;intro cf _ aa;rw[H2,H2]at aa;rw[aa,wv ω];refine⟨W,⟨ω,ω,?_⟩,ω⟩;rw[(ω:(I+1).toNat=I.toNat+1)];exact B9d o v hdC
  have cb:¬I<M:=by first|exact qB q|exact q
  have:I.toNat=C:=ω
  rw[this]at o;exact⟨bi _ (bo _ o),ω⟩
def IF:An:= {plan:= [(3,[0,3],[],true, .done)]}
def pA:An:= {}
def Ol(x:T4):Prop:=let b:=(0:Int);let a:=(1:Int);J1 K1 x.1/\Gh λr=>r.1=decide (A3 x.1)->(iB ((!r.1)) ((¬A3 x.1->Ow Int= []/\a=a)/\(A3 x.1->QT x.1 []/\a=b)) ((J1 K1 x.1/\A3 x.1)/\rT7 λr=>r.1=Ot x.1->eT x.1.2.1 r.1/\∀(c:List (List QQ)×Wf×Int×Unit),FJ c.1/\WX c.2.1/\R8 c.2.2.1/\True->C8l x.1.2.1.toNat r.1 c.1 c.2.1 c.2.2.1->(¬A3 x.1->c.2.1= []/\b=a)/\(A3 x.1->QT x.1 c.2.1/\b=b)))
def UH(x:T4):Prop:=(J1 K1 x.1/\(A3 x.1->∃(T:Nat),(1:Nat)<=T/\(8:Nat)*T+(8:Nat)<=K1/\Jr x.1.1.toNat x.1.2.1.toNat (el x.1) T))/\∀(r:VO),WX r.1/\R8 r.2.1/\True->(¬A3 x.1->r.1= []/\r.2.1=1)/\(A3 x.1->QT x.1 r.1/\r.2.1=0)->∃(l:Wf),QT x.1 l/\(r.1.length:Int)=(↑l.length:Int)
def C5s {m:J6} {i j:Nat} (a:i<m.1.toNat) (b:j<m.2.1.toNat):((Ot m).getD i []).getD j zr=rc (el m i j)/\((Ot m).getD i []).length=m.2.1.toNat:=by
 have e:(Ot m).getD i []=dl m.2.1 (A4 (m.2.2.getD i [])):=by
  unfold Ot;rw[qE,vH,wN a];rfl
 rw[e];exact⟨lF zr ω,QB _ _⟩
def B1a (m:J6):(Ot m).length=m.1.toNat:=by unfold Ot;rw[sO,g0f]
def D1y {m:J6} {i:Nat} (a:i<m.1.toNat):((Ot m).getD i []).length=m.2.1.toNat:=by
 have e:(Ot m).getD i []=dl m.2.1 (A4 (m.2.2.getD i [])):=by
  unfold Ot;rw[qE,vH,wN a];rfl
 rw[e];exact QB _ _
def A4z {m:J6} {i j:Nat} (a:i<m.1.toNat) (b:j<m.2.1.toNat):aF (Ot m) i j=el m i j:=by
 unfold aF;rw[(C5s a b).1,H2]
def C5t {m:J6} (g:A3 m) {T:Nat} (f:1<=T) (d:8*T+8<=K1) (c:Jr m.1.toNat m.2.1.toNat (el m) T):eT m.2.1 (Ot m):=by
 obtain⟨l,n,h,k,_⟩:=id g;refine⟨h,k,by rw[B1a];omega,⟨rfl,λi a=>?_⟩,T,f,d,by rw[B1a];exact B1s c λi j a b=>(A4z a b).symm⟩;rw[B1a]at a;exact⟨D1y a,λj b=>by rw[A4z a b];exact(C5s a b).1⟩
def B1k {R C:Nat} {A A':Nat->Nat->Rat} (a:∀i j,i<R->j<C->A i j=A' i j) (x:Nat->Rat):ker R C A x↔ker R C A' x:=by
 unfold ker;refine forall_congr' λi=>forall_congr' λb=>?_
 rw[A8 λj c=>by rw[a i j b c]]
def B5g {m:J6} {E:Nat->Nat->Rat} {t c:Nat} {P:List Nat} (h:HU m.1.toNat m.2.1.toNat (aF (Ot m)) E t c P) (f:c=m.2.1.toNat\/t=m.1.toNat) (r:0<=m.2.1):QT m (P.map Int.ofNat):=by
 have d:∀b,LQ m.1.toNat m.2.1.toNat (aF (Ot m)) b↔LQ m.1.toNat m.2.1.toNat (el m) b:=λb=>by
  unfold LQ;exact exists_congr λx=>by rw[B1k λi s l n=>A4z l n]
 refine⟨wK.2 (h.asc.imp λj=>sG.2 j),λb=>?_⟩;constructor
 . intro k;obtain⟨p,g,rfl⟩:=sV.1 k;have:=h.lt p g;have:=h.cle;refine⟨qF _,?_,?_⟩
   . show((p:Nat):Int)< _;omega
   rw[<-d];exact(h.pivots f p).1 g
 rintro⟨o,_,a⟩;rw[<-d]at a;exact sV.2 ⟨b.toNat,(h.pivots f _).2 a,by show((b.toNat:Nat):Int)=b;omega⟩
def Zo:sq Y6 Ol:=λx _ n=>by
 obtain⟨(m:J6),_⟩:=x;obtain⟨k,i⟩:=n;simp only[Ol,iB,Gh,rT7];refine⟨k,?_⟩;rintro⟨(r:Bool),_⟩ _ f;simp only at f i|-;by_cases a:A3 m
 case neg=>
  rw[f,qX a];exact⟨λ_=>⟨λ_=>⟨by trivial,by trivial⟩,λh=>absurd h a⟩,λh=>(by cases h)⟩
 rw[f,rB a];refine⟨λh=>(by cases h),λ_=>⟨⟨k,a⟩,?_⟩⟩;rintro⟨v,_⟩ _ j;simp only at j|-;subst j;obtain⟨T,o,t,u⟩:=i a;refine⟨C5t a o t u,?_⟩;rintro⟨e,p,s,_⟩ _ ⟨E,w,c,P,l,b,d,g,_⟩;simp only at l b d g|-;refine⟨λh=>absurd a h,λ_=>⟨?_,by trivial⟩⟩;rw[B1a]at b d;rw[g];exact B5g b d a.2.2.1
def dK:sq Ns UH:=λx _ b=>by
 obtain⟨(m:J6),_⟩:=x;obtain⟨c,d,a⟩:=b;simp only[UH];refine⟨⟨c,λ_=>a⟩,?_⟩;rintro⟨l,e,_⟩ _ ⟨_,h⟩;exact⟨l,(h d).1,rfl⟩
def dY:An:= {loop:= [(7,⟨[0,2,3,9,10,11,15,16],[0,1],[(6,false,[.own tQ 46]),(17,false,vI)],[],[]⟩),(3,⟨[0,2,9,10],[0],[(3,false,[.own qj 28]),(11,false,vI)],[],[]⟩)]}
def XC:An:= {plan:= [(4,[0],[],true, .done),(5,[3],[],true, .done)]}
def KW:An:= {loop:= [(4,⟨[0,1],[],[(5,false,vI)],[],[]⟩)],plan:= [(6,[3,7],[],true, .done)]}
abbrev C7t:=List QQ×Int×Unit
def HN(x:List Wf×Unit):Prop:=let n:=(140737488355328:Nat);let h:=(↑(x.1.getD (0:Nat) []).length:Int);let c:=(x.1.length:Int);let b:=(0:Int);let a:=(↑(gx [] x.1 b).length:Int);∃(I:B3b->Prop),∃(j: _->Nat),I ([],b,())/\∀(p:B3b),let m:=(gx [] x.1 p.2.1);let d:=(↑m.length:Int);tQ.sl.sl.wf p.1/\(Ty.int i64).wf p.2.1/\True->I p->(iB (decide (p.2.1<c)) ((b<=p.2.1/\p.2.1<c)/\∃(I_1:C7t->Prop),∃(k: _->Nat),I_1 ([],b,())/\∀(o:C7t),let g:=(p.1++ [o.1],i64.wrap (p.2.1+1),());tQ.sl.wf o.1/\(Ty.int i64).wf o.2.1/\True->I_1 o->(iB (decide (o.2.1<d)) ((b<=o.2.1/\o.2.1<d)/\True/\N6 λr=>let f:=(o.1++ [r.1],i64.wrap (o.2.1+1),());r.1=ri (gx b m o.2.1)->((o.1.length+ [r.1].length)*(56:Nat)<=n/\o.1.length+ [r.1].length<=9223372036854775807)/\I_1 f/\k f<k o) (((p.1.length+ [o.1].length)*(24:Nat)<=n/\p.1.length+ [o.1].length<=9223372036854775807)/\I g/\j g<j p))) ((b<=b/\b<c)/\((∀(l:List QQ),l∈p.1->nK K1 l/\(↑l.length:Int)=a)/\b<=a/\a<=(16384:Int)/\p.1.length<=(16384:Nat))/\rT8 λr=>Lq p.1.length a.toNat (fun(i j:Nat)=>rv ((p.1.getD i []).getD j zr)) r.1->r.1.1=(↑x.1.length:Int)/\r.1.2.1=h/\List.length r.1.2.2=x.1.length/\∀(i:Nat),let k:=(List.getD r.1.2.2 i []);i<x.1.length->R3 k/\(∀(e:C8),e∈List.getD r.1.2.2 i []->b<=e.1/\e.1<h)/\∀(j:Nat),j<(x.1.getD (0:Nat) []).length->A4 k (↑j:Int)=(↑((x.1.getD i []).getD j b):Rat)))
def CJ(x:Unit):Prop:=let E:Prop:=(True/\True);let C:=(10:Nat);let B:=(8:Nat);let A:=(0:Nat);let w:=(1:Nat);let t:=(4:Int);let m:=(1:Int);let k:=(3:Int);let h:=(2:Int);let g:=(0:Int);let a:Prop:=([[g,h],[k,g]]≠ []/\ [[g,h],[k,g]].length<=C/\∀(l:Wf),l∈ [[g,h],[k,g]]->l.length=([[g,h],[k,g]].getD A []).length/\l.length<=C/\∀(v:Int),v∈l->v.natAbs<(4294967296:Nat));a/\rT8 λr=>let z:=r.1.1.toNat;Lq [[g,h],[k,g]].length ([[g,h],[k,g]].getD A []).length (fun(i j:Nat)=>(↑(([[g,h],[k,g]].getD i []).getD j g):Rat)) r.1->(J1 K1 r.1/\(A3 r.1->r.1.1=r.1.2.1->∃(T:Nat),w<=T/\Jr z z (el r.1) T/\(T+T)*(Int.toNat r.1.1+4)+B<=K1))/\∀(I:QQ×Int×Unit),let y:Prop:=(I.2.1=g);let c:Prop:=(decide y=true->True);OZ I.1/\R8 I.2.1/\True->(¬A3 r.1->I.1=dQ/\I.2.1=m)/\(A3 r.1->(r.1.1≠r.1.2.1->I.1=dQ/\I.2.1=t)/\(r.1.1=r.1.2.1->I.1=rc (det z (el r.1))/\I.2.1=g))->([[g,m,h,k],[g,h,t,m]]≠ []/\ [[g,m,h,k],[g,h,t,m]].length<=C/\∀(l:Wf),l∈ [[g,m,h,k],[g,h,t,m]]->l.length=([[g,m,h,k],[g,h,t,m]].getD A []).length/\l.length<=C/\∀(v:Int),v∈l->v.natAbs<(4294967296:Nat))/\rT8 λJ=>Lq [[g,m,h,k],[g,h,t,m]].length ([[g,m,h,k],[g,h,t,m]].getD A []).length (fun(i j:Nat)=>(↑(([[g,m,h,k],[g,h,t,m]].getD i []).getD j g):Rat)) J.1->(∃(s:Nat),w<=s/\J1 s J.1/\s<=K1/\(A3 J.1->B*tB s (Int.toNat J.1.2.1+Int.toNat J.1.1) J.1.1.toNat+B<=K1))/\∀(K:VO),let u:=(decide (K.2.1=g));WX K.1/\R8 K.2.1/\True->(¬A3 J.1->K.1= []/\K.2.1=m)/\(A3 J.1->QT J.1 K.1/\K.2.1=g)->a/\rT8 λG=>let n:=G.1.1.toNat;Lq [[g,h],[k,g]].length ([[g,h],[k,g]].getD A []).length (fun(i j:Nat)=>(↑(([[g,h],[k,g]].getD i []).getD j g):Rat)) G.1->(J1 K1 G.1/\(A3 G.1->G.1.1=G.1.2.1->∃(T:Nat),w<=T/\B*T+B<=K1/\Jr n n (el G.1) T))/\∀(F:B9i),let p:=F.1.1.length;let D:=(↑p:Int);(WX F.1.1/\WX F.1.2.1/\WfM F.1.2.2.1/\R8 F.1.2.2.2.1/\R8 F.1.2.2.2.2.1/\Ye F.1.2.2.2.2.2)/\R8 F.2.1/\True->(¬A3 G.1->F.1=WS/\F.2.1=m)/\(A3 G.1->(G.1.1≠G.1.2.1->F.1=WS/\F.2.1=t)/\(G.1.1=G.1.2.1->(¬nonsing n (el G.1)->F.1=WS/\F.2.1=6)/\(nonsing n (el G.1)->O3 F.1 G.1.1/\F.2.1=g/\(∀(v:List EE),v∈F.1.2.2.1.2.2->R3 v)/\(∀(v:List EE),v∈F.1.2.2.2.2.2->R3 v)/\(∀(T:Nat),w<=T->Jr n n (el G.1) T->∀(i j:Nat),i<Int.toNat G.1.1->qs (T+T) (el F.1.2.2.1 i j)/\qs (T+T) (el F.1.2.2.2 i j))/\∀(i j:Nat),i<Int.toNat G.1.1->j<Int.toNat G.1.1->GB F.1 n i j=el G.1 (ix F.1.1 i) (ix F.1.2.1 j))))->True/\N6 λL=>L.1=ri t->True/\N6 λM=>M.1=ri (9:Int)->(List.length F.1.1<=16384/\J1 K1 F.1.2.2.1/\J1 K1 F.1.2.2.2/\(O3 F.1 D-> [L.1,M.1].length=List.length F.1.1->∃(s:Nat),∃(T:Nat),∃(Y:Nat),w<=s/\w<=T/\T<=Y/\J1 s F.1.2.2.1/\J1 s F.1.2.2.2/\nK T [L.1,M.1]/\B2p Y F.1 [L.1,M.1]/\Y+List.length F.1.1*(s+Y+w)+s<=K1))/\∀(H:C7t),let o:=(decide (H.2.1=g));let d:Prop:=(∀(e:QQ),e∈H.1->e=rc (rv e));WfL H.1/\R8 H.2.1/\True->(¬O3 F.1 D->H.1= []/\H.2.1=m)/\(O3 F.1 D->([L.1,M.1].length≠List.length F.1.1->H.1= []/\H.2.1=t)/\([L.1,M.1].length=List.length F.1.1->H.2.1=g/\H.1.length=List.length F.1.1/\d/\∀(i:Nat),i<List.length F.1.1->(B8 p fun(j:Nat)=>GB F.1 p i j*rv (H.1.getD (ix F.1.2.1 j) zr))=rv ([L.1,M.1].getD (ix F.1.1 i) zr)))->c/\∀(P:D1),(decide y=true->(OZ P.1/\True)/\P.1=ri (-6:Int))->c/\∀(Q:K2),let q:=(F5 (decide y) Q.1 false);(decide y=true->E/\Q.1=decide (I.1=P.1))->(F5 q u false=true->True)/\∀(r:K2),let f:=(F5 (F5 (F5 q u false) r.1 false) (decide (F.2.1=g)) false);let b:Prop:=(F5 f o false=true->True);(F5 q u false=true->E/\r.1=decide (K.1= [m,k]))->b/\∀(N:D1),(F5 f o false=true->(OZ N.1/\True)/\N.1=ri k)->b/\∀(O:D1),(F5 f o false=true->(OZ O.1/\True)/\O.1=ri h)->(F5 f o false=true->(∀(e:QQ),e∈H.1->H3 e)/\∀(e:QQ),e∈ [N.1,O.1]->H3 e)/\∀(R:K2),(F5 f o false=true->E/\R.1=decide (H.1= [N.1,O.1]/\d))->F5 (F5 f o false) R.1 false=true
def Pw(x:Gt):Prop:=let f:Prop:=(x.1=x.2.1);let e:=(0:Int);let b:=(x.2.1.length:Int);let a:=(x.1.length:Int);(iB (decide (a≠b)) (false=decide f) (∃(I:D3->Prop),∃(g: _->Nat),I (e,())/\∀(p:D3),let d:=(i64.wrap (p.1+1),());let c:Prop:=(gx e x.1 p.1≠gx e x.2.1 p.1);(Ty.int i64).wf p.1/\True->I p->(iB (decide (p.1<a)) ((e<=p.1/\p.1<a)/\(e<=p.1/\p.1<b)/\(iB (decide c) (false=decide f) (I d/\g d<g p))) (true=decide f))))
end Go.Proofs.YtcbjamefalhfgaaGreat
