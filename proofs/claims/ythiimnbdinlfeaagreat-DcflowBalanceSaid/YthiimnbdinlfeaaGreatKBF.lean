/- Part. -/
import Derived.Test.YthiimnbdinlfeaaGreatRows
import Derived.Test.YthiimnbdinlfeaaGreatKBE
set_option linter.all false
namespace Go.Proofs.YthiimnbdinlfeaaGreat
open Go.Proofs.Tryz
open Go.Vc Go.Gw
open Go.IntKind (i64 u64 u32)
abbrev D2 (a:Int):Prop:=i64.min<=a/\a<=i64.max
abbrev Gy (a:Int):Prop:=u64.min<=a/\a<=u64.max
abbrev I5 (l:List Int):Prop:=List.length l<=(9223372036854775807:Nat)/\∀(x:Int),x∈l->u32.min<=x/\x<=u32.max
abbrev OI (l:List Int):Prop:=List.length l<=(9223372036854775807:Nat)/\∀(x:Int),x∈l->i64.min<=x/\x<=i64.max
abbrev H4 (z:Bool×List Int):Prop:=True/\I5 z.2
abbrev L6 (q:(Bool×List Int)×List Int):Prop:=H4 q.1/\I5 q.2
abbrev WfE (e:Int×(Bool×List Int)×List Int):Prop:=D2 e.1/\H4 e.2.1/\I5 e.2.2
abbrev Re (l:List (Int×(Bool×List Int)×List Int)):Prop:=List.length l<=(9223372036854775807:Nat)/\∀(x:Int×(Bool×List Int)×List Int),x∈l->WfE x
abbrev QQ:=(Bool×List Int)×List Int
abbrev EE:=Int×(Bool×List Int)×List Int
abbrev dQ:QQ:=((false,[]),[])
abbrev F1:EE:=((0:Int),(false,[]),[])
abbrev MM:=Int×Int×List (List EE)
abbrev LI (l:List QQ):Prop:=List.length l<=9223372036854775807/\∀(x:QQ),x∈l->L6 x
abbrev IM (l:List (List EE)):Prop:=List.length l<=9223372036854775807/\∀(x:List EE),x∈l->x.length<=9223372036854775807/\∀(y:EE),y∈x->WfE y
abbrev WfM (m:MM):Prop:=D2 m.1/\D2 m.2.1/\IM m.2.2
abbrev tQ:Ty:=(.pair (.pair .bool (.sl (.int .u32))) (.sl (.int .u32)))
abbrev tE:Ty:=(.pair (.int .i64) tQ)
abbrev tM:Ty:=(.pair (.int .i64) (.pair (.int .i64) (.sl (.sl tE))))
def tys:List (Nat×TI):= [(2,{ty:=(.int .i64),agg:=false}),
 (3,{ty:=(.int .i64),agg:=false}),
 (4,{ty:= .bool,agg:=false}),
 (5,{ty:=(.int .u8),agg:=false}),
 (9,{ty:= .str,agg:=false}),
 (22,{ty:=(.sl (.int .i64)),agg:=false,elem:=3,bytes:=8}),
 (23,{ty:=(.sl (.pair (.int .i64) (.pair (.int .i64) (.pair tQ tQ)))),agg:=false,elem:=40,bytes:=128}),
 (25,{ty:=(.pair (.int .i64) (.sl (.pair (.int .i64) (.pair (.int .i64) (.pair tQ tQ))))),agg:=true,fields:= [(0,1,false),(1,1,false)]}),
 (29,{ty:=(.sl tQ),agg:=false,elem:=38,bytes:=56}),
 (34,{ty:=(.sl (.int .u32)),agg:=false,elem:=70,bytes:=4}),
 (36,{ty:=(.pair .bool (.sl (.int .u32))),agg:=true,fields:= [(0,1,false),(1,1,false)]}),
 (38,{ty:=tQ,agg:=true,fields:= [(0,2,true),(2,1,false)]}),
 (40,{ty:=(.pair (.int .i64) (.pair (.int .i64) (.pair tQ tQ))),agg:=true,fields:= [(0,1,false),(1,1,false),(2,3,true),(5,3,true)]}),
 (49,{ty:=(.sl (.pair (.int .i64) (.int .i64))),agg:=false,elem:=66,bytes:=16}),
 (58,{ty:=(.int .u64),agg:=false}),
 (60,{ty:=(.pair (.sl (.int .i64)) (.int .i64)),agg:=true,fields:= [(0,1,false),(1,1,false)]}),
 (66,{ty:=(.pair (.int .i64) (.int .i64)),agg:=true,elem:=3,arr:=2}),
 (70,{ty:=(.int .u32),agg:=false}),
 (95,{ty:=(.sl (.sl tE)),agg:=false,elem:=118,bytes:=24}),
 (97,{ty:=tM,agg:=true,fields:= [(0,1,false),(1,1,false),(2,1,false)]}),
 (102,{ty:=(.pair (.sl (.int .i64)) (.pair (.sl (.int .i64)) (.pair tM tM))),agg:=true,fields:= [(0,1,false),(1,1,false),(2,3,true),(5,3,true)]}),
 (112,{ty:=(.int .u64),agg:=false}),
 (114,{ty:=(.sl (.int .i64)),agg:=false,elem:=3,bytes:=8}),
 (118,{ty:=(.sl tE),agg:=false,elem:=120,bytes:=64}),
 (120,{ty:=tE,agg:=true,fields:= [(0,1,false),(1,3,true)]}),
 (126,{ty:=(.mp false (.int .i64) false (.sl (.int .i64))),agg:=false,elem:=22,key:=3}),
 (130,{ty:=(.ptr (.pair (.sl (.sl tE)) (.pair (.sl (.sl tE)) (.pair (.sl (.mp false (.int .i64) false .bool)) (.sl (.int .i64)))))),agg:=false}),
 (135,{ty:=(.sl (.mp false (.int .i64) false .bool)),agg:=false,elem:=159,bytes:=8}),
 (137,{ty:=(.pair (.sl (.sl tE)) (.pair (.sl (.sl tE)) (.pair (.sl (.mp false (.int .i64) false .bool)) (.sl (.int .i64))))),agg:=true,fields:= [(0,1,false),(1,1,false),(2,1,false),(3,1,false)]}),
 (148,{ty:=(.pair (.int .u64) (.pair (.int .u64) (.pair (.int .u64) (.pair (.int .u64) .bool)))),agg:=true,fields:= [(0,1,false),(1,1,false),(2,1,false),(3,1,false),(4,1,false)]}),
 (159,{ty:=(.mp false (.int .i64) false .bool),agg:=false,elem:=4,key:=3}),
 (181,{ty:=(.sl .bool),agg:=false,elem:=4,bytes:=1})]
def A4:G5 prog tys=true:=by kernel_rfl
def B2a:List (Nat×TI):= [(2,{ty:=(.int .i64),agg:=false}),
 (3,{ty:=(.int .i64),agg:=false}),
 (4,{ty:= .bool,agg:=false}),
 (5,{ty:=(.int .u8),agg:=false}),
 (9,{ty:= .str,agg:=false}),
 (22,{ty:=(.sl (.int .i64)),agg:=false,elem:=3,bytes:=8}),
 (23,{ty:=(.sl (.pair (.int .i64) (.pair (.int .i64) (.pair tQ tQ)))),agg:=false,elem:=40,bytes:=128}),
 (25,{ty:=(.pair (.int .i64) (.sl (.pair (.int .i64) (.pair (.int .i64) (.pair tQ tQ))))),agg:=true,fields:= [(0,1,false),(1,1,false)]}),
 (29,{ty:=(.sl tQ),agg:=false,elem:=38,bytes:=56}),
 (34,{ty:=(.sl (.int .u32)),agg:=false,elem:=70,bytes:=4}),
 (36,{ty:=(.pair .bool (.sl (.int .u32))),agg:=true,fields:= [(0,1,false),(1,1,false)]}),
 (38,{ty:=tQ,agg:=true,fields:= [(0,2,true),(2,1,false)]}),
 (40,{ty:=(.pair (.int .i64) (.pair (.int .i64) (.pair tQ tQ))),agg:=true,fields:= [(0,1,false),(1,1,false),(2,3,true),(5,3,true)]}),
 (49,{ty:=(.sl (.pair (.int .i64) (.int .i64))),agg:=false,elem:=66,bytes:=16}),
 (58,{ty:=(.int .u64),agg:=false}),
 (60,{ty:=(.pair (.sl (.int .i64)) (.int .i64)),agg:=true,fields:= [(0,1,false),(1,1,false)]}),
 (66,{ty:=(.pair (.int .i64) (.int .i64)),agg:=true,elem:=3,arr:=2}),
 (70,{ty:=(.int .u32),agg:=false}),
 (95,{ty:=(.sl (.sl tE)),agg:=false,elem:=118,bytes:=24,rows:=true}),
 (97,{ty:=tM,agg:=true,fields:= [(0,1,false),(1,1,false),(2,1,false)]}),
 (102,{ty:=(.pair (.sl (.int .i64)) (.pair (.sl (.int .i64)) (.pair tM tM))),agg:=true,fields:= [(0,1,false),(1,1,false),(2,3,true),(5,3,true)]}),
 (112,{ty:=(.int .u64),agg:=false}),
 (114,{ty:=(.sl (.int .i64)),agg:=false,elem:=3,bytes:=8}),
 (118,{ty:=(.sl tE),agg:=false,elem:=120,bytes:=64}),
 (120,{ty:=tE,agg:=true,fields:= [(0,1,false),(1,3,true)]}),
 (126,{ty:=(.mp false (.int .i64) false (.sl (.int .i64))),agg:=false,elem:=22,key:=3,rows:=true}),
 (130,{ty:=(.ptr (.pair (.sl (.sl tE)) (.pair (.sl (.sl tE)) (.pair (.sl (.mp false (.int .i64) false .bool)) (.sl (.int .i64)))))),agg:=false}),
 (135,{ty:=(.sl (.mp false (.int .i64) false .bool)),agg:=false,elem:=159,bytes:=8}),
 (137,{ty:=(.pair (.sl (.sl tE)) (.pair (.sl (.sl tE)) (.pair (.sl (.mp false (.int .i64) false .bool)) (.sl (.int .i64))))),agg:=true,fields:= [(0,1,false),(1,1,false),(2,1,false),(3,1,false)]}),
 (148,{ty:=(.pair (.int .u64) (.pair (.int .u64) (.pair (.int .u64) (.pair (.int .u64) .bool)))),agg:=true,fields:= [(0,1,false),(1,1,false),(2,1,false),(3,1,false),(4,1,false)]}),
 (159,{ty:=(.mp false (.int .i64) false .bool),agg:=false,elem:=4,key:=3}),
 (181,{ty:=(.sl .bool),agg:=false,elem:=4,bytes:=1})]
def bQ:G5 prog B2a=true:=by kernel_rfl
def OD:List (Nat×TI):= [(2,{ty:=(.int .i64),agg:=false}),
 (3,{ty:=(.int .i64),agg:=false}),
 (4,{ty:= .bool,agg:=false}),
 (5,{ty:=(.int .u8),agg:=false}),
 (9,{ty:= .str,agg:=false}),
 (22,{ty:=(.sl (.int .i64)),agg:=false,elem:=3,bytes:=8}),
 (23,{ty:=(.sl (.pair (.int .i64) (.pair (.int .i64) (.pair tQ tQ)))),agg:=false,elem:=40,bytes:=128}),
 (25,{ty:=(.pair (.int .i64) (.sl (.pair (.int .i64) (.pair (.int .i64) (.pair tQ tQ))))),agg:=true,fields:= [(0,1,false),(1,1,false)]}),
 (29,{ty:=(.sl tQ),agg:=false,elem:=38,bytes:=56}),
 (34,{ty:=(.sl (.int .u32)),agg:=false,elem:=70,bytes:=4}),
 (36,{ty:=(.pair .bool (.sl (.int .u32))),agg:=true,fields:= [(0,1,false),(1,1,false)]}),
 (38,{ty:=tQ,agg:=true,fields:= [(0,2,true),(2,1,false)]}),
 (40,{ty:=(.pair (.int .i64) (.pair (.int .i64) (.pair tQ tQ))),agg:=true,fields:= [(0,1,false),(1,1,false),(2,3,true),(5,3,true)]}),
 (49,{ty:=(.sl (.pair (.int .i64) (.int .i64))),agg:=false,elem:=66,bytes:=16}),
 (58,{ty:=(.int .u64),agg:=false}),
 (60,{ty:=(.pair (.sl (.int .i64)) (.int .i64)),agg:=true,fields:= [(0,1,false),(1,1,false)]}),
 (66,{ty:=(.pair (.int .i64) (.int .i64)),agg:=true,elem:=3,arr:=2}),
 (70,{ty:=(.int .u32),agg:=false}),
 (95,{ty:=(.sl (.sl tE)),agg:=false,elem:=118,bytes:=24,nest:= [14]}),
 (97,{ty:=tM,agg:=true,fields:= [(0,1,false),(1,1,false),(2,1,false)]}),
 (102,{ty:=(.pair (.sl (.int .i64)) (.pair (.sl (.int .i64)) (.pair tM tM))),agg:=true,fields:= [(0,1,false),(1,1,false),(2,3,true),(5,3,true)]}),
 (112,{ty:=(.int .u64),agg:=false}),
 (114,{ty:=(.sl (.int .i64)),agg:=false,elem:=3,bytes:=8}),
 (118,{ty:=(.sl tE),agg:=false,elem:=120,bytes:=64}),
 (120,{ty:=tE,agg:=true,fields:= [(0,1,false),(1,3,true)]}),
 (126,{ty:=(.mp false (.int .i64) false (.sl (.int .i64))),agg:=false,elem:=22,key:=3}),
 (130,{ty:=(.ptr (.pair (.sl (.sl tE)) (.pair (.sl (.sl tE)) (.pair (.sl (.mp false (.int .i64) false .bool)) (.sl (.int .i64)))))),agg:=false}),
 (135,{ty:=(.sl (.mp false (.int .i64) false .bool)),agg:=false,elem:=159,bytes:=8,nest:= [17]}),
 (137,{ty:=(.pair (.sl (.sl tE)) (.pair (.sl (.sl tE)) (.pair (.sl (.mp false (.int .i64) false .bool)) (.sl (.int .i64))))),agg:=true,fields:= [(0,1,false),(1,1,false),(2,1,false),(3,1,false)]}),
 (148,{ty:=(.pair (.int .u64) (.pair (.int .u64) (.pair (.int .u64) (.pair (.int .u64) .bool)))),agg:=true,fields:= [(0,1,false),(1,1,false),(2,1,false),(3,1,false),(4,1,false)]}),
 (159,{ty:=(.mp false (.int .i64) false .bool),agg:=false,elem:=4,key:=3,nest:= [44,66]}),
 (181,{ty:=(.sl .bool),agg:=false,elem:=4,bytes:=1})]
def AF:G5 prog OD=true:=by kernel_rfl
abbrev Ah (a:List AM) (r:List RT) (p:A2 a->Prop) (q:A2 a->Ar r->Prop):A6:= {args:=a,res:=r,shared:=true,pre:=p,post:=q}
abbrev mkM (a:List AM) (r:List RT) (p:A2 a->Prop) (q:A2 a->Ar r->Prop) (m:A2 a->Ar r->Mf a->Prop):A6:= {args:=a,res:=r,shared:=true,pre:=p,post:=q,mpost:=m}
def Qj:A6:=Ah [.val true tQ, .val true tQ] [.val true tQ] (fun(x:QQ×QQ×Unit)=>F3 x.1/\F3 x.2.1) (fun(x:QQ×QQ×Unit) (r:QQ×Unit)=>r.1=rc (rv x.1+rv x.2.1))
def Ll:A6:= {args:= [.val true tQ],res:= [.val false (.int .i64)],shared:=false,pre:=fun(x:QQ×Unit)=>F3 x.1,post:=fun(x:QQ×Unit) (r:Int×Unit)=>r.1=(rv x.1).num.sign}
def Lp:A6:=Ah [] [.val true tQ] (fun(x:Unit)=>True) (fun(x:Unit) (r:QQ×Unit)=>r.1=rc 0)
def Li:A6:=Ah [.val true (.pair .bool (.sl (.int .u32))), .val true (.pair .bool (.sl (.int .u32)))] [.val true tQ] (fun(x:(Bool×(List Int))×(Bool×(List Int))×Unit)=>Ae x.1.2/\Ae x.2.1.2) (fun(x:(Bool×(List Int))×(Bool×(List Int))×Unit) (r:QQ×Unit)=>r.1=rc (Ic x.1 x.2.1))
def Qh:A6:=Ah [.val true (.pair .bool (.sl (.int .u32)))] [.val true (.pair .bool (.sl (.int .u32)))] (fun(x:(Bool×(List Int))×Unit)=>Gu x.1.2) (fun(x:(Bool×(List Int))×Unit) (r:(Bool×(List Int))×Unit)=>r.1=ic (-iv x.1))
def Lj:A6:=Ah [.val true tQ] [.val true tQ] (fun(x:QQ×Unit)=>F3 x.1) (fun(x:QQ×Unit) (r:QQ×Unit)=>r.1=rc (rv x.1))
def Qk:A6:=Ah [.val true tQ] [.val true (.pair .bool (.sl (.int .u32)))] (fun(x:QQ×Unit)=>F3 x.1) (fun(x:QQ×Unit) (r:(Bool×(List Int))×Unit)=>r.1=ic ((rv x.1).den:Int))
def Cm:A6:=Ah [.val true tQ, .val true tQ] [.val true tQ] (fun(x:QQ×QQ×Unit)=>F3 x.1/\F3 x.2.1) (fun(x:QQ×QQ×Unit) (r:QQ×Unit)=>r.1=rc (rv x.1+rv x.2.1))
def Co:A6:=Ah [.val true tQ, .val true tQ] [.val true tQ] (fun(x:QQ×QQ×Unit)=>F3 x.1/\F3 x.2.1) (fun(x:QQ×QQ×Unit) (r:QQ×Unit)=>r.1=rc (rv x.1-rv x.2.1))
def Y9:A6:=Ah [.val true tQ, .val true tQ] [.val true tQ] (fun(x:QQ×QQ×Unit)=>F3 x.1/\F3 x.2.1) (fun(x:QQ×QQ×Unit) (r:QQ×Unit)=>r.1=rc (rv x.1*rv x.2.1))
def Az:A6:= {args:= [.val true tQ],res:= [.val false .bool],shared:=false,pre:=fun(x:QQ×Unit)=>F3 x.1,post:=fun(x:QQ×Unit) (r:Bool×Unit)=>r.1=decide (x.1=rc (rv x.1))}
def Il:A6:= {args:= [.val true tQ, .val true tQ],res:= [.val false .bool],shared:=false,pre:=fun(x:QQ×QQ×Unit)=>True,post:=fun(x:QQ×QQ×Unit) (r:Bool×Unit)=>r.1=decide (x.1=x.2.1)}
def Qe:A6:=Ah [.val true (.pair .bool (.sl (.int .u32))), .val true (.pair .bool (.sl (.int .u32)))] [.val true (.pair .bool (.sl (.int .u32)))] (fun(x:(Bool×(List Int))×(Bool×(List Int))×Unit)=>E6 x.1.2/\E6 x.2.1.2) (fun(x:(Bool×(List Int))×(Bool×(List Int))×Unit) (r:(Bool×(List Int))×Unit)=>r.1=ic (iv x.1+iv x.2.1))
def Qg:A6:=Ah [.val true (.pair .bool (.sl (.int .u32))), .val true (.pair .bool (.sl (.int .u32)))] [.val true (.pair .bool (.sl (.int .u32)))] (fun(x:(Bool×(List Int))×(Bool×(List Int))×Unit)=>E6 x.1.2/\E6 x.2.1.2) (fun(x:(Bool×(List Int))×(Bool×(List Int))×Unit) (r:(Bool×(List Int))×Unit)=>r.1=ic (iv x.1*iv x.2.1))
def Lh:A6:= {args:= [.val true (.pair .bool (.sl (.int .u32)))],res:= [.val false (.int .i64)],shared:=false,pre:=fun(x:(Bool×(List Int))×Unit)=>Gu x.1.2,post:=fun(x:(Bool×(List Int))×Unit) (r:Int×Unit)=>r.1=(iv x.1).sign}
def Xi:A6:=Ah [.val false (.int .i64), .val false (.int .i64)] [.val true tQ] (fun(x:Int×Int×Unit)=>True) (fun(x:Int×Int×Unit) (r:QQ×Unit)=>r.1=rc (Rat.divInt x.1 x.2.1))
def M7:A6:=Ah [.val false (.int .i64)] [.val true tQ] (fun(x:Int×Unit)=>True) (fun(x:Int×Unit) (r:QQ×Unit)=>r.1=ri x.1)
def Ee:A6:=Ah [.val false (.int .i64)] [.val true tQ] (fun(x:Int×Unit)=>True) (fun(x:Int×Unit) (r:QQ×Unit)=>r.1=ri x.1)
def Lg:A6:=Ah [.val true (.pair .bool (.sl (.int .u32)))] [.val true (.pair .bool (.sl (.int .u32)))] (fun(x:(Bool×(List Int))×Unit)=>Gu x.1.2) (fun(x:(Bool×(List Int))×Unit) (r:(Bool×(List Int))×Unit)=>r.1=ic (iv x.1))
def Ij:A6:= {args:= [.val false (.sl (.int .u32)), .val false (.sl (.int .u32))],res:= [.val false .bool],shared:=false,pre:=fun(x:(List Int)×(List Int)×Unit)=>True,post:=fun(x:(List Int)×(List Int)×Unit) (r:Bool×Unit)=>r.1=decide (x.1=x.2.1)}
def Qf:A6:=Ah [.val true (.pair .bool (.sl (.int .u32))), .val true (.pair .bool (.sl (.int .u32)))] [.val true (.pair .bool (.sl (.int .u32)))] (fun(x:(Bool×(List Int))×(Bool×(List Int))×Unit)=>Ae x.1.2/\Ae x.2.1.2) (fun(x:(Bool×(List Int))×(Bool×(List Int))×Unit) (r:(Bool×(List Int))×Unit)=>r.1=ic (Nat.gcd (nv x.1.2) (nv x.2.1.2):Int))
def Ga:A6:=Ah [.val true (.pair .bool (.sl (.int .u32))), .val true (.pair .bool (.sl (.int .u32)))] [.val true (.pair .bool (.sl (.int .u32))), .val true (.pair .bool (.sl (.int .u32))), .val false .bool] (fun(x:(Bool×(List Int))×(Bool×(List Int))×Unit)=>Ae x.1.2/\Ae x.2.1.2) (fun(x:(Bool×(List Int))×(Bool×(List Int))×Unit) (r:(Bool×(List Int))×(Bool×(List Int))×Bool×Unit)=>iv x.2.1≠0->r.1=ic (iv x.1/iv x.2.1)/\r.2.1=ic (iv x.1%iv x.2.1)/\r.2.2.1=true)
def Lf:A6:=Ah [.val false .bool, .val false (.sl (.int .u32))] [.val true (.pair .bool (.sl (.int .u32)))] (fun(x:Bool×(List Int)×Unit)=>Gu x.2.1) (fun(x:Bool×(List Int)×Unit) (r:(Bool×(List Int))×Unit)=>r.1=ic (iv (x.1,x.2.1)))
def Ba:A6:= {args:= [.val true tQ],res:= [.val false (.int .i64)],shared:=false,pre:=fun(x:QQ×Unit)=>True,post:=fun(x:QQ×Unit) (r:Int×Unit)=>r.1=(rv x.1).num.sign}
def U2:A6:=Ah [.val true tQ] [.val true tQ] (fun(x:QQ×Unit)=>F3 x.1) (fun(x:QQ×Unit) (r:QQ×Unit)=>r.1=rc (rv x.1))
def Z7:A6:= {args:= [.val true tQ],res:= [.val false (.int .i64), .val false (.int .i64), .val false .bool],shared:=false,pre:=fun(x:QQ×Unit)=>True,post:=fun(x:QQ×Unit) (r:Int×Int×Bool×Unit)=>(H7 x.1->r.1=Pf x.1/\r.2.1=Me x.1/\r.2.2.1=true)/\(¬H7 x.1->r.2.2.1=false)}
def P9:A6:=Ah [.val false (.int .i64), .val false (.int .i64)] [.val true tQ] (fun(x:Int×Int×Unit)=>0<x.2.1) (fun(x:Int×Int×Unit) (r:QQ×Unit)=>r.1=rc (mkRat x.1 x.2.1.toNat))
def Z6:A6:=Ah [.val true tQ] [.val true (.pair .bool (.sl (.int .u32))), .val false (.sl (.int .u32))] (fun(x:QQ×Unit)=>True) (fun(x:QQ×Unit) (r:(Bool×(List Int))×(List Int)×Unit)=>(nv x.1.2=0->r.1=zi/\r.2.1= [1])/\(nv x.1.2≠0->r.1=x.1.1/\r.2.1=x.1.2))
def V6:A6:= {args:= [.val false (.sl (.int .u32)), .val false (.sl (.int .u32))],res:= [.val false (.int .i64)],shared:=false,pre:=fun(x:(List Int)×(List Int)×Unit)=>True,post:=fun(x:(List Int)×(List Int)×Unit) (r:Int×Unit)=>r.1=Bw (nv x.1) (nv x.2.1)}
def V9:A6:=Ah [.val true (.pair .bool (.sl (.int .u32))), .val false (.sl (.int .u32))] [.val true tQ] (fun(x:(Bool×(List Int))×(List Int)×Unit)=>nv x.2.1≠0/\Ae x.1.2/\Ae x.2.1) (fun(x:(Bool×(List Int))×(List Int)×Unit) (r:QQ×Unit)=>r.1=rc (mkRat (iv x.1) (nv x.2.1)))
def Dt:A6:=Ah [.val true (.pair .bool (.sl (.int .u32))), .val true (.pair .bool (.sl (.int .u32)))] [.val true (.pair .bool (.sl (.int .u32)))] (fun(x:(Bool×(List Int))×(Bool×(List Int))×Unit)=>E6 x.1.2/\E6 x.2.1.2) (fun(x:(Bool×(List Int))×(Bool×(List Int))×Unit) (r:(Bool×(List Int))×Unit)=>r.1=ic (iv x.1+iv x.2.1))
def Du:A6:=Ah [.val true (.pair .bool (.sl (.int .u32))), .val true (.pair .bool (.sl (.int .u32)))] [.val true (.pair .bool (.sl (.int .u32)))] (fun(x:(Bool×(List Int))×(Bool×(List Int))×Unit)=>E6 x.1.2/\E6 x.2.1.2) (fun(x:(Bool×(List Int))×(Bool×(List Int))×Unit) (r:(Bool×(List Int))×Unit)=>r.1=ic (iv x.1*iv x.2.1))
def Dz:A6:=Ah [.val false (.sl (.int .u32)), .val false (.sl (.int .u32))] [.val false (.sl (.int .u32))] (fun(x:(List Int)×(List Int)×Unit)=>E6 x.1/\E6 x.2.1) (fun(x:(List Int)×(List Int)×Unit) (r:(List Int)×Unit)=>r.1=nc (nv x.1*nv x.2.1))
def Ik:A6:= {args:= [.val true (.pair .bool (.sl (.int .u32))), .val true (.pair .bool (.sl (.int .u32)))],res:= [.val false .bool],shared:=false,pre:=fun(x:(Bool×(List Int))×(Bool×(List Int))×Unit)=>True,post:=fun(x:(Bool×(List Int))×(Bool×(List Int))×Unit) (r:Bool×Unit)=>r.1=decide (x.1=x.2.1)}
def Py:A6:=Ah [.val false (.sl (.int .u32)), .val false (.sl (.int .u32))] [.val false (.sl (.int .u32))] (fun(x:(List Int)×(List Int)×Unit)=>E6 x.1/\E6 x.2.1) (fun(x:(List Int)×(List Int)×Unit) (r:(List Int)×Unit)=>r.1=nc (nv x.1+nv x.2.1))
def Qb:A6:=Ah [.val false (.sl (.int .u32)), .val false (.sl (.int .u32))] [.val false (.sl (.int .u32)), .val false .bool] (fun(x:(List Int)×(List Int)×Unit)=>E6 x.1/\E6 x.2.1) (fun(x:(List Int)×(List Int)×Unit) (r:(List Int)×Bool×Unit)=>(nv x.1<nv x.2.1->r.1= []/\r.2.1=false)/\(nv x.2.1<=nv x.1->r.1=nc (nv x.1-nv x.2.1)/\r.2.1=true))
def Qa:A6:=Ah [.val false (.sl (.int .u32)), .val false (.sl (.int .u32))] [.val false (.sl (.int .u32))] (fun(x:(List Int)×(List Int)×Unit)=>E6 x.1/\E6 x.2.1) (fun(x:(List Int)×(List Int)×Unit) (r:(List Int)×Unit)=>r.1=nc (nv x.1*nv x.2.1))
def Ed:A6:=Ah [.val false (.int .i64)] [.val true (.pair .bool (.sl (.int .u32)))] (fun(x:Int×Unit)=>True) (fun(x:Int×Unit) (r:(Bool×(List Int))×Unit)=>r.1=ic x.1)
def V5:A6:=Ah [.val false (.int .i64)] [.val true (.pair .bool (.sl (.int .u32)))] (fun(x:Int×Unit)=>True) (fun(x:Int×Unit) (r:(Bool×(List Int))×Unit)=>r.1=ic x.1)
def Pz:A6:=Ah [.val false (.sl (.int .u32)), .val false (.sl (.int .u32))] [.val false (.sl (.int .u32))] (fun(x:(List Int)×(List Int)×Unit)=>Ae x.1/\Ae x.2.1) (fun(x:(List Int)×(List Int)×Unit) (r:(List Int)×Unit)=>r.1=nc (Nat.gcd (nv x.1) (nv x.2.1)))
def Fy:A6:=Ah [.val false (.sl (.int .u32)), .val false (.sl (.int .u32))] [.val false (.sl (.int .u32)), .val false (.sl (.int .u32)), .val false .bool] (fun(x:(List Int)×(List Int)×Unit)=>Ae x.1/\Ae x.2.1) (fun(x:(List Int)×(List Int)×Unit) (r:(List Int)×(List Int)×Bool×Unit)=>(nv x.2.1=0->r.2.2.1=false)/\(nv x.2.1≠0->r.1=nc (nv x.1/nv x.2.1)/\r.2.1=nc (nv x.1%nv x.2.1)/\r.2.2.1=true))
def Qd:A6:=Ah [.val true (.pair .bool (.sl (.int .u32)))] [.val true (.pair .bool (.sl (.int .u32)))] (fun(x:(Bool×(List Int))×Unit)=>Gu x.1.2) (fun(x:(Bool×(List Int))×Unit) (r:(Bool×(List Int))×Unit)=>r.1=ic ((iv x.1).natAbs:Int))
def Qi:A6:=Ah [.val true (.pair .bool (.sl (.int .u32))), .val true (.pair .bool (.sl (.int .u32)))] [.val true (.pair .bool (.sl (.int .u32)))] (fun(x:(Bool×(List Int))×(Bool×(List Int))×Unit)=>E6 x.1.2/\E6 x.2.1.2) (fun(x:(Bool×(List Int))×(Bool×(List Int))×Unit) (r:(Bool×(List Int))×Unit)=>r.1=ic (iv x.1-iv x.2.1))
def Le:A6:=Ah [.val false (.sl (.int .u32))] [.val false (.sl (.int .u32))] (fun(x:(List Int)×Unit)=>Gu x.1) (fun(x:(List Int)×Unit) (r:(List Int)×Unit)=>r.1=nc (nv x.1))
def Ci:A6:= {args:= [.val true (.pair .bool (.sl (.int .u32)))],res:= [.val false (.int .i64)],shared:=false,pre:=fun(x:(Bool×(List Int))×Unit)=>True,post:=fun(x:(Bool×(List Int))×Unit) (r:Int×Unit)=>r.1=(iv x.1).sign}
def Y5:A6:= {args:= [.val false (.sl (.int .u32))],res:= [.val false (.int .u64), .val false .bool],shared:=false,pre:=fun(x:(List Int)×Unit)=>True,post:=fun(x:(List Int)×Unit) (r:Int×Bool×Unit)=>(nv x.1<18446744073709551616->r.1=(nv x.1:Int)/\r.2.1=true)/\(18446744073709551616<=nv x.1->r.2.1=false)}
def O0:A6:=Ah [.val false (.int .u64)] [.val false (.sl (.int .u32))] (fun(x:Int×Unit)=>True) (fun(x:Int×Unit) (r:(List Int)×Unit)=>r.1=nc x.1.toNat)
def Bh:A6:=Ah [.val false (.sl (.int .u32))] [.val false (.sl (.int .u32))] (fun(x:(List Int)×Unit)=>True) (fun(x:(List Int)×Unit) (r:(List Int)×Unit)=>r.1=nc (nv x.1))
def Ch:A6:=Ah [.val true (.pair .bool (.sl (.int .u32)))] [.val true (.pair .bool (.sl (.int .u32)))] (fun(x:(Bool×(List Int))×Unit)=>Gu x.1.2) (fun(x:(Bool×(List Int))×Unit) (r:(Bool×(List Int))×Unit)=>r.1=ic (iv x.1))
def Ck:A6:=Ah [.val false (.sl (.int .u32))] [.val false (.sl (.int .u32))] (fun(x:(List Int)×Unit)=>Gu x.1) (fun(x:(List Int)×Unit) (r:(List Int)×Unit)=>r.1=nc (nv x.1))
def Dy:A6:=Ah [.val false (.sl (.int .u32)), .val false (.sl (.int .u32))] [.val false (.sl (.int .u32))] (fun(x:(List Int)×(List Int)×Unit)=>Ae x.1/\Ae x.2.1) (fun(x:(List Int)×(List Int)×Unit) (r:(List Int)×Unit)=>r.1=nc (Nat.gcd (nv x.1) (nv x.2.1)))
def Y4:A6:=Ah [.val false (.sl (.int .u32)), .val false (.sl (.int .u32))] [.val false (.sl (.int .u32)), .val false (.sl (.int .u32)), .val false .bool] (fun(x:(List Int)×(List Int)×Unit)=>E6 x.1) (fun(x:(List Int)×(List Int)×Unit) (r:(List Int)×(List Int)×Bool×Unit)=>(nv x.2.1=0->r.1= []/\r.2.1= []/\r.2.2.1=false)/\(nv x.2.1≠0->r.1=nc (nv x.1/nv x.2.1)/\r.2.1=nc (nv x.1%nv x.2.1)/\r.2.2.1=true))
def X7:A6:=Ah [.val false .bool, .val false (.sl (.int .u32))] [.val true (.pair .bool (.sl (.int .u32)))] (fun(x:Bool×(List Int)×Unit)=>True) (fun(x:Bool×(List Int)×Unit) (r:(Bool×(List Int))×Unit)=>r.1=(x.1&&decide (x.2.1≠ []),x.2.1))
def Dx:A6:=Ah [.val false (.sl (.int .u32)), .val false (.sl (.int .u32))] [.val false (.sl (.int .u32))] (fun(x:(List Int)×(List Int)×Unit)=>E6 x.1/\E6 x.2.1) (fun(x:(List Int)×(List Int)×Unit) (r:(List Int)×Unit)=>r.1=nc (nv x.1+nv x.2.1))
def Ea:A6:=Ah [.val false (.sl (.int .u32)), .val false (.sl (.int .u32))] [.val false (.sl (.int .u32)), .val false .bool] (fun(x:(List Int)×(List Int)×Unit)=>E6 x.1/\E6 x.2.1) (fun(x:(List Int)×(List Int)×Unit) (r:(List Int)×Bool×Unit)=>(nv x.1<nv x.2.1->r.1= []/\r.2.1=false)/\(nv x.2.1<=nv x.1->r.1=nc (nv x.1-nv x.2.1)/\r.2.1=true))
def Eb:A6:= {args:= [.val false (.sl (.int .u32)), .val false (.sl (.int .u32))],res:= [.val false (.int .i64)],shared:=false,pre:=fun(x:(List Int)×(List Int)×Unit)=>E6 x.1/\E6 x.2.1,post:=fun(x:(List Int)×(List Int)×Unit) (r:Int×Unit)=>r.1=Bw (nv x.1) (nv x.2.1)}
def Y7:A6:=Ah [.val false (.int .u64)] [.val false (.sl (.int .u32))] (fun(x:Int×Unit)=>True) (fun(x:Int×Unit) (r:(List Int)×Unit)=>r.1=nc x.1.toNat)
def Z4:A6:=Ah [.val true tQ] [.val true tQ] (fun(x:QQ×Unit)=>F3 x.1) (fun(x:QQ×Unit) (r:QQ×Unit)=>r.1=rc (-(rv x.1)))
def U9:A6:= {args:= [.val false (.int .i64), .val false (.int .i64)],res:= [.val false (.int .i64)],shared:=false,pre:=fun(x:Int×Int×Unit)=>True,post:=fun(x:Int×Int×Unit) (r:Int×Unit)=>r.1=J0 x.1 x.2.1}
def Cn:A6:=Ah [.val true tQ, .val true tQ] [.val true tQ, .val false .bool] (fun(x:QQ×QQ×Unit)=>F3 x.1/\F3 x.2.1) (fun(x:QQ×QQ×Unit) (r:QQ×Bool×Unit)=>(rv x.2.1=0->r.2.1=false)/\(rv x.2.1≠0->r.1=rc (rv x.1/rv x.2.1)/\r.2.1=true))
def Fz:A6:= {args:= [.val false (.sl (.int .u32))],res:= [.val false (.int .u64), .val false .bool],shared:=false,pre:=fun(x:(List Int)×Unit)=>Gu x.1,post:=fun(x:(List Int)×Unit) (r:Int×Bool×Unit)=>(nv x.1<18446744073709551616->r.1=(nv x.1:Int)/\r.2.1=true)/\(18446744073709551616<=nv x.1->r.2.1=false)}
def Ld:A6:= {args:= [.val false (.sl (.int .u32))],res:= [.val false (.int .i64)],shared:=false,pre:=fun(x:(List Int)×Unit)=>E6 x.1,post:=fun(x:(List Int)×Unit) (r:Int×Unit)=>r.1=(I7 (nv x.1):Int)}
def Qc:A6:= {args:= [.val false (.sl (.int .u32)), .val false (.int .i64)],res:= [.val false (.int .u32)],shared:=false,pre:=fun(x:(List Int)×Int×Unit)=>0<=x.2.1,post:=fun(x:(List Int)×Int×Unit) (r:Int×Unit)=>r.1=((nv x.1/2^x.2.1.toNat%2:Nat):Int)}
def Cl:A6:= {args:= [.val false (.sl (.int .u32))],res:= [.val false (.int .u64)],shared:=false,pre:=fun(x:(List Int)×Unit)=>x.1.length<=2,post:=fun(x:(List Int)×Unit) (r:Int×Unit)=>r.1=(nv x.1:Int)}
def V8:A6:= {args:= [.val false (.sl (.int .u32)), .val false (.sl (.int .u32))],res:= [.val true (.pair (.int .u64) (.pair (.int .u64) (.pair (.int .u64) (.pair (.int .u64) .bool))))],shared:=false,pre:=fun(x:(List Int)×(List Int)×Unit)=>E6 x.1/\3<=x.1.length/\Lq x.1/\nv x.2.1<=nv x.1/\x.2.1.length<=x.1.length,post:=fun(x:(List Int)×(List Int)×Unit) (r:(Int×(Int×(Int×(Int×Bool))))×Unit)=>B0y (nv x.1) (nv x.2.1) r.1.1 r.1.2.1 r.1.2.2.1 r.1.2.2.2.1 r.1.2.2.2.2}
def V7:A6:=Ah [.val false (.sl (.int .u32)), .val false (.int .u64), .val false (.sl (.int .u32)), .val false (.int .u64)] [.val false (.sl (.int .u32))] (fun(x:(List Int)×Int×(List Int)×Int×Unit)=>Ae x.1/\Ae x.2.2.1/\nv x.2.2.1*x.2.2.2.1.toNat<=nv x.1*x.2.1.toNat) (fun(x:(List Int)×Int×(List Int)×Int×Unit) (r:(List Int)×Unit)=>r.1=nc (nv x.1*x.2.1.toNat-nv x.2.2.1*x.2.2.2.1.toNat))
def K9:A6:=Ah [.val false (.sl (.int .u32)), .val false (.int .u32)] [.val false (.sl (.int .u32)), .val false (.sl (.int .u32))] (fun(x:(List Int)×Int×Unit)=>E6 x.1/\x.2.1≠0) (fun(x:(List Int)×Int×Unit) (r:(List Int)×(List Int)×Unit)=>r.1=nc (nv x.1/x.2.1.toNat)/\r.2.1=nc (nv x.1%x.2.1.toNat))
def O1:A6:=Ah [.val false (.sl (.int .u32)), .val false (.sl (.int .u32))] [.val false (.sl (.int .u32)), .val false (.sl (.int .u32))] (fun(x:(List Int)×(List Int)×Unit)=>E6 x.1/\2<=x.2.1.length/\x.2.1.length<=x.1.length/\Lq x.2.1) (fun(x:(List Int)×(List Int)×Unit) (r:(List Int)×(List Int)×Unit)=>r.1=nc (nv x.1/nv x.2.1)/\r.2.1=nc (nv x.1%nv x.2.1))
def Dv:A6:=Ah [.val true (.pair .bool (.sl (.int .u32)))] [.val true (.pair .bool (.sl (.int .u32)))] (fun(x:(Bool×(List Int))×Unit)=>Gu x.1.2) (fun(x:(Bool×(List Int))×Unit) (r:(Bool×(List Int))×Unit)=>r.1=ic (-iv x.1))
def Au:A6:= {args:= [.val false (.int .i64)],res:= [.val false .bool],shared:=false,pre:=fun(x:Int×Unit)=>True,post:=fun(x:Int×Unit) (r:Bool×Unit)=>r.1=false}
def Y8:A6:=Ah [.val true tQ] [.val true tQ, .val false .bool] (fun(x:QQ×Unit)=>F3 x.1) (fun(x:QQ×Unit) (r:QQ×Bool×Unit)=>(rv x.1=0->r.2.1=false)/\(rv x.1≠0->r.1=rc (rv x.1)⁻¹/\r.2.1=true))
def I4:A6:= {args:= [.val false (.int .u32)],res:= [.val false (.int .i64)],shared:=false,pre:=fun(x:Int×Unit)=>True,post:=fun(x:Int×Unit) (r:Int×Unit)=>r.1=32-(I7 x.1.toNat:Int)}
def Y6:A6:= {args:= [.val false (.sl (.int .u32)), .val false (.int .i64), .val false (.int .i64)],res:= [.val false (.int .u64)],shared:=false,pre:=fun(x:(List Int)×Int×Int×Unit)=>3<=x.2.1/\(x.1.length:Int)<=x.2.1/\x.2.1<=17592186044416/\0<=x.2.2.1/\x.2.2.1<=31/\nv x.1*2^x.2.2.1.toNat<4294967296^x.2.1.toNat,post:=fun(x:(List Int)×Int×Int×Unit) (r:Int×Unit)=>r.1=((nv x.1*2^x.2.2.1.toNat/4294967296^(x.2.1.toNat-2):Nat):Int)}
def O5:A6:= {args:= [.val false (.sl (.int .u32)), .val false (.int .i64)],res:= [.own (.int .u32) 70],shared:=false,pre:=fun(x:(List Int)×Int×Unit)=>E6 x.1/\0<=x.2.1/\x.2.1<=31,post:=fun(x:(List Int)×Int×Unit) (r:(List Int)×Unit)=>r.1.length=x.1.length+1/\nv r.1=nv x.1*2^x.2.1.toNat}
def J8:A6:=Ah [.val false (.sl (.int .u32)), .val false (.int .i64)] [.val false (.sl (.int .u32)), .val false .bool] (fun(x:(List Int)×Int×Unit)=>E6 x.1) (fun(x:(List Int)×Int×Unit) (r:(List Int)×Bool×Unit)=>(x.2.1<0->r.1= []/\r.2.1=false)/\(0<=x.2.1->r.1=nc (nv x.1/2^x.2.1.toNat)/\r.2.1=true))
def Fw:A6:= {args:= [.val false (.int .u32)],res:= [.val false (.int .i64)],shared:=false,pre:=fun(x:Int×Unit)=>True,post:=fun(x:Int×Unit) (r:Int×Unit)=>r.1=(I7 x.1.toNat:Int)}
def S9:A6:= {args:= [.val true tQ, .val true tQ],res:= [.val false (.int .i64)],shared:=false,pre:=fun(x:QQ×QQ×Unit)=>F3 x.1/\F3 x.2.1,post:=fun(x:QQ×QQ×Unit) (r:Int×Unit)=>r.1=QC (rv x.1) (rv x.2.1)}
def S8:A6:= {args:= [.val false (.int .i64), .val false (.ptr (.sl (.int .u32)))],res:= [.val false (.int .u64)],shared:=false,pre:=fun(x:Int×(List Int)×Unit)=>0<=x.1,post:=fun(x:Int×(List Int)×Unit) (r:Int×Unit)=>r.1=(if x.1<(x.2.1.length:Int)then x.2.1.getD x.1.toNat 0 else 0)}
def P6:A6:= {args:= [.val false (.int .i64), .val false (.int .i64)],res:= [.val false (.int .i64)],shared:=false,pre:=fun(x:Int×Int×Unit)=>True,post:=fun(x:Int×Int×Unit) (r:Int×Unit)=>r.1=J0 x.1 x.2.1}
def V4:A6:= {args:= [.val true (.pair .bool (.sl (.int .u32))), .val true (.pair .bool (.sl (.int .u32)))],res:= [.val false (.int .i64)],shared:=false,pre:=fun(x:(Bool×(List Int))×(Bool×(List Int))×Unit)=>True,post:=fun(x:(Bool×(List Int))×(Bool×(List Int))×Unit) (r:Int×Unit)=>r.1=J0 (iv x.1) (iv x.2.1)}
def V2:A6:= {args:= [.val false (.int .i64)],res:= [.val false .bool],shared:=false,pre:=fun(x:Int×Unit)=>True,post:=fun(x:Int×Unit) (r:Bool×Unit)=>r.1=false}
def pR:Nat→Nat→Pl→Pl
 | _,0,k=>k
 |i,n+1,k=> .p i (pR (i+1) n k)
def vI:List Th:= [.val (.int .i64)]
def vU:List Th:= [.val (.int .u64)]
def PR:An:= {loop:= [(2,⟨[0],[],[(3,false,vI)],[],[]⟩)]}
def Uk:An:= {}
def NL:An:= {loop:= [(3,⟨[6,7],[],[(3,false,vU),(8,false,vI)],[],[]⟩)]}
def FT:An:= {}
def CV:An:= {loop:= [(7,⟨[0,1],[],[(5,false,vI)],[],[]⟩)],plan:= [(9,[3,7],[],true,(pR 0 3 (.q 3 (pR 4 3 (.q 7 (.p 8 .done)))))),(11,[3,7],[],true,(pR 0 3 (.q 3 (pR 4 3 (.q 7 (.p 8 .done))))))]}
def NK:An:= {}
def Yh:A2 Bh.args->Prop:=fun(x:List Int×Unit)=>let e:=(1:Int);let c:=(x.1.length:Int);let a:=(0:Int);∃(I:Int×Unit->Prop),∃(μ: _->Nat),I (c,())/\∀(p:Int×Unit),let d:=(i64.wrap (p.1-e),());let b:=(decide (gx a x.1 (i64.wrap (p.1-e))=a));(Ty.int i64).wf p.1/\True->I p->(decide (a<p.1)=true->a<=i64.wrap (p.1-e)/\i64.wrap (p.1-e)<c)/\(iB (K7 (decide (a<p.1)) b false) (I d/\μ d<μ p) ((a<=a/\a<=p.1/\p.1<=c)/\List.drop a.toNat (List.take p.1.toNat x.1)=nc (nv x.1)))
def Hc:A2 O0.args->Prop:=fun(x:Int×Unit)=>(0:(Ty.int u64).den)<=(32:Int)/\True/\∀(r:List Int×Unit),I5 r.1/\True->r.1=nc (nv [u32.wrap x.1,u32.wrap (Int.fdiv x.1 ((2:Int)^Min.min ((32:Int).toNat) u64.bits))])->r.1=nc x.1.toNat
def Tx:A2 Cl.args->Prop:=fun(x:List Int×Unit)=>let c:=(0:Int);let b:=(x.1.length:Int);∃(I:Int×Int×Unit->Prop),∃(μ: _->Nat),I (c,c,())/\∀(p:Int×Int×Unit),let a:=(u64.wrap (↑(BitVec.ofInt u64.bits p.1|||BitVec.ofInt u64.bits (u64.wrap (u64.wrap (gx c x.1 p.2.1)*(2:Int)^Min.min (i64.wrap (32*p.2.1)).toNat u64.bits))).toNat:Int),i64.wrap (p.2.1+1),());(Ty.int u64).wf p.1/\(Ty.int i64).wf p.2.1/\True->I p->(iB (decide (p.2.1<b)) ((c<=p.2.1/\p.2.1<b)/\(0:(Ty.int i64).den)<=i64.wrap (32*p.2.1)/\I a/\μ a<μ p) (p.1=(↑(nv x.1):Int)))
def Ni:A2 Y5.args->Prop:=fun(x:List Int×Unit)=>let a:=(18446744073709551616:Nat);True/\∀(r:List Int×Unit),let b:Prop:=((2:Int)<(r.1.length:Int));I5 r.1/\True->r.1=nc (nv x.1)->(iB (decide b) ((nv x.1<a->(0:Int)=(↑(nv x.1):Int)/\false=true)/\(a<=nv x.1->false=false)) (List.length r.1<=2/\∀(c:Int×Unit),Gy c.1/\True->c.1=(↑(nv r.1):Int)->(nv x.1<a->c.1=(↑(nv x.1):Int)/\true=true)/\(a<=nv x.1->true=false)))
def Lw:A2 V6.args->Prop:=fun(x:List Int×List Int×Unit)=>let i:=(1:Int);let e:=(nv x.1);let d:=(nv x.2.1);let c:=(0:Int);True/\∀(r:List Int×Unit),let a:=(r.1.length:Int);I5 r.1/\True->r.1=nc e->True/\∀(j:List Int×Unit),let b:=(j.1.length:Int);I5 j.1/\True->j.1=nc d->(iB (decide (a≠b)) ((iB (decide (a<b)) ((-1:Int)=Bw e d) (i=Bw e d))) (∃(I:Int×Unit->Prop),∃(μ: _->Nat),I (i64.wrap (a-i),())/\∀(p:Int×Unit),let h:Prop:=(gx c j.1 p.1<gx c r.1 p.1);let g:Prop:=(gx c r.1 p.1<gx c j.1 p.1);let f:=(i64.wrap (p.1-i),());(Ty.int i64).wf p.1/\True->I p->(iB (decide (c<=p.1)) ((c<=p.1/\p.1<a)/\(c<=p.1/\p.1<b)/\(iB (decide g) ((-1:Int)=Bw e d) ((c<=p.1/\p.1<a)/\(c<=p.1/\p.1<b)/\(iB (decide h) (i=Bw e d) (I f/\μ f<μ p))))) (c=Bw e d))))
def Tw:A2 Ck.args->Prop:=fun(x:List Int×Unit)=>True/\∀(r:List Int×Unit),let a:=(r.1.length:Int);I5 r.1/\True->r.1=nc (nv x.1)->((0:Int)<=a/\a<=a/\(↑(4:Nat):Int)*a<=(281474976710656:Int)/\a<=(9223372036854775807:Int))/\Kh (List.replicate a.toNat (0:Int)) r.1=nc (nv x.1)
def HX (x:A2 Bh.args) (hw:awf Bh.args x) (_:Bh.pre x):Yh x:=by
 obtain⟨l,_⟩:=x;have hl:l.length<=9223372036854775807:=hw.1.1;have hb:A5 l:=A3 hw.1.2;change List Int at l;simp only[Yh,iB];refine⟨fun p=>0<=p.1/\p.1<=(l.length:Int)/\∀i x,p.1.toNat<=i->l[i]? =some x->x=0,fun p=>p.1.toNat,⟨qD _,qI _,fun i x hi hx=> ?_⟩, ?_⟩
 . rw[rS (by simpa using hi)]at hx;cases hx
 rintro⟨n,_⟩ _ ⟨h0,h1,u⟩;change Int at n;simp only at h0 h1 u⊢;refine⟨fun h=> ?_,fun h=> ?_,fun h=> ?_⟩
 . have h:=qA h;rw[wv (by omega)];exact⟨by omega,by omega⟩
 . rw[L8]at h;simp only[qC,sA]at h;obtain⟨h3,h4⟩:=h;rw[wv (by omega)]at h4⊢;refine⟨⟨by omega,by omega,fun i x hi hx=> ?_⟩,by omega⟩;by_cases he:i=(n-1).toNat
   . subst he;rw[J3 (d:=(0:Int)) (by omega) (by omega)]at hx;cases hx;exact h4
   . exact u i x (by omega) hx
 . refine⟨⟨qI _,h0,h1⟩, ?_⟩;show(l.take n.toNat).drop 0= _;rw[tU];refine nA hb (by omega) u ?_;rw[L8]at h;simp only[xT,rR]at h;rcases h with h|h
   . exact .inl (by omega)
   . by_cases hn:n=0
     . exact .inl (by omega)
     . rw[wv (by omega)]at h;refine .inr ⟨gx 0 l (n-1), ?_,h⟩;have:=J3 (d:=(0:Int)) (l:=l) (i:=n-1) (by omega) (by omega);rw[<-this];congr 1;omega
def Og (x:A2 O0.args) (hw:awf O0.args x) (_:O0.pre x):Hc x:=by
 obtain⟨v,_⟩:=x;change Int at v;have hv:u64.min<=v/\v<=u64.max:=hw.1;rw[bR,AG]at hv;simp only[Hc];refine⟨by decide,trivial, ?_⟩;rintro⟨r,_⟩ _ u;simp only at u⊢;rw[u];congr 1;rw[show Min.min (Int.toNat 32) u64.bits=32 from rfl];simp only[nv,Bo];rw[sD _ (by decide),show(2:Int)^32=4294967296 from rfl];omega
def EZ (x:A2 Cl.args) (hw:awf Cl.args x) (hp:Cl.pre x):Tx x:=by
 obtain⟨l,_⟩:=x;have hb:A5 l:=A3 hw.1.2;have hl:l.length<=2:=hp;change List Int at l;simp only[Tx,iB];refine⟨fun p=>0<=p.2.1/\p.2.1<=(l.length:Int)/\p.1=(nv (l.take p.2.1.toNat):Int),fun p=>((l.length:Int)-p.2.1).toNat,⟨qI _,qD _,rfl⟩, ?_⟩;rintro⟨v,i,_⟩ hv ⟨h0,h1,h2⟩;change Int at v i;simp only at h0 h1 h2⊢;refine⟨fun h=> ?_,fun h=> ?_⟩
 . have h:=qA h;have hg:=Sa hb h0 h;have u:=Fm (l:=l.take i.toNat) fun x hx=>hb x (sL hx)
   rw[qU,sV (by omega)]at u;have hs:=GP h0 h;rw[wv (a:=32*i) (by omega),wv (a:=i+1) (by omega),W0 hg.1 (by omega)];have hm:Min.min (32*i).toNat u64.bits=32*i.toNat:=by
    show Min.min (32*i).toNat 64= _;omega
   rw[hm];have hi:i.toNat=0\/i.toNat=1:=by omega
   refine⟨⟨h0,h⟩,by show(0:Int)<=32*i;omega, ?_⟩;have key:u64.wrap (((BitVec.ofInt 64 v|||BitVec.ofInt 64 (u64.wrap (gx 0 l i*2^(32*i.toNat)))).toNat:Nat):Int)=(nv (l.take (i+1).toNat):Int):=by
    rw[hs];generalize gx 0 l i=b at hg;rcases hi with hi|hi
    . rw[hi]at u⊢;have a0:v=0:=by rw[h2,hi];simp[nv]
      rw[W0 (a:=b*2^(32*0)) (by omega) (by omega),ST (v:=v) (b:=b) (k:=32*0) (by omega) (by omega) hg.1 (by omega) (by omega),W0 (by omega) (by omega)];simp[nv];omega
    . rw[hi]at u⊢;rw[hi]at h2;rw[W0 (a:=b*2^(32*1)) (by omega) (by omega),ST (v:=v) (b:=b) (k:=32*1) (by omega) (by omega) hg.1 (by omega) (by omega),W0 (by omega) (by omega)];omega
   exact⟨⟨by omega,by omega,key⟩,by omega⟩
 . have h:=qB h;rw[E9 (by omega)]at h2;exact h2
def Yg (x:A2 Y5.args) (hw:awf Y5.args x) (_:Y5.pre x):Ni x:=by
 obtain⟨l,_⟩:=x;change List Int at l;simp only[Ni,iB];refine⟨trivial, ?_⟩;rintro⟨r,_⟩ _ u;simp only at u⊢;subst u;refine⟨fun h=> ?_,fun h=> ?_⟩
 . have h:=qA h;have:=A4n (k:=2) (n:=nv l) (by omega);refine⟨fun h2=> ?_,fun _=>trivial⟩;rw[show(4294967296:Nat)^2=18446744073709551616 from rfl]at this;omega
 . have h:=qB h;have a0:(nc (nv l)).length<=2:=by omega
   refine⟨a0, ?_⟩;rintro⟨r,_⟩ _ u;simp only at u⊢;have a1:=rG (Kc (nv l)) (rW (by decide) a0);rw[E1]at u;refine⟨fun _=>⟨u,trivial⟩,fun h2=> ?_⟩;rw[show(4294967296:Nat)^2=18446744073709551616 from rfl]at a1;omega
def Vf (x:A2 V6.args) (hw:awf V6.args x) (_:V6.pre x):Lw x:=by
 obtain⟨a,b,_⟩:=x;change List Int at a b;simp only[Lw,iB];refine⟨trivial, ?_⟩;rintro⟨r,_⟩ ⟨⟨a3,_⟩,_⟩ hr;simp only at hr a3⊢;subst hr;refine⟨trivial, ?_⟩;rintro⟨s,_⟩ ⟨⟨a4,_⟩,_⟩ hs;simp only at hs a4⊢;subst hs;have ha:=H9 (nv a);have hb:=H9 (nv b);refine⟨fun a1=>⟨fun h=> ?_,fun h=> ?_⟩,fun a1=> ?_⟩
 . have h:=qA h;exact(Mp (Zu (by omega))).symm
 . have h:=qB h;have a1:=qA a1;exact(OT (Zu (by omega))).symm
 . have a2:(nc (nv a)).length=(nc (nv b)).length:=by have:=qB a1;omega
   have ea:=E1 (nv a);have eb:=E1 (nv b);generalize nc (nv a)=r at*;generalize nc (nv b)=s at*;rw[<-ea, <-eb];refine⟨fun p=> -1<=p.1/\p.1<(r.length:Int)/\r.drop (p.1+1).toNat=s.drop (p.1+1).toNat,fun p=>(p.1+1).toNat, ?_, ?_⟩
   . rw[wv (by omega)];refine⟨by omega,by omega, ?_⟩;rw[sC (by omega),sC (by omega)]
   rintro⟨i,_⟩ _ ⟨h0,h1,h2⟩;change Int at i;simp only at h0 h1 h2⊢;refine⟨fun h=> ?_,fun h=> ?_⟩
   . have h:=qA h;refine⟨⟨h,h1⟩,⟨h,by omega⟩,fun a0=> ?_,fun a0=>⟨⟨h,h1⟩,⟨h,by omega⟩,fun u=> ?_,fun u=> ?_⟩⟩
     . exact(Mp (aY ha hb a2 h h1 h2 (qA a0))).symm
     . exact(OT (aY hb ha a2.symm h (by omega) h2.symm (qA u))).symm
     . have a0:=qB a0;have u:=qB u;rw[wv (by omega)];refine⟨⟨by omega,by omega, ?_⟩,by omega⟩;rw[show i-1+1=i from by omega,U5 h h1,U5 h (by omega),h2,show gx 0 r i=gx 0 s i from by omega]
   . have h:=qB h;rw[show(i+1).toNat=0 from by omega,tU,tU]at h2;rw[h2,XX]
def JC {α:Type} {l:List α} {d:α} :Kh (List.replicate ((l.length:Nat):Int).toNat d) l=l:=by
 unfold Kh;rw[rE,qJ,uZ,sC (by simp),vK]
def EY (x:A2 Ck.args) (hw:awf Ck.args x) (hp:Ck.pre x):Tw x:=by
 obtain⟨l,_⟩:=x;have hb:A5 l:=A3 hw.1.2;have hl:l.length<=35184372088832:=hp;simp only[Tw];refine⟨trivial, ?_⟩;rintro⟨r,_⟩ _ u;simp only at u⊢;have h1:r.length<=l.length:=by rw[u];exact C7 hb
 refine⟨⟨by omega,qI _,by simp;omega,by omega⟩, ?_⟩;rw[JC,u]
def PN:An:= {join:= [(4,⟨[],[],[(0,false,[.val (.sl (.int .u32))]),(1,false,[.val (.sl (.int .u32))])],[],[]⟩),(12,⟨[0,1,5,7,24,25,26],[0],[(6,false,vU)],[],[]⟩)],loop:= [(7,⟨[0,1,5,24,25],[],[(6,false,vU),(26,false,vI)],[],[(0, .row (.int .u32) 70)]⟩)]}
def PQ:An:= {join:= [(12,⟨[1,6,8,22,23,24],[0],[(10,false,vU)],[],[]⟩)],loop:= [(7,⟨[1,6,22,23],[],[(7,false,vU),(24,false,vI)],[],[(0, .row (.int .u32) 70)]⟩)]}
def PP:An:= {join:= [(18,⟨[1,5,29,30,31],[],[],[],[(0, .row (.int .u32) 70)]⟩)],loop:= [(11,⟨[1,5,6,7,29,30,31,38,39],[],[(8,false,vU),(40,false,vI)],[],[(0, .row (.int .u32) 70)]⟩),(6,⟨[1,5,29,30],[],[(31,false,vI)],[],[(0, .row (.int .u32) 70)]⟩)]}
def Ov:An:= {loop:= [(4,⟨[0,1,4],[],[(6,false,vU),(7,false,vI)],[],[(0, .row (.int .u32) 70)]⟩)]}
def Ul:An:= {join:= [(15,⟨[0,6,7,8,29,30,31],[0],[(10,false,vU)],[],[]⟩)],loop:= [(10,⟨[0,6,7,29,30],[],[(31,false,vI)],[],[(0, .row (.int .u32) 70)]⟩)]}
def CY:An:= {loop:= [(4,⟨[0,1,5,13,14],[],[(6,false,vU),(15,false,vI)],[],[(0, .row (.int .u32) 70)]⟩)]}
def Yb:A2 Dx.args->Prop:=fun(x:List Int×List Int×Unit)=>let f:=(1:Int);let c:=(0:Int);True/\∀(r:List Int×Unit),I5 r.1/\True->r.1=nc (nv x.1)->True/\∀(j:List Int×Unit),let e:Prop:=((r.1.length:Int)<(j.1.length:Int));I5 j.1/\True->j.1=nc (nv x.2.1)->∃(J:List Int×List Int×Unit->Prop),((iB (decide e) (J (j.1,r)) (J (r.1,j))))/\∀(p:List Int×List Int×Unit),let d:=(p.2.1.length:Int);let a:=(p.1.length:Int);(Ty.int u32).sl.wf p.1/\(Ty.int u32).sl.wf p.2.1/\True->J p->(c<=i64.wrap (a+f)/\i64.wrap (a+f)<=i64.wrap (a+f)/\(↑(4:Nat):Int)*i64.wrap (a+f)<=(281474976710656:Int)/\i64.wrap (a+f)<=(9223372036854775807:Int))/\∃(I:Int×Int×List Int×Unit->Prop),∃(μ: _->Nat),I (c,c,List.replicate (i64.wrap (a+f)).toNat c,())/\∀(i:Int×Int×List Int×Unit),let h:=(gx c p.1 i.2.1);let g:=(i.2.2.1.length:Int);(Ty.int u64).wf i.1/\(Ty.int i64).wf i.2.1/\I5 i.2.2.1/\True->I i->(iB (decide (i.2.1<a)) ((c<=i.2.1/\i.2.1<a)/\∃(J:Int×Unit->Prop),((iB (decide (i.2.1<d)) ((c<=i.2.1/\i.2.1<d)/\J (u64.wrap (u64.wrap (i.1+u64.wrap h)+u64.wrap (gx c p.2.1 i.2.1)),())) (J (u64.wrap (i.1+u64.wrap h),()))))/\∀(p:Int×Unit),let b:=(Int.fdiv p.1 ((2:Int)^Min.min ((32:Int).toNat) u64.bits),i64.wrap (i.2.1+f),List.set i.2.2.1 i.2.1.toNat (u32.wrap p.1),());(Ty.int u64).wf p.1/\True->J p->(c<=i.2.1/\i.2.1<g)/\(0:(Ty.int u64).den)<=(32:Int)/\I b/\μ b<μ i) ((c<=a/\a<g)/\True/\∀(r:List Int×Unit),I5 r.1/\True->r.1=nc (nv (List.set i.2.2.1 a.toNat (u32.wrap i.1)))->r.1=nc (nv x.1+nv x.2.1)))
def Yf:A2 Ea.args->Prop:=fun(x:List Int×List Int×Unit)=>let f:=(nv x.1-nv x.2.1);let c:=(0:Int);True/\∀(r:List Int×Unit),let a:=(r.1.length:Int);I5 r.1/\True->r.1=nc (nv x.1)->True/\∀(g:List Int×Unit),let d:=(g.1.length:Int);I5 g.1/\True->g.1=nc (nv x.2.1)->True/\∀(i:Int×Unit),D2 i.1/\True->i.1=Bw (nv r.1) (nv g.1)->(iB (decide (i.1<c)) ((nv x.1<nv x.2.1->Bq Int= []/\false=false)/\(nv x.2.1<=nv x.1->Bq Int=nc f/\false=true)) ((c<=a/\a<=a/\(↑(4:Nat):Int)*a<=(281474976710656:Int)/\a<=(9223372036854775807:Int))/\∃(I:Int×Int×List Int×Unit->Prop),∃(μ: _->Nat),I (c,c,List.replicate a.toNat c,())/\∀(p:Int×Int×List Int×Unit),let e:=(u64.wrap (gx c r.1 p.2.1)-p.1);(Ty.int u64).wf p.1/\(Ty.int i64).wf p.2.1/\I5 p.2.2.1/\True->I p->(iB (decide (p.2.1<a)) ((c<=p.2.1/\p.2.1<a)/\∃(J:Int×Unit->Prop),((iB (decide (p.2.1<d)) ((c<=p.2.1/\p.2.1<d)/\J (u64.wrap (u64.wrap e-u64.wrap (gx c g.1 p.2.1)),())) (J (u64.wrap e,()))))/\∀(h:Int×Unit),let b:=(Int.fdiv h.1 ((2:Int)^Min.min ((63:Int).toNat) u64.bits),i64.wrap (p.2.1+1),List.set p.2.2.1 p.2.1.toNat (u32.wrap h.1),());(Ty.int u64).wf h.1/\True->J h->(c<=p.2.1/\p.2.1<(p.2.2.1.length:Int))/\(0:(Ty.int u64).den)<=(63:Int)/\I b/\μ b<μ p) (True/\∀(r:List Int×Unit),I5 r.1/\True->r.1=nc (nv p.2.2.1)->(nv x.1<nv x.2.1->r.1= []/\true=false)/\(nv x.2.1<=nv x.1->r.1=nc f/\true=true)))))
def Ye:A2 Dz.args->Prop:=fun(x:List Int×List Int×Unit)=>let j:=(nv x.1*nv x.2.1);let e:=(0:Int);True/\∀(r:List Int×Unit),let c:=(r.1.length:Int);I5 r.1/\True->r.1=nc (nv x.1)->True/\∀(l:List Int×Unit),let b:=(l.1.length:Int);I5 l.1/\True->l.1=nc (nv x.2.1)->(iB (K7 (decide (c=e)) true (decide (b=e))) (Bq Int=nc j) ((e<=i64.wrap (c+b)/\i64.wrap (c+b)<=i64.wrap (c+b)/\(↑(4:Nat):Int)*i64.wrap (c+b)<=(281474976710656:Int)/\i64.wrap (c+b)<=(9223372036854775807:Int))/\∃(I:Int×List Int×Unit->Prop),∃(μ: _->Nat),I (e,List.replicate (i64.wrap (c+b)).toNat e,())/\∀(p:Int×List Int×Unit),(Ty.int i64).wf p.1/\I5 p.2.1/\True->I p->(iB (decide (p.1<c)) (∃(J:List Int×Unit->Prop),((e<=p.1/\p.1<c)/\(iB (decide (gx e r.1 p.1=e)) (J (p.2.1,())) (∃(I:Int×Int×List Int×Unit->Prop),∃(μ: _->Nat),I (e,e,p.2.1,())/\∀(k:Int×Int×List Int×Unit),let i:=(i64.wrap (p.1+k.2.1));let h:=(k.2.2.1.length:Int);let f:Prop:=(e<=i64.wrap (p.1+k.2.1)/\i64.wrap (p.1+k.2.1)<h);let a:=(u64.wrap (k.1+u64.wrap (u64.wrap (u64.wrap (gx e r.1 p.1)*u64.wrap (gx e l.1 k.2.1))+u64.wrap (List.getD k.2.2.1 i.toNat e))));let d:=(a.fdiv ((2:Int)^Min.min ((32:Int).toNat) u64.bits),i64.wrap (k.2.1+1),List.set k.2.2.1 i.toNat (u32.wrap a),());(Ty.int u64).wf k.1/\(Ty.int i64).wf k.2.1/\I5 k.2.2.1/\True->I k->(iB (decide (k.2.1<b)) ((e<=k.2.1/\k.2.1<b)/\f/\f/\(0:(Ty.int u64).den)<=(32:Int)/\I d/\μ d<μ k) ((e<=i64.wrap (p.1+b)/\i64.wrap (p.1+b)<h)/\J (List.set k.2.2.1 (i64.wrap (p.1+b)).toNat (u32.wrap k.1),()))))))/\∀(k:List Int×Unit),let g:=(i64.wrap (p.1+1),k);I5 k.1/\True->J k->I g/\μ g<μ p) (True/\∀(r:List Int×Unit),I5 r.1/\True->r.1=nc (nv p.2.1)->r.1=nc j))))
def Ey:A2 K9.args->Prop:=fun(x:List Int×Int×Unit)=>let e:=(u64.wrap x.2.1);let d:=(0:Int);let c:=(x.1.length:Int);(d<=c/\c<=c/\(↑(4:Nat):Int)*c<=(281474976710656:Int)/\c<=(9223372036854775807:Int))/\∃(I:Int×Int×List Int×Unit->Prop),∃(μ: _->Nat),I (d,i64.wrap (c-(1:Int)),List.replicate c.toNat d,())/\∀(p:Int×Int×List Int×Unit),let a:=(u64.wrap (↑(BitVec.ofInt u64.bits (u64.wrap (p.1*2^Min.min ((32:Int).toNat) u64.bits)) |||BitVec.ofInt u64.bits (u64.wrap (gx d x.1 p.2.1))).toNat:Int));let b:=(a.tmod e,i64.wrap (p.2.1-1),List.set p.2.2.1 p.2.1.toNat (u32.wrap (u64.wrap (a.tdiv e))),());(Ty.int u64).wf p.1/\(Ty.int i64).wf p.2.1/\I5 p.2.2.1/\True->I p->(iB (decide (d<=p.2.1)) ((0:(Ty.int u64).den)<=(32:Int)/\(d<=p.2.1/\p.2.1<c)/\u64.wrap x.2.1≠d/\(d<=p.2.1/\p.2.1<(p.2.2.1.length:Int))/\u64.wrap x.2.1≠d/\I b/\μ b<μ p) (True/\∀(r:List Int×Unit),I5 r.1/\True->r.1=nc (nv p.2.2.1)->True/\∀(f:List Int×Unit),I5 f.1/\True->f.1=nc p.1.toNat->r.1=nc (nv x.1/x.2.1.toNat)/\f.1=nc (nv x.1%x.2.1.toNat)))
def Hd:A2 J8.args->Prop:=fun(x:List Int×Int×Unit)=>let i:=(1:Int);let g:=(nv x.1/(2:Nat)^x.2.1.toNat);let f:=(32:Int);let e:=(i64.wrap (Int.tdiv x.2.1 f));let d:=(0:Int);(iB (decide (x.2.1<d)) ((x.2.1<d->Bq Int= []/\false=false)/\(d<=x.2.1->Bq Int=nc g/\false=true)) (True/\∀(r:List Int×Unit),let b:=(r.1.length:Int);let j:Prop:=(b<=i64.wrap (Int.tdiv x.2.1 f));let a:=(↑(List.drop e.toNat (List.take b.toNat r.1)).length:Int);I5 r.1/\True->r.1=nc (nv x.1)->f≠d/\(iB (decide j) ((x.2.1<d->Bq Int= []/\true=false)/\(d<=x.2.1->Bq Int=nc g/\true=true)) (f≠d/\(d<=i64.wrap (Int.tdiv x.2.1 f)/\i64.wrap (Int.tdiv x.2.1 f)<=b/\b<=b)/\f≠d/\(d<=a/\a<=a/\(↑(4:Nat):Int)*a<=(281474976710656:Int)/\a<=(9223372036854775807:Int))/\∃(I:Int×List Int×Unit->Prop),∃(μ: _->Nat),I (d,List.replicate a.toNat d,())/\∀(p:Int×List Int×Unit),let k:Prop:=(i64.wrap (p.1+i)<a);let h:=(gx d (List.drop e.toNat (List.take b.toNat r.1)) p.1);(Ty.int i64).wf p.1/\I5 p.2.1/\True->I p->(iB (decide (p.1<a)) ((d<=p.1/\p.1<a)/\∃(J:Int×Unit->Prop),((iB (decide k) ((d<=i64.wrap (p.1+i)/\i64.wrap (p.1+i)<a)/\(0:(Ty.int u64).den)<=f/\J (u64.wrap (↑(BitVec.ofInt u64.bits (u64.wrap h) |||BitVec.ofInt u64.bits (u64.wrap (u64.wrap (gx d (List.drop e.toNat (List.take b.toNat r.1)) (i64.wrap (p.1+i)))*(2:Int)^Min.min f.toNat u64.bits))).toNat:Int),())) (J (u64.wrap h,()))))/\∀(l:Int×Unit),let c:=(i64.wrap (p.1+i),List.set p.2.1 p.1.toNat (u32.wrap (Int.fdiv l.1 ((2:Int)^Min.min (Int.tmod x.2.1 f).toNat u64.bits))),());(Ty.int u64).wf l.1/\True->J l->(0:(Ty.int i64).den)<=Int.tmod x.2.1 f/\(d<=p.1/\p.1<(p.2.1.length:Int))/\I c/\μ c<μ p) (True/\∀(r:List Int×Unit),I5 r.1/\True->r.1=nc (nv p.2.1)->(x.2.1<d->r.1= []/\true=false)/\(d<=x.2.1->r.1=nc g/\true=true)))))))
def Ma:A2 O5.args->Prop:=fun(x:List Int×Int×Unit)=>let f:=(1:Int);let d:=(0:Int);let b:=(x.1.length:Int);(d<=i64.wrap (b+f)/\i64.wrap (b+f)<=i64.wrap (b+f)/\(↑(4:Nat):Int)*i64.wrap (b+f)<=(281474976710656:Int)/\i64.wrap (b+f)<=(9223372036854775807:Int))/\∃(I:Int×Int×List Int×Unit->Prop),∃(μ: _->Nat),I (d,d,List.replicate (i64.wrap (b+f)).toNat d,())/\∀(p:Int×Int×List Int×Unit),let g:=(p.2.2.1.length:Int);let e:=(List.set p.2.2.1 b.toNat (u32.wrap p.1));let a:=(u64.wrap (↑(BitVec.ofInt u64.bits p.1|||BitVec.ofInt u64.bits (u64.wrap (u64.wrap (gx d x.1 p.2.1)*(2:Int)^Min.min x.2.1.toNat u64.bits))).toNat:Int));let c:=(a.fdiv ((2:Int)^Min.min ((32:Int).toNat) u64.bits),i64.wrap (p.2.1+f),List.set p.2.2.1 p.2.1.toNat (u32.wrap a),());(Ty.int u64).wf p.1/\(Ty.int i64).wf p.2.1/\I5 p.2.2.1/\True->I p->(iB (decide (p.2.1<b)) ((d<=p.2.1/\p.2.1<b)/\(0:(Ty.int i64).den)<=x.2.1/\(d<=p.2.1/\p.2.1<g)/\(0:(Ty.int u64).den)<=(32:Int)/\I c/\μ c<μ p) ((d<=b/\b<g)/\e.length=x.1.length+(1:Nat)/\nv e=nv x.1*2^x.2.1.toNat))
def kV (v:Int) (_:0<=v):Int.fdiv v (2^Min.min (Int.toNat 32) u64.bits)=v/4294967296:=by
 rw[show Min.min (Int.toNat 32) u64.bits=32 from rfl,sD _ (by decide)];rfl
def B1u (v:Int) (_:0<=v):Int.fdiv v (2^Min.min (Int.toNat 63) u64.bits)=v/9223372036854775808:=by
 rw[show Min.min (Int.toNat 63) u64.bits=63 from rfl,sD _ (by decide)];rfl
def GZ {v b:Int} {k:Nat} (v0:0<=v) (v1:v<2^k) (b0:0<=b) (hb:b*2^k<18446744073709551616) (u:v<18446744073709551616):(((BitVec.ofInt 64 (b*2^k) |||BitVec.ofInt 64 v).toNat:Nat):Int)=v+b*2^k:=by
 rw[BitVec.or_comm];exact ST v0 v1 b0 hb u
def HT (x:A2 Dx.args) (hw:awf Dx.args x) (hp:Dx.pre x):Yb x:=by
 obtain⟨a,b,_⟩:=x;have ha:A5 a:=A3 hw.1.2;have hb:A5 b:=A3 hw.2.1.2;change List Int at a b;obtain⟨la,lb⟩:a.length<=17592186044416/\b.length<=17592186044416:=hp;have n1:=C7 ha;have n2:=C7 hb;simp only[Yb,iB];refine⟨trivial, ?_⟩;rintro⟨r,_⟩ _ hr;refine⟨trivial, ?_⟩;rintro⟨s,_⟩ _ hs;simp only at hr hs⊢;subst hr hs;refine⟨fun p=>p.2.1.length<=p.1.length/\p.1.length<=17592186044416/\nv p.1+nv p.2.1=nv a+nv b,⟨fun h=> ?_,fun h=> ?_⟩, ?_⟩
 . have h:=qA h;refine⟨by show(nc (nv a)).length<=(nc (nv b)).length;omega,by show(nc (nv b)).length<= _;omega, ?_⟩;show nv (nc (nv b))+nv (nc (nv a))= _;rw[E1,E1,vV]
 . have h:=qB h;refine⟨by show(nc (nv b)).length<=(nc (nv a)).length;omega,by show(nc (nv a)).length<= _;omega, ?_⟩;show nv (nc (nv a))+nv (nc (nv b))= _;rw[E1,E1]
 rintro⟨P,Q,_⟩ ⟨a1,a2,_⟩ ⟨g1,g2,g3⟩;change List Int at P Q;simp only at g1 g2 g3⊢;have hP:A5 P:=A3 a1.2;have hQ:A5 Q:=A3 a2.2;rw[wv (a:=(P.length:Int)+1) (by omega)];refine⟨⟨by omega,qI _,by simp;omega,by omega⟩, ?_⟩;refine⟨fun p=>0<=p.2.1/\p.2.1<=(P.length:Int)/\0<=p.1/\p.1<=1/\p.2.2.1.length=P.length+1/\nv (p.2.2.1.take p.2.1.toNat)+4294967296^p.2.1.toNat*p.1.toNat=nv (P.take p.2.1.toNat)+nv (Q.take p.2.1.toNat),fun p=>((P.length:Int)-p.2.1).toNat,⟨qI _,qD _,qI _,by show(0:Int)<=1;omega,by rw[rE];omega,by simp[nv]⟩, ?_⟩;rintro⟨c,i,out,_⟩ ⟨_,_,a3,_⟩ ⟨u,h1,h2,h3,h4,h5⟩;change Int at c i;change List Int at out;simp only at u h1 h2 h3 h4 h5⊢;have dP:=K6 hP i.toNat;have dQ:=K6 hQ i.toNat;refine⟨fun h'=> ?_,fun h'=> ?_⟩
 . have h:i<(P.length:Int):=qA h';rw[Eu hP u h,W0 (a:=(dg P i.toNat:Int)) (by omega) (by omega),W0 (a:=c+(dg P i.toNat:Int)) (by omega) (by omega)];refine⟨⟨u,h⟩,fun p=>p.1=c+(dg P i.toNat:Int)+(dg Q i.toNat:Int),⟨fun hi=> ?_,fun hi=> ?_⟩, ?_⟩
   . have hi:=qA hi;refine⟨⟨u,hi⟩, ?_⟩;show u64.wrap _= _;rw[Eu hQ u hi,W0 (a:=(dg Q i.toNat:Int)) (by omega) (by omega),W0 (by omega) (by omega)]
   . have hi:=qB hi;show c+(dg P i.toNat:Int)= _;rw[Nu (l:=Q) (by omega)];omega
   rintro⟨c2,_⟩ _ a0;change Int at c2;simp only at a0⊢;subst a0;refine⟨⟨u,by omega⟩,by decide, ?_⟩;rw[kV _ (by omega),wv (by omega),Bo];refine⟨⟨by omega,by omega,by omega,by omega,by rw[qL];exact h4, ?_⟩,by omega⟩;rw[show(i+1).toNat=i.toNat+1 from by omega,Q9 (by omega),H3 P,H3 Q,rZ];exact YB h5 (by omega)
 . have h:=qB h';refine⟨⟨by omega,by omega⟩,trivial, ?_⟩;rintro⟨r,_⟩ _ hr;simp only at hr⊢;rw[hr];congr 1;rw[show i.toNat=P.length from by omega,qR (rA P.length),qR g1]at h5;rw[qJ,w32 (by omega) (by omega)];have e:=Q9 (l:=out) (i:=P.length) (v:=c) (by omega);rw[qR (by rw[qL];omega)]at e;rw[e,h5,g3]
def HW (x:A2 Ea.args) (hw:awf Ea.args x) (hp:Ea.pre x):Yf x:=by
 obtain⟨a,b,_⟩:=x;have ha:A5 a:=A3 hw.1.2;have hb:A5 b:=A3 hw.2.1.2;change List Int at a b;obtain⟨la,lb⟩:a.length<=17592186044416/\b.length<=17592186044416:=hp;have n1:=C7 ha;have n2:=C7 hb;simp only[Yf,iB];refine⟨trivial, ?_⟩;rintro⟨r,_⟩ _ hr;refine⟨trivial, ?_⟩;rintro⟨s,_⟩ _ hs;refine⟨trivial, ?_⟩;rintro⟨d,_⟩ _ hd;simp only at hr hs hd⊢;rw[hr,hs,E1,E1]at hd;subst hd;refine⟨fun h=> ?_,fun h=> ?_⟩
 . have h:=qA h;refine⟨fun _=>⟨by trivial,by trivial⟩,fun u=> ?_⟩;unfold Bw at h;rw[qT (by omega)]at h;split at h<;>omega
 . have h:=qB h;have u:nv b<=nv a:=by
    rcases sF (nv a) (nv b)with h1|h1
    . rw[Mp h1]at h;omega
    . exact h1
   have a1:A5 r:=hr▸H9 _;have a3:A5 s:=hs▸H9 _;have a2:nv r=nv a:=by rw[hr,E1]
   have a4:nv s=nv b:=by rw[hs,E1]
   have a8:r.length<=a.length:=by rw[hr];exact n1
   have a5:s.length<=r.length:=by rw[hr,hs];exact I2 u
   rw[<-a2, <-a4]at u⊢;clear hr hs a2 a4;refine⟨⟨by omega,qI _,by simp;omega,by omega⟩, ?_⟩;refine⟨fun p=>0<=p.2.1/\p.2.1<=(r.length:Int)/\0<=p.1/\p.1<=1/\p.2.2.1.length=r.length/\nv (r.take p.2.1.toNat)+4294967296^p.2.1.toNat*p.1.toNat=nv (p.2.2.1.take p.2.1.toNat)+nv (s.take p.2.1.toNat),fun p=>((r.length:Int)-p.2.1).toNat,⟨qI _,qD _,qI _,by show(0:Int)<=1;omega,by simp,by simp[nv]⟩, ?_⟩;rintro⟨c,i,out,_⟩ ⟨_,_,a6,_⟩ ⟨h0,h1,h2,h3,h4,h5⟩;change Int at c i;change List Int at out;simp only at h0 h1 h2 h3 h4 h5⊢;have ho:A5 out:=A3 a6.2;have da:=K6 a1 i.toNat;have db:=K6 a3 i.toNat;refine⟨fun h'=> ?_,fun h'=> ?_⟩
   . have h:i<(r.length:Int):=qA h';rw[Eu a1 h0 h,W0 (a:=(dg r i.toNat:Int)) (by omega) (by omega)];refine⟨⟨h0,h⟩,fun p=>p.1=((dg r i.toNat:Int)-c-(dg s i.toNat:Int))%18446744073709551616,⟨fun hi=> ?_,fun hi=> ?_⟩, ?_⟩
     . have hi:=qA hi;refine⟨⟨h0,hi⟩, ?_⟩;show u64.wrap _= _;rw[Eu a3 h0 hi,W0 (a:=(dg s i.toNat:Int)) (by omega) (by omega),Bp,Bp];omega
     . have hi:=qB hi;show u64.wrap _= _;rw[Nu (l:=s) (by omega),Bp];omega
     rintro⟨d,_⟩ _ hd;change Int at d;simp only at hd⊢;refine⟨⟨h0,by omega⟩,by decide, ?_⟩;rw[B1u _ (by omega),wv (by omega),Bo];refine⟨⟨by omega,by omega,by omega,by omega,by rw[qL];exact h4, ?_⟩,by omega⟩;rw[show(i+1).toNat=i.toNat+1 from by omega,Q9 (by omega),H3 r,H3 s,rZ];exact SA h5 (by omega)
   . have h:=qB h';refine⟨trivial, ?_⟩;rintro⟨q,_⟩ _ hq;simp only at hq⊢;refine⟨fun a7=>by omega,fun _=>⟨?_,by trivial⟩⟩;rw[hq];congr 1;rw[show i.toNat=r.length from by omega,qR (rA _),qR (by omega),qR a5]at h5;have a0:nv out<4294967296^out.length:=Fm ho;rw[h4]at a0;have hc:c.toNat=0:=DC (P:=4294967296^r.length) (x:=nv out) (by omega) a0;rw[hc,wF,tA]at h5;omega
def HV (x:A2 Dz.args) (hw:awf Dz.args x) (hp:Dz.pre x):Ye x:=by
 obtain⟨a0,b0,_⟩:=x;have a6:A5 a0:=A3 hw.1.2;have a7:A5 b0:=A3 hw.2.1.2;change List Int at a0 b0;obtain⟨ab,ac⟩:a0.length<=17592186044416/\b0.length<=17592186044416:=hp;have n1:=C7 a6;have n2:=C7 a7;simp only[Ye,iB];refine⟨trivial, ?_⟩;rintro⟨a,_⟩ _ u;refine⟨trivial, ?_⟩;rintro⟨b,_⟩ _ a1;simp only at u a1⊢;have ha:A5 a:=u▸H9 _;have hb:A5 b:=a1▸H9 _;have la:a.length<=17592186044416:=by rw[u];omega
 have lb:b.length<=17592186044416:=by rw[a1];omega
 have va:nv a=nv a0:=by rw[u,E1]
 have vb:nv b=nv b0:=by rw[a1,E1]
 rw[<-va, <-vb];clear u a1 va vb n1 n2;refine⟨fun h=> ?_,fun _=> ?_⟩
 . rw[K4]at h;simp only[uL,sA]at h;have:nv a*nv b=0:=by
    rcases h with h|h
    . rw[qO (l:=a) (by omega)];simp[nv]
    . rw[qO (l:=b) (by omega)];simp[nv]
   rw[this,N4]
 have em:i64.wrap ((a.length:Int)+(b.length:Int))=((a.length+b.length:Nat):Int):=by
  rw[wv (by omega)];omega
 rw[em];refine⟨⟨by omega,qI _,by simp;omega,by omega⟩, ?_⟩;refine⟨fun p=>0<=p.1/\p.1<=(a.length:Int)/\p.2.1.length=a.length+b.length/\nv p.2.1=nv (a.take p.1.toNat)*nv b/\∀j,p.1.toNat+b.length<=j->dg p.2.1 j=0,fun p=>((a.length:Int)-p.1).toNat,⟨qI _,qD _,by rw[rE,qJ],by simp[nv,Ph],fun j _=>GG _ _⟩, ?_⟩;rintro⟨i,out,_⟩ ⟨_,aa,_⟩ ⟨h0,h1,h2,h3,h4⟩;change Int at i;change List Int at out;simp only at h0 h1 h2 h3 h4⊢;refine⟨fun h'=> ?_,fun h'=> ?_⟩
 . have h:i<(a.length:Int):=qA h';have da:=K6 ha i.toNat;rw[Eu ha h0 h];refine⟨fun p=>p.1.length=a.length+b.length/\nv p.1=nv (a.take (i.toNat+1))*nv b/\∀j,i.toNat+1+b.length<=j->dg p.1 j=0,⟨⟨h0,h⟩,fun hz=> ?_,fun hz=> ?_⟩, ?_⟩
   . have hz:(dg a i.toNat:Int)=0:=qA hz;refine⟨h2, ?_,fun j hj=>h4 j (by omega)⟩;show nv out= _;rw[h3,H3,show dg a i.toNat=0 from by omega,wF,tA]
   . refine⟨fun p=>0<=p.2.1/\p.2.1<=(b.length:Int)/\0<=p.1/\p.1<=4294967295/\p.2.2.1.length=a.length+b.length/\nv p.2.2.1+4294967296^(i.toNat+p.2.1.toNat)*p.1.toNat=nv out+4294967296^i.toNat*(dg a i.toNat*nv (b.take p.2.1.toNat))/\∀j,i.toNat+b.length<=j->dg p.2.2.1 j=0,fun p=>((b.length:Int)-p.2.1).toNat,⟨qI _,qD _,qI _,by show(0:Int)<=4294967295;omega,h2,by simp[nv],h4⟩, ?_⟩;rintro⟨c,j,o,_⟩ ⟨_,_,a4,_⟩ ⟨g0,g1,g2,g3,g4,g5,g6⟩;change Int at c j;change List Int at o;simp only at g0 g1 g2 g3 g4 g5 g6⊢;have a3:A5 o:=A3 a4.2;refine⟨fun a2=> ?_,fun a2=> ?_⟩
     . have hj:j<(b.length:Int):=qA a2;have db:=K6 hb j.toNat;rw[wv (a:=i+j) (by omega)];refine⟨⟨g0,hj⟩,⟨by omega,by omega⟩,⟨by omega,by omega⟩,by decide, ?_⟩;rw[Eu hb g0 hj,W8 a3,show(i+j).toNat=i.toNat+j.toNat from by omega];have dk:=K6 a3 (i.toNat+j.toNat);have hm:dg a i.toNat*dg b j.toNat<=4294967295*4294967295:=yF da db;have a9:(dg a i.toNat:Int)*(dg b j.toNat:Int)=((dg a i.toNat*dg b j.toNat:Nat):Int):=(uF _ _).symm;rw[W0 (a:=(dg a i.toNat:Int)) (by omega) (by omega),W0 (a:=(dg b j.toNat:Int)) (by omega) (by omega),W0 (a:=(dg o (i.toNat+j.toNat):Int)) (by omega) (by omega),a9];generalize a5:dg a i.toNat*dg b j.toNat=M at hm;rw[W0 (a:=(M:Int)) (by omega) (by omega),W0 (a:=(M:Int)+(dg o (i.toNat+j.toNat):Int)) (by omega) (by omega),W0 (by omega) (by omega),kV _ (by omega),wv (by omega),Bo];refine⟨⟨by omega,by omega,by omega,by omega,by rw[qL];exact g4, ?_,fun q hq=> ?_⟩,by omega⟩
       . have hs:=Je (l:=o) (k:=i.toNat+j.toNat) (v:=(c+((M:Int)+(dg o (i.toNat+j.toNat):Int)))%4294967296) (by omega);rw[show(j+1).toNat=j.toNat+1 from by omega,H3 b, <-uC i.toNat,rZ,tF (dg a i.toNat)];have e1:dg a i.toNat*(4294967296^j.toNat*dg b j.toNat)=4294967296^j.toNat*M:=by rw[<-a5,zK]
         rw[e1,tF (4294967296^i.toNat), <-sJ (4294967296^i.toNat) (4294967296^j.toNat), <-uO, <-uC (nv out), <-g5];generalize 4294967296^(i.toNat+j.toNat)=P at*;have hd:((c+((M:Int)+(dg o (i.toNat+j.toNat):Int)))%4294967296).toNat+4294967296*((c+((M:Int)+(dg o (i.toNat+j.toNat):Int)))/4294967296).toNat=c.toNat+dg o (i.toNat+j.toNat)+M:=by omega
         have a8:=tN (P* ·) hd;simp only[tF, <-sJ]at a8;omega
       . rw[Wc (by omega),qT (by omega)];exact g6 q hq
     . have hj:=qB a2;rw[wv (a:=i+(b.length:Int)) (by omega),w32 g2 g3];refine⟨⟨by omega,by omega⟩,⟨by show(o.set _ _).length= _;rw[qL];exact g4, ?_,fun q hq=> ?_⟩⟩
       . show nv (o.set _ _)= _;have hs:=Je (l:=o) (k:=(i+(b.length:Int)).toNat) (v:=c) (by omega);rw[g6 _ (by omega),wF,tA]at hs;rw[hs,show(i+(b.length:Int)).toNat=i.toNat+b.length from by omega];rw[show j.toNat=b.length from by omega,qR (rA b.length)]at g5;rw[g5,H3,uH,h3,sJ]
       . show dg (o.set _ _) q=0;rw[Wc (by omega),qT (by omega)];exact g6 q (by omega)
   . rintro⟨o,_⟩ _ ⟨k1,k2,k3⟩;simp only at k1 k2 k3⊢;rw[wv (by omega),show(i+1).toNat=i.toNat+1 from by omega];exact⟨⟨by omega,by omega,k1,k2,k3⟩,by omega⟩
 . have h:=qB h';refine⟨trivial, ?_⟩;rintro⟨r,_⟩ _ hr;simp only at hr⊢;rw[hr,h3,qR (by omega)]
def Ly (x:A2 K9.args) (hw:awf K9.args x) (hp:K9.pre x):Ey x:=by
 obtain⟨l,d,_⟩:=x;have hl:A5 l:=A3 hw.1.2;change List Int at l;change Int at d;have hd:u32.min<=d/\d<=u32.max:=hw.2.1;rw[PD,PC]at hd;obtain⟨ll,d0⟩:l.length<=17592186044416/\d≠0:=hp;simp only[Ey,iB];have wd:u64.wrap d=d:=W0 (by omega) (by omega);rw[wd,wv (a:=(l.length:Int)-1) (by omega)];refine⟨⟨by omega,qI _,by simp;omega,by omega⟩, ?_⟩;refine⟨fun p=> -1<=p.2.1/\p.2.1<(l.length:Int)/\0<=p.1/\p.1<d/\p.2.2.1.length=l.length/\nv (l.drop (p.2.1+1).toNat)=nv (p.2.2.1.drop (p.2.1+1).toNat)*d.toNat+p.1.toNat,fun p=>(p.2.1+1).toNat,⟨by show(-1:Int)<=(l.length:Int)-1;omega,by show(l.length:Int)-1< _;omega,qI _,by show(0:Int)<d;omega,by simp, ?_⟩, ?_⟩
 . show nv (l.drop ((l.length:Int)-1+1).toNat)=nv ((List.replicate _ 0).drop ((l.length:Int)-1+1).toNat)* _ + _;rw[sC (by omega),sC (by rw[rE];omega)];simp[nv]
 rintro⟨rest,i,q,_⟩ _ ⟨h0,h1,h2,h3,h4,h5⟩;change Int at rest i;change List Int at q;simp only at h0 h1 h2 h3 h4 h5⊢;refine⟨fun h'=> ?_,fun h'=> ?_⟩
 . have h:0<=i:=qA h';have a0:=Sa hl h h1;have a4:=U5 (l:=l) h h1;rw[show Min.min (Int.toNat 32) u64.bits=32 from rfl];generalize gx 0 l i=b at*;have e1:u64.wrap (rest*2^32)=rest*2^32:=W0 (by omega) (by omega);have e2:u64.wrap b=b:=W0 (by omega) (by omega);have e3:(((BitVec.ofInt u64.bits (rest*2^32) |||BitVec.ofInt u64.bits b).toNat:Nat):Int)=b+rest*4294967296:=GZ (v:=b) (b:=rest) (k:=32) a0.1 (by omega) h2 (by omega) (by omega);rw[e1,e2,e3,W0 (a:=b+rest*4294967296) (by omega) (by omega),wv (a:=i-1) (by omega)];have a1:0<=b+rest*4294967296:=by omega
   rw[tT a1,IntWalk.u64_quo _ _ ⟨a1,by omega,by omega⟩];have a2:=zU a1 (show 0<=d by omega);have a7:(b+rest*4294967296)/d<4294967296:=by
    rw[g1q (by omega)];have:(rest+1)*4294967296<=d*4294967296:=sE (by omega) (by decide);omega
   have a3:=g1w (b+rest*4294967296) d0;have a6:=zA (b+rest*4294967296) (b:=d) (by omega);have a8:=xU (b+rest*4294967296) d;rw[w32 a2 (by omega)];generalize (b+rest*4294967296)/d=qi at*;generalize (b+rest*4294967296)%d=ri at*;refine⟨by decide,⟨h,h1⟩,d0,⟨h,by omega⟩,d0,⟨by omega,by omega,a3,a6,by rw[qL];exact h4, ?_⟩,by omega⟩;rw[show i-1+1=i from by omega,a4];have a5:(q.set i.toNat qi).drop i.toNat=qi::q.drop (i+1).toNat:=by
    have u:i.toNat<q.length:=by omega
    rw[wZ (by rw[qL];exact u),List.getElem_set_self,yQ (by omega),show(i+1).toNat=i.toNat+1 from by omega]
   rw[a5];simp only[nv];rw[h5];have hz:(b.toNat:Int)+4294967296*rest.toNat=qi.toNat*d.toNat+ri.toNat:=by
    rw[sN a0.1,sN h2,sN a2,sN (show 0<=d by omega),sN a3,g1s qi];omega
   have a9:b.toNat+4294967296*rest.toNat=qi.toNat*d.toNat+ri.toNat:=by
    have:((b.toNat+4294967296*rest.toNat:Nat):Int)=((qi.toNat*d.toNat+ri.toNat:Nat):Int):=by
     rw[wL,wL,uF,uF];exact hz
    exact g0z this
   rw[tF, <-sJ,uH];omega
 . have h:¬0<=i:=qB h';rw[show(i+1).toNat=0 from by omega,tU,tU]at h5;refine⟨trivial, ?_⟩;rintro⟨r,_⟩ _ hr;refine⟨trivial, ?_⟩;rintro⟨s,_⟩ _ hs;simp only at hr hs⊢;have u:rest.toNat<d.toNat:=by omega
   rw[tH]at h5;rw[hr,hs,h5,g1z,tR u,g1y (by omega),tX u,tA];exact⟨rfl,rfl⟩
def Vi (x:A2 O5.args) (hw:awf O5.args x) (hp:O5.pre x):Ma x:=by
 obtain⟨l,s,_⟩:=x;have hl:A5 l:=A3 hw.1.2;change List Int at l;change Int at s;obtain⟨ll,s0,s1⟩:l.length<=17592186044416/\0<=s/\s<=31:=hp;simp only[Ma,iB];rw[wv (a:=(l.length:Int)+1) (by omega)];refine⟨⟨by omega,qI _,by simp;omega,by omega⟩, ?_⟩;have hsp:(2:Nat)^s.toNat<=2^31:=rW (by decide) (by omega);have a3:0<(2:Nat)^s.toNat:=tO (by decide);have u:((2:Int)^s.toNat)=((2^s.toNat:Nat):Int):=by rw[xB];rfl
 refine⟨fun p=>0<=p.2.1/\p.2.1<=(l.length:Int)/\0<=p.1/\p.1<2^s.toNat/\p.2.2.1.length=l.length+1/\nv (p.2.2.1.take p.2.1.toNat)+4294967296^p.2.1.toNat*p.1.toNat=nv (l.take p.2.1.toNat)*2^s.toNat,fun p=>((l.length:Int)-p.2.1).toNat,⟨qI _,qD _,qI _,by show(0:Int)<2^s.toNat;rw[u];omega,by rw[rE];omega,by simp[nv]⟩, ?_⟩;rintro⟨c,i,out,_⟩ ⟨_,_,a4,_⟩ ⟨h0,h1,h2,h3,h4,h5⟩;change Int at c i;change List Int at out;simp only at h0 h1 h2 h3 h4 h5⊢;have hc:c<((2^s.toNat:Nat):Int):=by rw[<-u];exact h3
 refine⟨fun h'=> ?_,fun h'=> ?_⟩
 . have h:i<(l.length:Int):=qA h';have dl:=K6 hl i.toNat;have a0:Min.min (Int.toNat s) u64.bits=s.toNat:=by show Min.min (Int.toNat s) 64= _;omega
   rw[Eu hl h0 h,a0,u];have e0:(dg l i.toNat:Int)*((2^s.toNat:Nat):Int)=((dg l i.toNat*2^s.toNat:Nat):Int):=(uF _ _).symm;have hm:dg l i.toNat*2^s.toNat<=4294967295*2^s.toNat:=rI _ dl;have e3:(((BitVec.ofInt u64.bits c|||BitVec.ofInt u64.bits ((dg l i.toNat*2^s.toNat:Nat):Int)).toNat:Nat):Int)=c+((dg l i.toNat*2^s.toNat:Nat):Int):=by
    have:=ST (v:=c) (b:=(dg l i.toNat:Int)) (k:=s.toNat) h2 h3 (by omega) (by rw[u,e0];omega) (by omega);rw[u,e0]at this;exact this
   rw[W0 (a:=(dg l i.toNat:Int)) (by omega) (by omega),e0,W0 (a:=((dg l i.toNat*2^s.toNat:Nat):Int)) (by omega) (by omega),e3,W0 (by omega) (by omega),kV _ (by omega),wv (by omega),Bo];generalize a1:dg l i.toNat*2^s.toNat=M at*;refine⟨⟨h0,h⟩,s0,⟨h0,by omega⟩,by decide,⟨by omega,by omega,by omega, ?_,by rw[qL];exact h4, ?_⟩,by omega⟩
   . generalize 2^s.toNat=T at*;omega
   . rw[show(i+1).toNat=i.toNat+1 from by omega,Q9 (by omega),H3 l,rZ,uH, <-h5,sJ (4294967296^i.toNat) (dg l i.toNat),a1];generalize 4294967296^i.toNat=P at*;have hd:((c+(M:Int))%4294967296).toNat+4294967296*((c+(M:Int))/4294967296).toNat=c.toNat+M:=by omega
     have a2:=tN (P* ·) hd;simp only[tF, <-sJ]at a2;omega
 . have h:¬i<(l.length:Int):=qB h';rw[qJ,w32 (by omega) (by omega)];refine⟨⟨by omega,by omega⟩,by rw[qL];exact h4, ?_⟩;have e:=Q9 (l:=out) (i:=l.length) (v:=c) (by omega);rw[qR (by rw[qL];omega)]at e;rw[show i.toNat=l.length from by omega,qR (rA l.length)]at h5;rw[e,h5]
def Oh (x:A2 J8.args) (hw:awf J8.args x) (hp:J8.pre x):Hd x:=by
 obtain⟨a,n,_⟩:=x;have ha:A5 a:=A3 hw.1.2;have hn:=(show i64.min<=n/\n<=i64.max from hw.2.1);rw[Ru,Zp]at hn;change List Int at a;change Int at n;have la:a.length<=17592186044416:=hp;have n1:=C7 ha;have a3: -9223372036854775808<=n/\n<=9223372036854775807:=hn;simp only[Hd,iB];refine⟨fun h=> ?_,fun h=>⟨trivial, ?_⟩⟩
 . have h:=qA h;exact⟨fun _=>⟨by trivial,by trivial⟩,fun h1=>by omega⟩
 have h:=qB h;have n0:0<=n:=by omega
 rintro⟨r,_⟩ _ hr;simp only at hr⊢;have e1:i64.wrap (Int.tdiv n 32)=((n.toNat/32:Nat):Int):=by
  rw[yD n0,wv (by omega)];omega
 have e2:(Int.tmod n 32).toNat=n.toNat%32:=by rw[tT n0];omega
 have e3:(0:Int)<=Int.tmod n 32:=yX _ n0;have e4:n.toNat=32*(n.toNat/32)+n.toNat%32:=by omega
 have e5:n.toNat%32<=31:=by omega
 have e6:Min.min (n.toNat%32) u64.bits=n.toNat%32:=by show Min.min (n.toNat%32) 64= _;omega
 rw[e1,e2,e6];have a2:nv r=nv a:=by rw[hr,E1]
 have a1:A5 r:=hr▸H9 _;have a4:r.length<=a.length:=by rw[hr];exact n1
 have a0:=YS (l:=r) a1 (k:=n.toNat/32) (s:=n.toNat%32);rw[<-e4,a2]at a0;clear e1 e2 e6;refine⟨by decide,fun h1=> ?_,fun h1=> ?_⟩
 . have h1:=qA h1;refine⟨fun u=>by omega,fun _=>⟨?_,by trivial⟩⟩;rw[a0,sC (by omega),aX,g3c,N4]
 . have h1:=qB h1;rw[a0];rw[show(((n.toNat/32:Nat):Int)).toNat=n.toNat/32 from qJ _,show((r.length:Int)).toNat=r.length from qJ _,qR (rA _)];have ht:A5 (r.drop (n.toNat/32)):=fun y hy=>a1 y (uW hy)
   have a5:(r.drop (n.toNat/32)).length<=r.length:=by rw[sR];omega
   refine⟨by decide,⟨by omega,by omega,qI _⟩,by decide,⟨by omega,qI _,by omega,by omega⟩, ?_⟩;clear a0 e4;generalize r.drop (n.toNat/32)=t at*;generalize n.toNat%32=s at*;have hX:nv t/2^s<4294967296^t.length:=zD (wO _ _) (Fm ht);refine⟨fun p=>0<=p.1/\p.1<=(t.length:Int)/\p.2.1.length=t.length/\nv (p.2.1.take p.1.toNat)=nv t/2^s%4294967296^p.1.toNat,fun p=>((t.length:Int)-p.1).toNat,⟨qI _,qD _,by simp,by simp[nv];omega⟩, ?_⟩;rintro⟨i,out,_⟩ ⟨_,a6,_⟩ ⟨i0,i1,ol,hv⟩;change Int at i;change List Int at out;simp only at i0 i1 ol hv⊢;have d1:=K6 ht i.toNat;have d2:=K6 ht (i.toNat+1);refine⟨fun u=> ?_,fun u=> ?_⟩
   . have u:=qA u;rw[wv (a:=i+1) (by omega)];refine⟨⟨i0,u⟩,fun p=>p.1=((dg t i.toNat+dg t (i.toNat+1)*4294967296:Nat):Int),⟨fun h3=> ?_,fun h3=> ?_⟩, ?_⟩
     . have h3:=qA h3;refine⟨⟨by omega,h3⟩,by decide, ?_⟩;show u64.wrap _= _;rw[Eu ht i0 u,Eu ht (by omega) h3,show(i+1).toNat=i.toNat+1 from by omega];rw[show Min.min (Int.toNat 32) u64.bits=32 from rfl];rw[W0 (a:=(dg t i.toNat:Int)) (by omega) (by omega),W0 (a:=(dg t (i.toNat+1):Int)) (by omega) (by omega),W0 (a:=(dg t (i.toNat+1):Int)*2^32) (by omega) (by omega)];have:=ST (v:=(dg t i.toNat:Int)) (b:=(dg t (i.toNat+1):Int)) (k:=32) (by omega) (by omega) (by omega) (by omega) (by omega);rw[show u64.bits=64 from rfl,this,W0 (by omega) (by omega)];omega
     . have h3:=qB h3;show u64.wrap _= _;rw[Eu ht i0 u,W0 (by omega) (by omega),Nu (i:=i.toNat+1) (by omega)];omega
     rintro⟨w,_⟩ _ hW;simp only at hW⊢;refine⟨e3,⟨i0,by omega⟩,⟨by omega,by omega,by rw[qL];exact ol, ?_⟩,by omega⟩;rw[show(i+1).toNat=i.toNat+1 from by omega,Q9 (by omega),hv,rZ,Nat.mod_mul,A0j ht _ e5];congr 2;rw[hW,Bo];have:Int.fdiv ((dg t i.toNat+dg t (i.toNat+1)*4294967296:Nat):Int) (2^s)=(((dg t i.toNat+dg t (i.toNat+1)*4294967296)/2^s:Nat):Int):=by
      rw[show((2:Int)^s)=((2^s:Nat):Int)from by rw[xB];rfl,sD _ (qD _)];rfl
     rw[this];generalize (dg t i.toNat+dg t (i.toNat+1)*4294967296)/2^s=Z;omega
   . have u:=qB u;refine⟨trivial, ?_⟩;rintro⟨q,_⟩ _ hq;simp only at hq⊢;refine⟨fun h=>by omega,fun _=>⟨?_,by trivial⟩⟩;rw[show i.toNat=t.length from by omega,qR (by omega),tR hX]at hv;rw[hq,hv]
def VF:An:= {join:= [(4,⟨[],[],[(0,false,[.val (.int .u32)]),(2,false,vI)],[],[]⟩),(7,⟨[],[],[(0,false,[.val (.int .u32)]),(2,false,vI)],[],[]⟩)]}
def Rf:An:= {}
def AN:An:= {}
def FU:An:= {plan:= [(2,[],[],true,(pR 0 3 (pR 5 3 (.p 10 (pR 12 3 (.p 16 (.p 17 (.e 3 (.p 4 (.e 8 (.p 9 (.p 11 (.e 15 (pR 18 3 .done))))))))))))))]}
def CX:An:= {loop:= [(7,⟨[4],[0],[(7,false,vU),(8,false,vU),(9,false,vU),(10,false,vU),(11,false,vU),(12,false,vU),(13,false,vU),(14,false,vU),(15,false,[.val .bool])],[],[]⟩)],plan:= [(9,[],[],true,(pR 0 6 .done))]}
def CW:An:= {}
def Dc:ByteArray:=ByteArray.mk (([(0:UInt8),1,2,2,3,3,3,3,4,4,4,4,4,4,4,4,5,5,5,5,5,5,5,5,5,5,5,5,5,5,5,5,6,6,6,6,6,6,6,6,6,6,6,6,6,6,6,6,6,6,6,6,6,6,6,6,6,6,6,6,6,6,6,6].append [(7:UInt8),7,7,7,7,7,7,7,7,7,7,7,7,7,7,7,7,7,7,7,7,7,7,7,7,7,7,7,7,7,7,7,7,7,7,7,7,7,7,7,7,7,7,7,7,7,7,7,7,7,7,7,7,7,7,7,7,7,7,7,7,7,7,7]).append ([(8:UInt8),8,8,8,8,8,8,8,8,8,8,8,8,8,8,8,8,8,8,8,8,8,8,8,8,8,8,8,8,8,8,8,8,8,8,8,8,8,8,8,8,8,8,8,8,8,8,8,8,8,8,8,8,8,8,8,8,8,8,8,8,8,8,8].append [(8:UInt8),8,8,8,8,8,8,8,8,8,8,8,8,8,8,8,8,8,8,8,8,8,8,8,8,8,8,8,8,8,8,8,8,8,8,8,8,8,8,8,8,8,8,8,8,8,8,8,8,8,8,8,8,8,8,8,8,8,8,8,8,8,8,8])).toArray
def CH:A2 Fw.args->Prop:=fun(x:Int×Unit)=>∃(J:Int×Int×Unit->Prop),((iB (decide (65536<=x.1)) ((0:(Ty.int u64).den)<=(16:Int)/\J (Int.fdiv x.1 ((2:Int)^Min.min ((16:Int).toNat) u32.bits),(16:Int),())) (J (x.1,(0:Int),()))))/\∀(p:Int×Int×Unit),(Ty.int u32).wf p.1/\(Ty.int i64).wf p.2.1/\True->J p->∃(J:Int×Int×Unit->Prop),((iB (decide (256<=p.1)) ((0:(Ty.int u64).den)<=(8:Int)/\J (Int.fdiv p.1 ((2:Int)^Min.min ((8:Int).toNat) u32.bits),i64.wrap (p.2.1+8),())) (J (p.1,p.2.1,()))))/\∀(p:Int×Int×Unit),(Ty.int u32).wf p.1/\(Ty.int i64).wf p.2.1/\True->J p->((0:Int)<=IntKind.u8.wrap p.1/\IntKind.u8.wrap p.1<(↑(Dc).data.toList.length:Int))/\i64.wrap (p.2.1+i64.wrap (DA (Dc) (IntKind.u8.wrap p.1)))=(↑(I7 x.1.toNat):Int)
def Gc:A2 I4.args->Prop:=fun(x:Int×Unit)=>True/\∀(r:Int×Unit),D2 r.1/\True->r.1=(↑(I7 x.1.toNat):Int)->i64.wrap (32-r.1)=(32:Int)-(↑(I7 x.1.toNat):Int)
def Jn:A2 S8.args->Prop:=fun(x:Int×List Int×Unit)=>let c:=(↑x.2.1.length:Int);let b:=(0:Int);let a:=(x.2.1.length:Int);(iB (decide (x.1<a)) ((b<=x.1/\x.1<a)/\u64.wrap (gx b x.2.1 x.1)=if x.1<c then x.2.1.getD x.1.toNat b else b) (b=if x.1<c then x.2.1.getD x.1.toNat b else b))
def Nj:A2 Y6.args->Prop:=fun(x:List Int×Int×Int×Unit)=>let d:=(32:Int);let c:=(2:Int);let b:=(x.1.length:Int);let a:=(0:Int);a<=i64.wrap (x.2.1-1)/\∀(r:Int×Unit),Gy r.1/\True->(r.1=if i64.wrap (x.2.1-1)<b then List.getD x.1 (i64.wrap (x.2.1-1)).toNat a else a)->(0:(Ty.int u64).den)<=d/\a<=i64.wrap (x.2.1-c)/\∀(e:Int×Unit),Gy e.1/\True->(e.1=if i64.wrap (x.2.1-c)<b then List.getD x.1 (i64.wrap (x.2.1-c)).toNat a else a)->(0:(Ty.int i64).den)<=x.2.2.1/\a<=i64.wrap (x.2.1-3)/\∀(f:Int×Unit),Gy f.1/\True->(f.1=if i64.wrap (x.2.1-3)<b then List.getD x.1 (i64.wrap (x.2.1-3)).toNat a else a)->(0:(Ty.int i64).den)<=i64.wrap (d-x.2.2.1)/\u64.wrap (↑(BitVec.ofInt u64.bits (u64.wrap (u64.wrap (↑(BitVec.ofInt u64.bits (u64.wrap (r.1*c^Min.min d.toNat u64.bits)) |||BitVec.ofInt u64.bits e.1).toNat:Int)*c^Min.min x.2.2.1.toNat u64.bits)) |||BitVec.ofInt u64.bits (Int.fdiv f.1 (c^Min.min (i64.wrap (d-x.2.2.1)).toNat u64.bits))).toNat:Int)=(↑(nv x.1*2^x.2.2.1.toNat/(4294967296:Nat)^(x.2.1.toNat-(2:Nat))):Int)
def Lz:A2 V8.args->Prop:=fun(x:List Int×List Int×Unit)=>let k:=(17592186044416:Int);let j:=(2:Nat);let i:=(1:Int);let h:=(4294967296:Nat);let f:=(↑(nv x.1):Int);let e:=(↑(nv x.2.1):Int);let d:=(0:Int);let b:=(x.1.length:Int);(d<=i64.wrap (b-i)/\i64.wrap (b-i)<b)/\True/\∀(r:Int×Unit),D2 r.1/\True->r.1=32-(↑(I7 (gx d x.1 (i64.wrap (b-i))).toNat):Int)->((3:Int)<=b/\b<=b/\b<=k/\d<=r.1/\r.1<=31/\nv x.1*j^Int.toNat r.1<h^b.toNat)/\∀(l:Int×Unit),Gy l.1/\True->l.1=(↑(nv x.1*j^Int.toNat r.1/h^(b.toNat-j)):Int)->((3:Int)<=b/\(x.2.1.length:Int)<=b/\b<=k/\d<=r.1/\r.1<=31/\nv x.2.1*j^Int.toNat r.1<h^b.toNat)/\∀(m:Int×Unit),Gy m.1/\True->m.1=(↑(nv x.2.1*j^Int.toNat r.1/h^(b.toNat-j)):Int)->∃(I:Int×Int×Int×Int×Int×Int×Int×Int×Bool×Unit->Prop),∃(μ: _->Nat),I (l.1,m.1,d,i,d,d,d,i,false,())/\∀(p:Int×Int×Int×Int×Int×Int×Int×Int×Bool×Unit),let g:=(decide (p.2.2.2.2.2.2.2.1<=p.2.1));let c:=(decide (u64.wrap (p.2.2.2.2.2.2.1+p.2.2.2.2.2.2.2.1)<=u64.wrap (p.1-p.2.1)));let a:=(p.2.1,Int.tmod p.1 p.2.1,p.2.2.2.1,p.2.2.2.2.1,u64.wrap (p.2.2.2.1+u64.wrap (u64.wrap (Int.tdiv p.1 p.2.1)*p.2.2.2.2.1)),p.2.2.2.2.2.2.1,p.2.2.2.2.2.2.2.1,u64.wrap (p.2.2.2.2.2.2.1+u64.wrap (u64.wrap (Int.tdiv p.1 p.2.1)*p.2.2.2.2.2.2.2.1)), !p.2.2.2.2.2.2.2.2.1,());(Ty.int u64).wf p.1/\(Ty.int u64).wf p.2.1/\(Ty.int u64).wf p.2.2.1/\(Ty.int u64).wf p.2.2.2.1/\(Ty.int u64).wf p.2.2.2.2.1/\(Ty.int u64).wf p.2.2.2.2.2.1/\(Ty.int u64).wf p.2.2.2.2.2.2.1/\(Ty.int u64).wf p.2.2.2.2.2.2.2.1/\Ty.bool.wf p.2.2.2.2.2.2.2.2.1/\True->I p->(iB (K7 g c false) (p.2.1≠d/\p.2.1≠d/\I a/\μ a<μ p) (p.2.2.2.2.2.1=d\/∃(A':Int),∃(B':Int),(A'=if p.2.2.2.2.2.2.2.2.1=true then p.2.2.1*f-p.2.2.2.2.2.1*e else p.2.2.2.2.2.1*e-p.2.2.1*f)/\(B'=if p.2.2.2.2.2.2.2.2.1=true then p.2.2.2.2.2.2.1*e-p.2.2.2.1*f else p.2.2.2.1*f-p.2.2.2.2.2.2.1*e)/\d<=B'/\B'<=A'/\f=p.2.2.2.2.2.2.1*A'+p.2.2.2.2.2.1*B'/\e=p.2.2.2.1*A'+p.2.2.1*B'/\i<=p.2.2.2.2.2.1/\i<=p.2.2.2.2.2.2.1/\d<=p.2.2.1/\d<=p.2.2.2.1))
def Lx:A2 V7.args->Prop:=fun(x:List Int×Int×List Int×Int×Unit)=>True/\∀(r:List Int×Unit),I5 r.1/\True->r.1=nc x.2.1.toNat->(E6 x.1/\E6 r.1)/\∀(a:List Int×Unit),I5 a.1/\True->a.1=nc (nv x.1*nv r.1)->True/\∀(r:List Int×Unit),I5 r.1/\True->r.1=nc x.2.2.2.1.toNat->(E6 x.2.2.1/\E6 r.1)/\∀(b:List Int×Unit),I5 b.1/\True->b.1=nc (nv x.2.2.1*nv r.1)->(E6 a.1/\E6 b.1)/\∀(r:List Int×Bool×Unit),I5 r.1/\True/\True->(nv a.1<nv b.1->r.1= []/\r.2.1=false)/\(nv b.1<=nv a.1->r.1=nc (nv a.1-nv b.1)/\r.2.1=true)->r.1=nc (nv x.1*x.2.1.toNat-nv x.2.2.1*x.2.2.2.1.toNat)
def B1y:∀k:Fin 256,DA Dc (k.val:Int)=(I7 k.val:Int):=by decide+kernel
def KY (x:A2 Fw.args) (hw:awf Fw.args x) (_:Fw.pre x):CH x:=by
 obtain⟨v,_⟩:=x;change Int at v;have hv:=(show u32.min<=v/\v<=u32.max from hw.1);rw[PD,PC]at hv;simp only[CH,iB];have a1:Int.fdiv v (2^Min.min (Int.toNat 16) u32.bits)=v/65536:=by
  rw[show Min.min (Int.toNat 16) u32.bits=16 from rfl,sD _ (by decide)];rfl
 rw[a1];refine⟨fun p=>0<=p.1/\p.1<65536/\0<=p.2.1/\p.2.1<=16/\(I7 v.toNat:Int)=I7 p.1.toNat+p.2.1,⟨fun h=> ?_,fun h=> ?_⟩, ?_⟩
 . have h:=qA h;have e:=GD (n:=v.toNat) (k:=16) (by omega);refine⟨by decide,by show(0:Int)<=v/65536;omega,by show v/65536<65536;omega,by show(0:Int)<=16;omega,by show(16:Int)<=16;omega, ?_⟩;show(I7 v.toNat:Int)=I7 (v/65536).toNat+16;rw[e,show(v/65536).toNat=v.toNat/2^16 from by omega];omega
 . have h:=qB h;refine⟨by show(0:Int)<=v;omega,by show v<65536;omega,by show(0:Int)<=0;omega,by show(0:Int)<=16;omega, ?_⟩;show(I7 v.toNat:Int)=I7 v.toNat+0;omega
 rintro⟨w,n,_⟩ _ ⟨h0,h1,h2,h3,h4⟩;change Int at w n;simp only at h0 h1 h2 h3 h4⊢;have f8:Int.fdiv w (2^Min.min (Int.toNat 8) u32.bits)=w/256:=by
  rw[show Min.min (Int.toNat 8) u32.bits=8 from rfl,sD _ (by decide)];rfl
 rw[f8,wv (a:=n+8) (by omega)];refine⟨fun p=>0<=p.1/\p.1<256/\0<=p.2.1/\p.2.1<=24/\(I7 v.toNat:Int)=I7 p.1.toNat+p.2.1,⟨fun h=> ?_,fun h=> ?_⟩, ?_⟩
 . have h:=qA h;have e:=GD (n:=w.toNat) (k:=8) (by omega);refine⟨by decide,by show(0:Int)<=w/256;omega,by show w/256<256;omega,by show 0<=n+8;omega,by show n+8<=24;omega, ?_⟩;show(I7 v.toNat:Int)=I7 (w/256).toNat+(n+8);rw[h4,e,show(w/256).toNat=w.toNat/2^8 from by omega];omega
 . have h:=qB h;exact⟨h0,by show w<256;omega,h2,by show n<=24;omega,h4⟩
 rintro⟨u,m,_⟩ _ ⟨g0,g1,g2,g3,g4⟩;change Int at u m;simp only at g0 g1 g2 g3 g4⊢;have w8:IntKind.u8.wrap u=u:=IntWalk.u8_in _ ⟨g0,by omega⟩;have a0:(Dc.data.toList.length:Int)=256:=by decide+kernel
 have ht:=B1y ⟨u.toNat,by omega⟩;simp only at ht;rw[show((u.toNat:Nat):Int)=u from by omega]at ht;have a2:I7 u.toNat<=8:=by
  rcases sF 8 (I7 u.toNat)with h|h
  . have h5:u.toNat≠0:=fun e=>by rw[e,Zd]at h;omega
    have h6:=(Zb h5).1;have h7:2^8<=2^(I7 u.toNat-1):=rW (by decide) (by omega);omega
  . exact h
 rw[w8,ht];refine⟨⟨g0,by rw[a0];exact g1⟩, ?_⟩;rw[wv (a:=(I7 u.toNat:Int)) (by omega),wv (by omega),g4];omega
def PZ {v:Nat} (h:v<4294967296):I7 v<=32:=by
 rcases sF 32 (I7 v)with h1|h1
 . have u:v≠0:=fun e=>by rw[e,Zd]at h1;omega
   have h6:=(Zb u).1;have h7:2^32<=2^(I7 v-1):=rW (by decide) (by omega);omega
 . exact h1
def Mh (x:A2 I4.args) (hw:awf I4.args x) (_:I4.pre x):Gc x:=by
 obtain⟨v,_⟩:=x;change Int at v;have hv:=(show u32.min<=v/\v<=u32.max from hw.1);rw[PD,PC]at hv;simp only[Gc];refine⟨trivial, ?_⟩;rintro⟨r,_⟩ _ u;simp only at u⊢;have:=PZ (v:=v.toNat) (by omega);rw[u,wv (by omega)]
def Tb (x:A2 S8.args) (hw:awf S8.args x) (hp:S8.pre x):Jn x:=by
 obtain⟨i,l,_⟩:=x;have hl:A5 l:=A3 hw.2.1.2;change Int at i;change List Int at l;have u:0<=i:=hp;simp only[Jn,iB];refine⟨fun h=> ?_,fun h=> ?_⟩
 . have h:=qA h;have hb:=Sa hl u h;rw[rB h, <-F9 (d:=(0:Int)) u h,W0 hb.1 (by omega)];exact⟨⟨u,h⟩,rfl⟩
 . have h:=qB h;rw[qT h]
def A7w {l:List Int} (h:A5 l) {i:Int} (u:0<=i):(if i<(l.length:Int)then l.getD i.toNat 0 else 0)=(dg l i.toNat:Int):=by
 split
 . exact W8 h
 . rw[Nu (by omega)];rfl
def Yi (x:A2 Y6.args) (hw:awf Y6.args x) (hp:Y6.pre x):Nj x:=by
 obtain⟨l,n,s,_⟩:=x;have hl:A5 l:=A3 hw.1.2;change List Int at l;change Int at n s;obtain⟨n3,ln,nM,s0,s1,a0⟩:3<=n/\(l.length:Int)<=n/\n<=17592186044416/\0<=s/\s<=31/\nv l*2^s.toNat<4294967296^n.toNat:=hp;simp only[Nj];rw[wv (a:=n-1) (by omega),wv (a:=n-2) (by omega),wv (a:=n-3) (by omega),wv (a:=32-s) (by omega)];refine⟨by omega, ?_⟩;rintro⟨a,_⟩ _ ha;refine⟨by decide,by omega, ?_⟩;rintro⟨b,_⟩ _ hb;refine⟨s0,by omega, ?_⟩;rintro⟨c,_⟩ _ hc;simp only at ha hb hc⊢;rw[A7w hl (by omega)]at ha hb hc;have da:=K6 hl (n-1).toNat;have db:=K6 hl (n-2).toNat;have dc:=K6 hl (n-3).toNat;obtain⟨m,rfl⟩:∃m:Nat,n=(m:Int)+3:=⟨(n-3).toNat,by omega⟩;rw[show((m:Int)+3-1).toNat=m+2 from by omega]at ha da;rw[show((m:Int)+3-2).toNat=m+1 from by omega]at hb db;rw[show((m:Int)+3-3).toNat=m from by omega]at hc dc;rw[show((m:Int)+3).toNat=m+3 from by omega]at a0⊢;rw[show m+3-2=m+1 from by omega];have e3:=nD l (n:=m) (by omega);have a3:=S4 hl m;have hP:0<4294967296^m:=tO (by decide);subst ha hb hc;generalize hA:dg l (m+2)=A at*;generalize hB:dg l (m+1)=B at*;generalize hC:dg l m=C at*;have a7:=A9i (a:=nv l) (low:=nv (l.take m)) (lo:=C) (H:=A*4294967296+B) (P:=4294967296^m) (s:=s.toNat) hP (by rw[e3];grind) a3 (by omega);rw[rZ,a7];have hH:(A*4294967296+B)*2^s.toNat<18446744073709551616:=by
  have h1:(A*4294967296+B)*2^s.toNat*(4294967296^m*4294967296)<=nv l*2^s.toNat:=by
   have:(A*4294967296+B)*(4294967296^m*4294967296)<=nv l:=by rw[e3];grind
   have:=rI (2^s.toNat) this;rwa[zF]at this
  have h2:4294967296^(m+3)=18446744073709551616*(4294967296^m*4294967296):=by
   rw[rZ,rZ,rZ];grind
  rw[h2]at a0;exact wX (zD h1 a0)
 have a4:Min.min (Int.toNat s) u64.bits=s.toNat:=by show Min.min (Int.toNat s) 64= _;omega
 have a1:Min.min (Int.toNat (32-s)) u64.bits=32-s.toNat:=by show Min.min (Int.toNat (32-s)) 64= _;omega
 rw[a4,a1,show Min.min (Int.toNat 32) u64.bits=32 from rfl];have ab:A*4294967296+B<18446744073709551616:=by omega
 have q1:(((BitVec.ofInt u64.bits (u64.wrap ((A:Int)*2^32)) |||BitVec.ofInt u64.bits (B:Int)).toNat:Nat):Int)=((A*4294967296+B:Nat):Int):=by
  rw[W0 (a:=(A:Int)*2^32) (by omega) (by omega)];have:=GZ (v:=(B:Int)) (b:=(A:Int)) (k:=32) (by omega) (by omega) (by omega) (by omega) (by omega);rw[show u64.bits=64 from rfl,this];omega
 rw[q1,W0 (a:=((A*4294967296+B:Nat):Int)) (by omega) (by omega)];have a5:((2:Int)^s.toNat)=((2^s.toNat:Nat):Int):=by rw[xB];rfl
 have u:((A*4294967296+B:Nat):Int)*2^s.toNat=(((A*4294967296+B)*2^s.toNat:Nat):Int):=by rw[a5,uF]
 have q2:Int.fdiv (C:Int) (2^(32-s.toNat))=((C/2^(32-s.toNat):Nat):Int):=by
  have a6:((2:Int)^(32-s.toNat))=((2^(32-s.toNat):Nat):Int):=by rw[xB];rfl
  rw[a6,sD _ (qD _)];rfl
 have a9:C/2^(32-s.toNat)<2^s.toNat:=by
  rw[tL (tO (by decide)), <-AD (by omega)];omega
 have a8:(0:Int)<=(((A*4294967296+B)*2^s.toNat:Nat):Int):=qD _;rw[q2,W0 (a:=((A*4294967296+B:Nat):Int)*2^s.toNat) (by rw[u];omega) (by rw[u];omega)];generalize C/2^(32-s.toNat)=L at*;have a2:(L:Int)<2^s.toNat:=by rw[a5];omega
 have aa:(2:Nat)^s.toNat<=2^31:=rW (by decide) (by omega);have q3:=GZ (v:=(L:Int)) (b:=((A*4294967296+B:Nat):Int)) (k:=s.toNat) (by omega) a2 (by omega) (by rw[u];omega) (by omega);rw[show u64.bits=64 from rfl,q3,u,W0 (a:=(L:Int)+(((A*4294967296+B)*2^s.toNat:Nat):Int)) (Int.add_nonneg (qD _) a8) ?_]
 . constructor
   . exact Int.sub_nonneg.2 (Int.le_trans s1 (by decide))
   . rw[wL];exact Int.add_comm _ _
 . --the shifted number and the digits behind it are below 2^64
   have h2:(18446744073709551616:Nat)=18446744073709551616/2^s.toNat*2^s.toNat:=by
    refine(Nat.div_mul_cancel ?_).symm;exact⟨2^(64-s.toNat),by rw[<-uO,show s.toNat+(64-s.toNat)=64 from by omega]⟩
   have h3:A*4294967296+B<18446744073709551616/2^s.toNat:=by
    rw[h2]at hH;exact wX hH
   have h4:(A*4294967296+B+1)*2^s.toNat<=18446744073709551616:=by
    rw[h2];exact rI _ h3
   rw[uH,wR]at h4;have h5:L+(A*4294967296+B)*2^s.toNat<18446744073709551616:=rG (by rw[vV];exact Nat.add_lt_add_left a9 _) h4;have h6:((L+(A*4294967296+B)*2^s.toNat:Nat):Int)<18446744073709551616:=sB.2 h5;rw[wL]at h6;exact Int.le_of_lt_add_one h6
def Vh (x:A2 V8.args) (hw:awf V8.args x) (hp:V8.pre x):Lz x:=by
 obtain⟨a,b,_⟩:=x;have ha:A5 a:=A3 hw.1.2;have hb:A5 b:=A3 hw.2.1.2;change List Int at a b;obtain⟨la,a3,a5,ad,b6⟩:a.length<=17592186044416/\3<=a.length/\Lq a/\nv b<=nv a/\b.length<=a.length:=hp;simp only[Lz,iB];have ea:i64.wrap ((a.length:Int)-1)=(a.length:Int)-1:=wv (by omega);rw[ea,Eu ha (by omega) (by omega),show((a.length:Int)-1).toNat=a.length-1 from by omega];refine⟨⟨by omega,by omega⟩,trivial, ?_⟩;rintro⟨s,_⟩ _ hs;change Int at s;simp only at hs⊢;rw[qJ]at hs;have hd:=KV ha a5;have b7:=K6 ha (a.length-1);have au:=PZ (v:=dg a (a.length-1)) (by omega);have b5:=(Zb hd).2;have a9:=mR ha (n:=a.length-1) (by omega) (s:=s.toNat) (by omega);rw[show a.length-1+1=a.length from by omega]at a9;have ae:nv b*2^s.toNat<4294967296^a.length:=zD (rI _ ad) a9;have ay:=TU ha a5;rw[qJ];refine⟨⟨by omega,qI _,by omega,by omega,by omega,a9⟩, ?_⟩;rintro⟨X,_⟩ ⟨ac,_⟩ hX;refine⟨⟨by omega,by omega,by omega,by omega,by omega,ae⟩, ?_⟩;rintro⟨Y,_⟩ ⟨ar,_⟩ hY;change Int at X Y;simp only at hX hY ac ar⊢;have hK:s.toNat<=32*(a.length-2):=by omega
 rw[Kf,A0i hK]at hX hY;have a7:0<2^(32*(a.length-2)-s.toNat):=tO (by decide);have a8:0<X:=by
  rw[hX];have h1:=Sg a (n:=a.length-1) (by omega);have h2:2^(32*(a.length-2)-s.toNat)<=nv a:=by
   have h3:2^(32*(a.length-2)-s.toNat)<=4294967296^(a.length-1):=by
    rw[Kf];exact rW (by decide) (by omega)
   have h4:=sW (4294967296^(a.length-1)) (sP hd);omega
  have:=(uU a7).2 (by rw[wR];exact h2);omega
 have aq:Y<=X:=by rw[hX,hY];exact Int.ofNat_le.2 (Nat.div_le_div_right ad)
 have ap:0<=Y:=by rw[hY];exact qD _
 have hA:=wN (nv a) (2^(32*(a.length-2)-s.toNat));have az:=vX (nv a) a7;have hB:=wN (nv b) (2^(32*(a.length-2)-s.toNat));have b3:=vX (nv b) a7;generalize 2^(32*(a.length-2)-s.toNat)=K at*;have b4:X<=18446744073709551615:=by have:=ac.2;rw[AG]at this;exact this
 refine⟨fun p=>∃w,Leh X Y w p.1 p.2.1 p.2.2.1 p.2.2.2.1 p.2.2.2.2.1 p.2.2.2.2.2.1 p.2.2.2.2.2.2.1 p.2.2.2.2.2.2.2.1 p.2.2.2.2.2.2.2.2.1,fun p=>p.2.1.toNat,⟨0,Leh.start ap aq a8⟩, ?_⟩;rintro⟨x,y,u0,u1,u2,v0,v1,v2,ev,_⟩ _ ⟨w,hL⟩;change Int at x y u0 u1 u2 v0 v1 v2;change Bool at ev;simp only at hL⊢;have av:=hL.idX;have aw:=hL.idY;have bd:=hL.yx;have aa:=hL.y0;have bc:=hL.x0;have ai:=hL.u10;have a0:=hL.u20;have a6:=hL.v10;have ak:=hL.v20;have bh:x*1<=x*v2:=tS ak (by omega);have bj:0<=y*v1:=tJ aa a6;have bg:0<=x*u2:=tJ (by omega) a0;have bi:0<=y*u1:=tJ aa ai;have bf:1*v2<=x*v2:=sE (by omega) (by omega);refine⟨fun hc=> ?_,fun _=> ?_⟩
 . rw[L8]at hc;simp only[qC,sA]at hc;obtain⟨c1,c2⟩:=hc;have ab:1<=y:=by omega
   have be:1*v1<=y*v1:=sE ab a6;rw[W0 (a:=v1+v2) (by omega) (by omega),W0 (a:=x-y) (by omega) (by omega)]at c2;have u:=hL.step c1 c2;have b9:=u.idX;have ba:=u.idY;have ah:=u.u20;have bb:=u.v20;have af:0<=x/y:=zU (by omega) aa;have b8:x/y<=x:=Int.ediv_le_self _ (by omega);have ag:=u.y0;have a1:1*(v1+x/y*v2)<=y*(v1+x/y*v2):=sE ab (by omega);have a2:0<=x%y*v2:=tJ ag (by omega);have a3:1*(u1+x/y*u2)<=y*(u1+x/y*u2):=sE ab ah;have a4:0<=x%y*u2:=tJ ag a0;have b1:0<=x/y*v2:=tJ af (by omega);have b2:0<=x/y*u2:=tJ af a0;rw[tT (by omega),IntWalk.u64_quo _ _ ⟨by omega,by omega,by omega⟩];rw[W0 (a:=x/y*u2) b2 (by omega),W0 (a:=x/y*v2) b1 (by omega),W0 (a:=u1+x/y*u2) ah (by omega),W0 (a:=v1+x/y*v2) (by omega) (by omega)];have ax:=zA x (b:=y) (by omega);exact⟨by omega,by omega,⟨x,u⟩,by omega⟩
 . by_cases aj:v0=0
   . exact .inl aj
   . right;have am:(nv a:Int)=X*(K:Int)+((nv a%K:Nat):Int):=by
      rw[hX, <-uF, <-wL,tH,hA]
     have ao:(nv b:Int)=Y*(K:Int)+((nv b%K:Nat):Int):=by
      rw[hY, <-uF, <-wL,tH,hB]
     exact hL.apply aj (P:=(K:Int)) (by omega) (qD _) (by omega) (qD _) (by omega) am ao
def Vg (x:A2 V7.args) (hw:awf V7.args x) (hp:V7.pre x):Lx x:=by
 obtain⟨a,x,b,y,_⟩:=x;have ha:A5 a:=A3 hw.1.2;have hb:A5 b:=A3 hw.2.2.1.2;change List Int at a b;change Int at x y;have hx:=(show u64.min<=x/\x<=u64.max from hw.2.1);have hy:=(show u64.min<=y/\y<=u64.max from hw.2.2.2.1);rw[bR,AG]at hx hy;obtain⟨la,lb,a1⟩:a.length<=8796093022208/\b.length<=8796093022208/\nv b*y.toNat<=nv a*x.toNat:=hp;have n1:=C7 ha;have n2:=C7 hb;have n3:(nc x.toNat).length<=2:=Fl (by omega);have n4:(nc y.toNat).length<=2:=Fl (by omega);have n5:=Nz (nv a) x.toNat;have n6:=Nz (nv b) y.toNat;simp only[Lx];refine⟨trivial, ?_⟩;rintro⟨r,_⟩ _ hr;simp only at hr⊢;subst hr;refine⟨⟨by omega,by omega⟩, ?_⟩;rintro⟨r1,_⟩ _ u;refine⟨trivial, ?_⟩;rintro⟨r,_⟩ _ hr;simp only at hr u⊢;subst hr;refine⟨⟨by omega,by omega⟩, ?_⟩;rintro⟨r2,_⟩ _ a0;simp only at a0⊢;rw[E1]at u a0;subst u a0;refine⟨⟨by omega,by omega⟩, ?_⟩;rintro⟨r,ok,_⟩ _ ⟨_,h2⟩;simp only at h2⊢;rw[E1,E1]at h2;exact(h2 a1).1
noncomputable def Od:H2:= []
def Ns:An:= {join:= [(8,⟨[0,1,5],[0,1,2],[(7,false,vU)],[],[]⟩)],loop:= [(4,⟨[0,1,5],[0,1,2],[(7,false,vU),(8,false,vU)],[],[]⟩),(10,⟨[0,1,5,7,84,85],[0,2],[(9,false,vU),(86,false,vI)],[],[(1, .row (.int .u32) 70)]⟩),(23,⟨[0,5,7,134,135],[0,2],[(9,false,vU),(136,false,vI)],[],[(1, .row (.int .u32) 70)]⟩)],plan:= [(2,[3,10],[],true,(pR 0 3 (.q 3 (pR 4 6 (.q 10 (pR 11 3 .done)))))),(3,[5,13],[],true,(pR 0 5 (.q 5 (pR 6 7 (.q 13 (pR 14 4 .done)))))),(4,[9,18],[],true,(pR 0 9 (.q 9 (pR 10 8 (.q 18 (pR 19 4 .done))))))]}
def Um:An:= {join:= [(12,⟨[4,6,7,8,9,10,35,36],[0],[],[],[(1, .row (.int .u32) 70),(2, .row (.int .u32) 70)]⟩)],loop:= [(8,⟨[4,6,7,8,9,10,35],[0],[(36,false,vI)],[],[(1, .row (.int .u32) 70),(2, .row (.int .u32) 70)]⟩)]}
noncomputable def Ux:H2:= [(83,Bh),(141,I4),(143,O5),(145,J8),(144,Fk (LX ⟨prog,tys⟩ [(53,Od,Ns)] f144.results.toList (f144.body.getD .skip) f144.ntmps))]
def He:A2 O1.args->Prop:=fun(x:List Int×List Int×Unit)=>let L:=(63:Int);let D:=(32:Int);let w:=(2:Int);let u:=D.toNat;let t:=(1:Int);let c:=(0:Int);let b:=(x.2.1.length:Int);let q:Prop:=(c<=i64.wrap (b-c-t)/\i64.wrap (b-c-t)<b-c);(c<=i64.wrap (b-t)/\i64.wrap (b-t)<b)/\True/\∀(r:Int×Unit),D2 r.1/\True->r.1=D-(↑(I7 (gx c x.2.1 (i64.wrap (b-t))).toNat):Int)->(E6 x.2.1/\c<=r.1/\r.1<=31)/\∀(Q:List Int×Unit),let g:=(List.getD Q.1 (c+i64.wrap (b-c-t)).toNat c);I5 Q.1/\True->Q.1.length=List.length x.2.1+1/\nv Q.1=nv x.2.1*2^Int.toNat r.1->(c<=c/\c<=b/\b<=(Q.1.length:Int))/\(E6 x.1/\c<=r.1/\r.1<=31)/\∀(S:List Int×Unit),let n:=(S.1.length:Int);I5 S.1/\True->S.1.length=List.length x.1+1/\nv S.1=nv x.1*2^Int.toNat r.1->(c<=i64.wrap (n-b)/\i64.wrap (n-b)<=i64.wrap (n-b)/\(↑(4:Nat):Int)*i64.wrap (n-b)<=(281474976710656:Int)/\i64.wrap (n-b)<=(9223372036854775807:Int))/\∃(I:Int×List Int×List Int×Unit->Prop),∃(μ: _->Nat),I (c,S.1,List.replicate (i64.wrap (n-b)).toNat c,())/\∀(p:Int×List Int×List Int×Unit),let M:Prop:=(p.1<i64.wrap (n-b));let G:=(p.2.1.length:Int);let a:=(i64.wrap (i64.wrap (n-b)-t)-p.1);let A:Prop:=(c<=i64.wrap a/\i64.wrap a<(p.2.2.1.length:Int));let s:=(i64.wrap a+(b-c));let i:=(u64.wrap (↑(BitVec.ofInt u64.bits (u64.wrap (u64.wrap (List.getD p.2.1 s.toNat c)*w^Min.min u u64.bits)) |||BitVec.ofInt u64.bits (u64.wrap (List.getD p.2.1 (i64.wrap a+i64.wrap (b-c-t)).toNat c))).toNat:Int));let e:=(i64.wrap (i64.wrap a+b)+t);let m:Prop:=(c<=b-c/\b-c<i64.wrap e-i64.wrap a);(Ty.int i64).wf p.1/\I5 p.2.1/\I5 p.2.2.1/\True->I p->(iB (decide M) (∃(J:List Int×List Int×Unit->Prop),((c<=i64.wrap a/\i64.wrap a<=i64.wrap e/\i64.wrap e<=G)/\m/\(0:(Ty.int u64).den)<=D/\(c<=i64.wrap (b-c-t)/\i64.wrap (b-c-t)<i64.wrap e-i64.wrap a)/\q/\u64.wrap g≠c/\q/\u64.wrap g≠c/\∃(J_1:Int×Unit->Prop),(∃(I:Int×Int×Unit->Prop),∃(μ: _->Nat),I (u64.wrap (i.tdiv (u64.wrap g)),i.tmod (u64.wrap g),())/\∀(N:Int×Int×Unit),let z:=(u64.wrap (N.1-t),u64.wrap (N.2.1+u64.wrap g),());let y:Prop:=((u64.wrap (N.2.1+u64.wrap g)).fdiv (w^Min.min u u64.bits)≠c);let k:Prop:=(Int.fdiv N.1 (w^Min.min u u64.bits)≠c);let h:=(decide (u64.wrap (↑(BitVec.ofInt u64.bits (u64.wrap (N.2.1*w^Min.min u u64.bits)) |||BitVec.ofInt u64.bits (u64.wrap (List.getD p.2.1 (i64.wrap a+i64.wrap (b-c-w)).toNat c))).toNat:Int)<u64.wrap (N.1*u64.wrap (List.getD Q.1 (c+i64.wrap (b-c-w)).toNat c))));(Ty.int u64).wf N.1/\(Ty.int u64).wf N.2.1/\True->I N->(0:(Ty.int u64).den)<=D/\(decide k=false->c<=i64.wrap (b-c-w)/\i64.wrap (b-c-w)<b-c)/\(decide k=false->(0:(Ty.int u64).den)<=D)/\(decide k=false->c<=i64.wrap (b-c-w)/\i64.wrap (b-c-w)<i64.wrap e-i64.wrap a)/\(iB (K7 (decide k) true h) (q/\(0:(Ty.int u64).den)<=D/\(iB (decide y) (J_1 (u64.wrap (N.1-t),())) (I z/\μ z<μ N))) (J_1 (N.1,()))))/\∀(N:Int×Unit),(Ty.int u64).wf N.1/\True->J_1 N->∃(I:Int×Int×List Int×Unit->Prop),∃(μ: _->Nat),I (c,c,p.2.1,())/\∀(O:Int×Int×List Int×Unit),let H:=(i64.wrap a+O.2.1);let B:Prop:=(c<=O.2.1/\O.2.1<i64.wrap e-i64.wrap a);let v:=(u64.wrap (u64.wrap (N.1*u64.wrap (List.getD Q.1 (c+O.2.1).toNat c))+O.1));let l:=(u64.wrap (u64.wrap (List.getD O.2.2.1 H.toNat c)-u64.wrap (u32.wrap v)));let j:=(u64.wrap (u64.wrap (List.getD O.2.2.1 s.toNat c)-O.1));let E:Prop:=(j.fdiv (w^Min.min L.toNat u64.bits)=c);let d:=(u64.wrap (v.fdiv (w^Min.min u u64.bits)+l.fdiv (w^Min.min L.toNat u64.bits)),i64.wrap (O.2.1+t),List.set O.2.2.1 H.toNat (u32.wrap l),());(Ty.int u64).wf O.1/\(Ty.int i64).wf O.2.1/\I5 O.2.2.1/\True->I O->(iB (decide (O.2.1<b-c)) ((c<=O.2.1/\O.2.1<b-c)/\B/\B/\(0:(Ty.int u64).den)<=D/\(0:(Ty.int u64).den)<=L/\I d/\μ d<μ O) (m/\m/\(0:(Ty.int u64).den)<=L/\(iB (decide E) (A/\J (List.set O.2.2.1 s.toNat (u32.wrap j),List.set p.2.2.1 (i64.wrap a).toNat (u32.wrap N.1),())) (∃(I:Int×Int×List Int×Unit->Prop),∃(μ: _->Nat),I (c,c,List.set O.2.2.1 s.toNat (u32.wrap j),())/\∀(P:Int×Int×List Int×Unit),let K:=(i64.wrap a+P.2.1);let C:Prop:=(c<=P.2.1/\P.2.1<i64.wrap e-i64.wrap a);let o:=(u64.wrap (P.1+u64.wrap (u64.wrap (List.getD P.2.2.1 K.toNat c)+u64.wrap (List.getD Q.1 (c+P.2.1).toNat c))));let f:=(o.fdiv (w^Min.min u u64.bits),i64.wrap (P.2.1+t),List.set P.2.2.1 K.toNat (u32.wrap o),());(Ty.int u64).wf P.1/\(Ty.int i64).wf P.2.1/\I5 P.2.2.1/\True->I P->(iB (decide (P.2.1<b-c)) ((c<=P.2.1/\P.2.1<b-c)/\C/\C/\(0:(Ty.int u64).den)<=D/\I f/\μ f<μ P) (m/\m/\A/\J (List.set P.2.2.1 s.toNat (u32.wrap (List.getD P.2.2.1 s.toNat c+u32.wrap P.1)),List.set p.2.2.1 (i64.wrap a).toNat (u32.wrap (u64.wrap (N.1-t))),()))))))))/\∀(N:List Int×List Int×Unit),let F:=(i64.wrap (p.1+t),N.1,N.2.1,());I5 N.1/\I5 N.2.1/\True->J N->I F/\μ F<μ p) ((c<=c/\c<=b/\b<=G)/\E6 (List.drop c.toNat (List.take b.toNat p.2.1))/\∀(R:List Int×Bool×Unit),I5 R.1/\True/\True->(r.1<c->R.1= []/\R.2.1=false)/\(c<=r.1->R.1=nc (nv (List.drop c.toNat (List.take b.toNat p.2.1))/(2:Nat)^Int.toNat r.1)/\R.2.1=true)->True/\∀(r:List Int×Unit),I5 r.1/\True->r.1=nc (nv p.2.2.1)->r.1=nc (nv x.1/nv x.2.1)/\R.1=nc (nv x.1%nv x.2.1)))
def A2k {a b:List Int} {N D S:Nat} (ha:A5 a) (hb:A5 b) (hN:b.length=N+2) (hd:dg b (N+1)≠0) (hD:a.length+1=D+(N+2)):nv a*2^S<nv b*2^S*4294967296^D:=by
 have h2:0<2^S:=tO (by decide);have e1:=Sg b (n:=N+1) (by omega);have h3:4294967296^(N+1)<=nv b:=by
  have:=sW (4294967296^(N+1)) (sP hd);omega
 have u:=Fm ha;rw[show a.length=(N+1)+D from by omega,uO]at u;have h5:nv a<nv b*4294967296^D:=rG u (rI _ h3);have h6:=wQ h5 h2;rw[zF]at h6;exact h6
def B0l {A B S q r:Nat} (hB:0<B) (he:A*2^S=q*(B*2^S)+r) (hr:r<B*2^S):q=A/B/\r/2^S=A%B:=by
 have u:0<2^S:=tO (by decide);have e1:q=A/B:=by
  rw[<-zM A B u,he,tH q,g1y (Nat.mul_pos hB u),tX hr,tA]
 refine⟨e1, ?_⟩;have e3:=wN A B;have e4:r=(A%B)*2^S:=by
  have:A*2^S=(B*(A/B)+A%B)*2^S:=by rw[e3]
  rw[this,e1]at he;grind
 rw[e4,Nat.mul_div_cancel _ u]
def B1z {v:List Int} (hv:A5 v) {n:Nat} (h1:4294967296^n<=nv v) (h2:nv v<4294967296^(n+1)):dg v n≠0:=by
 have u:0<4294967296^n:=tO (by decide);rw[JO hv,tR (by rw[tL u,tH, <-rZ];exact h2)];have:=(uU u).2 (by rw[wR];exact h1);omega
def oZ {u:List Int} (hu:A5 u) {m i:Nat} (h:nv u<4294967296^m) (hi:m<=i):dg u i=0:=by
 rw[JO hu,tX (rG h (rW (by decide) hi))]
def YX {x y:Nat} (hx:x<=4294967295) (u:y<=4294967295):u64.wrap (((BitVec.ofInt 64 (u64.wrap ((x:Int)*2^32)) |||BitVec.ofInt 64 (y:Int)).toNat:Nat):Int)=((x*4294967296+y:Nat):Int):=by
 rw[W0 (a:=(x:Int)*2^32) (by omega) (by omega)];have:=GZ (v:=(y:Int)) (b:=(x:Int)) (k:=32) (by omega) (by omega) (by omega) (by omega) (by omega);rw[this,W0 (by omega) (by omega)];omega
def A7k {v:Int} :Int.fdiv v (2^32)=v/4294967296:=by
 rw[sD _ (by decide)];rfl
def B2q {v:Int} :Int.fdiv v (2^63)=v/9223372036854775808:=by
 rw[sD _ (by decide)];rfl
def XV {d x:Nat} (u:d<=4294967295) (hx:x<=4294967295):d*x<=18446744065119617025:=qW (yF u hx) (by decide)
def A6c {d v2 r u:Nat} (hv:v2<=4294967295):K7 (decide ((d:Int)/4294967296≠0)) true (decide (((r*4294967296+u:Nat):Int)<u64.wrap ((d:Int)*(v2:Int))))=decide (4294967296<=d\/r*4294967296+u<d*v2):=by
 rw[K4];rcases sF d 4294967296 with h|h
 . have hm:=XV (d:=d) (x:=v2) (by omega) hv;rw[<-uF,W0 (by omega) (by omega)];have e1:decide ((d:Int)/4294967296≠0)=false:=rH (by omega);rw[e1,wE,vC];omega
 . have e1:decide ((d:Int)/4294967296≠0)=true:=rD (by omega);rw[e1,g0e];exact(rD (.inl h)).symm
def A5z {d x c y:Nat} (hd:d<=4294967295) (hx:x<=4294967295) (hc:c<=d) (hy:y<=4294967295):∃c' s':Nat,
 u64.wrap (Int.fdiv (u64.wrap (u64.wrap ((d:Int)*(x:Int))+(c:Int))) (2^32)+Int.fdiv (u64.wrap ((y:Int)-u64.wrap (u32.wrap (u64.wrap (u64.wrap ((d:Int)*(x:Int))+(c:Int)))))) (2^63))=(c':Int)/\
 u32.wrap (u64.wrap ((y:Int)-u64.wrap (u32.wrap (u64.wrap (u64.wrap ((d:Int)*(x:Int))+(c:Int))))))=(s':Int)/\c'<=d/\y+4294967296*c'=s'+(d*x+c):=by
 have hm:=XV hd hx;obtain⟨b1,u⟩:=A1v (D:=d) (v:=x) (c:=c) (t:=y) (by omega) (by omega) hc;rw[<-uF,W0 (a:=((d*x:Nat):Int)) (by omega) (by omega)];generalize d*x=p at*;rw[W0 (a:=(p:Int)+(c:Int)) (by omega) (by omega),Bo,W0 (a:=((p:Int)+(c:Int))%4294967296) (by omega) (by omega),A7k,B2q,Bp ((y:Int)-_),Bo];refine⟨(p+c)/4294967296+(if y<(p+c)%4294967296 then 1 else 0),if y<(p+c)%4294967296 then y+4294967296-(p+c)%4294967296 else y-(p+c)%4294967296, ?_, ?_,u, ?_⟩
 . rw[W0 (by omega) (by omega)];split<;>omega
 . split<;>omega
 . split<;>omega
def A4a {U P V d:Nat} (u:0<P) (hV:0<V) (h:P*(d*V)<=U):d<=U/P/V:=by
 rw[uU hV,uU u,tH];exact h
def B1n {U P V d:Nat} (u:0<P) (hV:0<V) (h:U<P*(d*V)):U/P/V<d:=by
 rw[tL hV,tL u,tH];exact h
def WT {U0 U W V P d q q':Nat} (he:U0=q*V+U) (hW:W+P*(d*V)=U) (hq:q'=q+P*d) (u:0<P) (hV:0<V) (hd:U/P/V=d):U0=q'*V+W/\W<V*P:=by
 refine⟨by subst hq;rw[he, <-hW];grind, ?_⟩;have h1:¬(P*((d+1)*V)<=U):=fun h=>by have:=A4a u hV h;omega
 have e:P*((d+1)*V)=P*(d*V)+V*P:=by grind
 omega
def A9u {q:List Int} (hq:A5 q) {Q j d:Nat} (u:nv q=Q*4294967296^(j+1)) (hj:j<q.length):nv (q.set j (d:Int))=nv q+4294967296^j*d/\nv (q.set j (d:Int))=(Q*4294967296+d)*4294967296^j:=by
 have hP:0<4294967296^j:=tO (by decide);have h:=Je (l:=q) (k:=j) (v:=(d:Int)) hj;rw[qJ]at h;have h0:dg q j=0:=by
  rw[JO hq,u,rZ,tH (4294967296^j), <-sJ,Nat.mul_div_cancel _ hP,Nat.mul_mod_left]
 rw[h0,wF,tA]at h;refine⟨h, ?_⟩;rw[h,u,rZ];grind
def A1n {x c y:Nat} (hx:x<=4294967295) (u:c<=1) (hy:y<=4294967295):∃c' s':Nat,
 Int.fdiv (u64.wrap ((c:Int)+u64.wrap ((y:Int)+(x:Int)))) (2^32)=(c':Int)/\
 u32.wrap (u64.wrap ((c:Int)+u64.wrap ((y:Int)+(x:Int))))=(s':Int)/\c'<=1/\s'+4294967296*c'=c+(y+x):=by
 rw[W0 (a:=(y:Int)+(x:Int)) (by omega) (by omega),W0 (a:=(c:Int)+((y:Int)+(x:Int))) (by omega) (by omega),A7k,Bo];exact⟨(c+(y+x))/4294967296,(c+(y+x))%4294967296,by omega,by omega,by omega,by omega⟩
def Oi (x:A2 O1.args) (hw:awf O1.args x) (hp:O1.pre x):He x:=by
 obtain⟨a,b,_⟩:=x;have ha:A5 a:=A3 hw.1.2;have hb:A5 b:=A3 hw.2.1.2;change List Int at a b;obtain⟨la,b2,c3,ah⟩:a.length<=17592186044416/\2<=b.length/\b.length<=a.length/\Lq b:=hp;obtain⟨N,hN⟩:∃N,b.length=N+2:=⟨b.length-2,by omega⟩;have hd:=KV hb ah;rw[show b.length-1=N+1 from by omega]at hd;simp only[He,iB,Int.sub_zero,Int.zero_add];rw[wv (a:=(b.length:Int)-1) (by omega),wv (a:=(b.length:Int)-2) (by omega),Eu hb (by omega) (by omega),show((b.length:Int)-1).toNat=N+1 from by omega,show((b.length:Int)-2).toNat=N from by omega];refine⟨⟨by omega,by omega⟩,trivial, ?_⟩;rintro⟨s,_⟩ _ hs;change Int at s;simp only at hs⊢;rw[qJ]at hs;have c4:=K6 hb (N+1);have bv:=PZ (v:=dg b (N+1)) (by omega);have c2:=(Zb hd).2;refine⟨⟨by show b.length<= _;omega,by omega,by omega⟩, ?_⟩;rintro⟨v,_⟩ ⟨bj,_⟩ ⟨az,hv⟩;refine⟨⟨qI _,by omega,by simp only at az⊢;omega⟩,⟨by show a.length<= _;omega,by omega,by omega⟩, ?_⟩;rintro⟨u0,_⟩ ⟨bi,_⟩ ⟨bg,hu⟩;have a0:A5 v:=A3 bj.2;have bz:A5 u0:=A3 bi.2;change List Int at v u0;simp only at az hv bg hu⊢;have a6:nv v<4294967296^(N+2):=by
  rw[hv];exact mR hb (n:=N+1) (by omega) (s:=s.toNat) (by omega)
 have ag:4294967296^(N+1)<=nv v:=by
  have e1:=Sg b (n:=N+1) (by omega);have h3:4294967296^(N+1)<=nv b:=by
   have:=sW (4294967296^(N+1)) (sP hd);omega
  rw[hv];exact qW h3 (Nat.le_mul_of_pos_right _ (tO (by decide)))
 have ay:=B1z a0 ag a6;have a1:0<nv v:=rG (tO (by decide)) ag;obtain⟨D,hD⟩:∃D,u0.length=D+(N+2):=⟨u0.length-(N+2),by omega⟩;have ax:=A2k (S:=s.toNat) ha hb hN hd (D:=D) (by omega);rw[<-hu, <-hv]at ax;rw[wv (a:=(u0.length:Int)-(b.length:Int)) (by omega),show(u0.length:Int)-(b.length:Int)=(D:Int)from by omega];have c0:1<=D:=by omega
 refine⟨⟨by omega,qI _,by omega,by omega⟩, ?_⟩;refine⟨fun p=>0<=p.1/\p.1<=(D:Int)/\p.2.1.length=u0.length/\p.2.2.1.length=D/\nv u0=nv p.2.2.1*nv v+nv p.2.1/\nv p.2.1<nv v*4294967296^((D:Int)-p.1).toNat/\∃Q,nv p.2.2.1=Q*4294967296^((D:Int)-p.1).toNat,fun p=>((D:Int)-p.1).toNat,⟨qI _,qD _,rfl,by simp, ?_, ?_,0, ?_⟩, ?_⟩
 . show nv u0=nv (List.replicate _ 0)*nv v+nv u0;rw[Ph];omega
 . show nv u0<nv v*4294967296^((D:Int)-0).toNat;rw[show((D:Int)-0).toNat=D from by omega];exact ax
 . show nv (List.replicate _ 0)= _;rw[Ph];omega
 rintro⟨k,u,q,_⟩ ⟨_,b1,bh,_⟩ ⟨k0,k1,ul,ql,he,a8,Q,hQ⟩;change Int at k;have a5:A5 u:=A3 b1.2;have aw:A5 q:=A3 bh.2;change List Int at u q;simp only at k0 k1 ul ql he a8 hQ⊢;refine⟨fun hk=> ?_,fun hk=> ?_⟩
 . have hk:=qA hk;obtain⟨j,hj⟩:∃j:Nat,(D:Int)-1-k=(j:Int):=⟨((D:Int)-1-k).toNat,by omega⟩;rw[show((D:Int)-k).toNat=j+1 from by omega]at a8 hQ;rw[wv (a:=(D:Int)-1) (by omega),hj,wv (a:=(j:Int)) (by omega),wv (a:=(j:Int)+(b.length:Int)) (by omega),wv (a:=(j:Int)+(b.length:Int)+1) (by omega),wv (a:=k+1) (by omega)];rw[show((j:Int)+(b.length:Int)).toNat=j+N+2 from by omega,show((j:Int)+((b.length:Int)-1)).toNat=j+N+1 from by omega,show((j:Int)+((b.length:Int)-2)).toNat=j+N from by omega];have c6:j+1<=D:=by omega
   have a7:=B2m a5 a0 (j:=j) (n:=N) (by omega) a6 ay (by omega) a8;have v1b:=K6 a0 (N+1);have v2b:=K6 a0 N;have bs:=K6 a5 (j+N+2);have bt:=K6 a5 (j+N+1);have bu:=K6 a5 (j+N);have a9:0<4294967296^j:=tO (by decide);refine⟨fun p=>p.1.length=u0.length/\p.2.1.length=D/\nv u0=nv p.2.1*nv v+nv p.1/\nv p.1<nv v*4294967296^j/\∃Q,nv p.2.1=Q*4294967296^j, ?_, ?_⟩
   . rw[W8 a0,W8 a0,W8 a5,W8 a5,W8 a5];rw[W0 (a:=(dg v (N+1):Int)) (by omega) (by omega),W0 (a:=(dg v N:Int)) (by omega) (by omega),W0 (a:=(dg u (j+N+2):Int)) (by omega) (by omega),W0 (a:=(dg u (j+N+1):Int)) (by omega) (by omega),W0 (a:=(dg u (j+N):Int)) (by omega) (by omega)];rw[show Min.min (Int.toNat 32) u64.bits=32 from rfl,show Min.min (Int.toNat 63) u64.bits=63 from rfl,show u64.bits=64 from rfl,YX bs bt];refine⟨⟨by omega,by omega,by omega⟩,⟨by omega,by omega⟩,by decide,⟨by omega,by omega⟩,⟨by omega,by omega⟩,by omega,⟨by omega,by omega⟩,by omega, ?_⟩;have ab:=a7.est;have a4:= @VD.near _ _ _ _ _ _ _ a7;have aa:= @VD.dec _ _ _ _ _ _ _ a7;have ac:= @VD.out _ _ _ _ _ _ _ a7;generalize b6:nv u/4294967296^j/nv v=QS at ab a4 aa ac⊢;refine⟨fun p=>QS<=p.1.toNat/\p.1.toNat<=QS+1/\0<=p.1/\p.1<4294967296, ?_, ?_⟩
     . refine⟨fun p=>∃d r:Nat,p.1=(d:Int)/\p.2.1=(r:Int)/\dg u (j+N+2)*4294967296+dg u (j+N+1)=d*dg v (N+1)+r/\QS<=d/\r<4294967296,fun p=>p.1.toNat, ?_, ?_⟩
       . have ai:0<dg v (N+1):=sP ay;have bb:=(uU ai).2 ab;have hm:=vX (dg u (j+N+2)*4294967296+dg u (j+N+1)) ai;have b9:=wN (dg u (j+N+2)*4294967296+dg u (j+N+1)) (dg v (N+1));have bx:=wO (dg u (j+N+2)*4294967296+dg u (j+N+1)) (dg v (N+1));have hT:dg u (j+N+2)*4294967296+dg u (j+N+1)<=18446744073709551615:=by omega
         refine⟨(dg u (j+N+2)*4294967296+dg u (j+N+1))/dg v (N+1),(dg u (j+N+2)*4294967296+dg u (j+N+1))%dg v (N+1), ?_,rfl, ?_,bb,by omega⟩
         . show u64.wrap (Int.tdiv _ _)= _;have e:Int.tdiv ((dg u (j+N+2)*4294967296+dg u (j+N+1):Nat):Int) ((dg v (N+1):Nat):Int)=(((dg u (j+N+2)*4294967296+dg u (j+N+1))/dg v (N+1):Nat):Int):=rfl;rw[e];generalize (dg u (j+N+2)*4294967296+dg u (j+N+1))/dg v (N+1)=z at*;exact W0 (by omega) (by omega)
         . have:=b9.symm;rw[tH (dg v (N+1))]at this;exact this
       . rintro⟨dd,rr,_⟩ ⟨av,_⟩ ⟨d,r,e1,e2,ht,be,hr⟩;change Int at dd rr;simp only at e1 e2 av⊢;subst e1 e2;have bw:(d:Int)<=18446744073709551615:=by have:=av.2;rw[AG]at this;exact this
         rw[A7k,A7k,YX (x:=r) (by omega) bu,A6c v2b];refine⟨by decide,fun _=>⟨by omega,by omega⟩,fun _=>by decide,fun _=>⟨by omega,by omega⟩,fun hc=> ?_,fun hc=> ?_⟩
         . have hc:=qA hc;have c5:=aa ht be hc;rw[W0 (a:=(r:Int)+(dg v (N+1):Int)) (by omega) (by omega),W0 (a:=(d:Int)-1) (by omega) (by omega)];obtain⟨e,rfl⟩:∃e,d=e+1:=⟨d-1,by omega⟩;have ao:dg u (j+N+2)*4294967296+dg u (j+N+1)=e*dg v (N+1)+(r+dg v (N+1)):=by rw[ht,uH,wR];omega
           refine⟨⟨by omega,by omega⟩,by decide,fun h6=> ?_,fun h6=> ?_⟩
           . have h6:=qA h6;obtain⟨o1,o2⟩:=ac ao (by omega) (by omega);have o3:=a4 ao o1 o2;have ee:(((e+1:Nat):Int)-1).toNat=e:=by omega
             refine⟨?_, ?_, ?_, ?_⟩
             . show _ <=(((e+1:Nat):Int)-1).toNat;rw[ee];omega
             . show(((e+1:Nat):Int)-1).toNat<= _;rw[ee];exact o3
             . show(0:Int)<=((e+1:Nat):Int)-1;omega
             . show((e+1:Nat):Int)-1< _;omega
           . have h6:(((r:Int)+(dg v (N+1):Int))/4294967296)=0:=Decidable.of_not_not (qB h6);refine⟨⟨e,r+dg v (N+1),by omega,by omega,ao,by omega,by omega⟩,by omega⟩
         . have hc:=qB hc;have o3:=a4 ht (by omega) (by omega);exact⟨by show _ <=(d:Int).toNat;omega,by show(d:Int).toNat<= _;omega,qD _,by show(d:Int)< _;omega⟩
     . rintro⟨dd,_⟩ _ ⟨d1,d2,d3,d4⟩;change Int at dd;simp only at d1 d2 d3 d4⊢;obtain⟨d,rfl⟩:=uA d3;rw[qJ]at d1 d2;clear ab a4 aa ac;refine⟨fun p=>∃c i:Nat,p.1=(c:Int)/\p.2.1=(i:Int)/\i<=N+2/\c<=d/\p.2.2.1.length=u0.length/\nv p.2.2.1+4294967296^j*(d*nv (v.take i))=nv u+4294967296^(j+i)*c/\∀m,j+i<=m->dg p.2.2.1 m=dg u m,fun p=>((N:Int)+2-p.2.1).toNat,⟨0,0,rfl,rfl,by omega,by omega,ul,by simp[nv],fun _ _=>rfl⟩, ?_⟩;rintro⟨cc,ii,w,_⟩ ⟨_,_,bk,_⟩ ⟨c,i,e1,e2,hi,hc,wl,hE,hK⟩;change Int at cc ii;have af:A5 w:=A3 bk.2;change List Int at w;simp only at e1 e2 hi hc wl hE hK⊢;subst e1 e2;refine⟨fun h1=> ?_,fun h1=> ?_⟩
       . have h1:(i:Int)<(b.length:Int):=qA h1;have xb:=K6 a0 i;have yb:=K6 af (j+i);rw[show((i:Int)).toNat=i from qJ _,show((j:Int)+(i:Int)).toNat=j+i from by omega,W8 a0,W8 af,W0 (a:=(dg v i:Int)) (by omega) (by omega),W0 (a:=(dg w (j+i):Int)) (by omega) (by omega),wv (a:=(i:Int)+1) (by omega)];obtain⟨c',s',q1,q2,q3,q4⟩:=A5z (d:=d) (x:=dg v i) (c:=c) (y:=dg w (j+i)) (by omega) xb hc yb;rw[q1,q2];refine⟨⟨by omega,h1⟩,⟨by omega,by omega⟩,⟨by omega,by omega⟩,by decide,by decide,⟨c',i+1,rfl,by omega,by omega,q3,by rw[qL];exact wl, ?_, ?_⟩,by omega⟩
         . have a3:=Je (l:=w) (k:=j+i) (v:=(s':Int)) (by omega);rw[qJ]at a3;rw[H3,show j+(i+1)=(j+i)+1 from by omega,rZ _ (j+i)];exact A0p hE a3 q4 (uO ..)
         . intro m hm;rw[Wc (by omega),qT (by omega)];exact hK m (by omega)
       . have h1:=qB h1;have ak:i=N+2:=by omega
         subst ak;rw[Ih a0,tR a6]at hE;have ap:=hK (j+N+2) (by omega);rw[W8 af,ap,W0 (a:=(dg u (j+N+2):Int)) (by omega) (by omega),B2q,show((j:Int)).toNat=j from qJ _];have bc:nv u<4294967296^(j+N+3):=by
          refine rG a8 ?_;have e:4294967296^(j+N+3)=4294967296^(N+2)*4294967296^(j+1):=by rw[<-uO];congr 1;omega
          rw[e];exact rI _ (vW a6)
         rw[show j+(N+2)=j+N+2 from by omega]at hE;refine⟨⟨by omega,by omega⟩,⟨by omega,by omega⟩,by decide,fun h2=> ?_,fun h2=> ?_⟩
         . have h2:=qA h2;have au:c<=dg u (j+N+2):=by rw[Bp]at h2;omega
           rw[W0 (a:=(dg u (j+N+2):Int)-(c:Int)) (by omega) (by omega),w32 (a:=(dg u (j+N+2):Int)-(c:Int)) (by omega) (by omega),w32 (a:=(d:Int)) (by omega) (by omega)];have a3:=Je (l:=w) (k:=j+N+2) (v:=(dg u (j+N+2):Int)-(c:Int)) (by omega);rw[ap,show((dg u (j+N+2):Int)-(c:Int)).toNat=dg u (j+N+2)-c from by omega,Nat.mul_sub]at a3;have ar:=sW (4294967296^(j+N+2)) au;have hW:nv (w.set (j+N+2) ((dg u (j+N+2):Int)-(c:Int)))+4294967296^j*(d*nv v)=nv u:=by omega
           have ba:=A4a a9 a1 (U:=nv u) (d:=d) (by omega);obtain⟨s1,s2⟩:=A9u aw (d:=d) hQ (by omega);obtain⟨f1,f2⟩:=WT he hW s1 a9 a1 (by omega);exact⟨⟨by omega,by omega⟩,by show(List.set _ _ _).length= _;rw[qL];exact wl,by show(List.set _ _ _).length= _;rw[qL];exact ql,f1,f2,_,s2⟩
         . have h2:=qB h2;have au:dg u (j+N+2)<c:=by rw[Bp]at h2;omega
           have b5:u32.wrap (u64.wrap ((dg u (j+N+2):Int)-(c:Int)))=((dg u (j+N+2)+4294967296-c:Nat):Int):=by
            rw[Bp,Bo];omega
           rw[b5];have a3:=Je (l:=w) (k:=j+N+2) (v:=((dg u (j+N+2)+4294967296-c:Nat):Int)) (by omega);rw[ap,qJ,Nat.mul_sub,tF]at a3;have ar:=sW (4294967296^(j+N+2)) (show c<=dg u (j+N+2)+4294967296 by omega);rw[tF]at ar;have bq:A5 (w.set (j+N+2) ((dg u (j+N+2)+4294967296-c:Nat):Int)):=XQ af (by show 0<= _ /\ _ <= _;omega);have b3:∀m,j+N+3<=m->dg (w.set (j+N+2) ((dg u (j+N+2)+4294967296-c:Nat):Int)) m=0:=fun m hm=>by
            rw[Wc (by omega),qT (by omega),hK m (by omega)];exact oZ a5 bc hm
           have am:(w.set (j+N+2) ((dg u (j+N+2)+4294967296-c:Nat):Int)).length=u0.length:=by rw[qL];exact wl
           generalize w.set (j+N+2) ((dg u (j+N+2)+4294967296-c:Nat):Int)=w1 at*;have b8:nv w1+4294967296^j*(d*nv v)=nv u+4294967296^(j+N+2)*4294967296:=by omega
           have aq:nv w1<4294967296^(j+N+2)*4294967296:=by
            have h:=S4 bq (j+N+3);rw[LZ b3, <-B3k (j+N)]at h;exact h
           have ba:=B1n a9 a1 (U:=nv u) (d:=d) (by omega);obtain⟨e,rfl⟩:∃e,d=e+1:=⟨d-1,by omega⟩;refine⟨fun p=>∃c i:Nat,p.1=(c:Int)/\p.2.1=(i:Int)/\i<=N+2/\c<=1/\p.2.2.1.length=u0.length/\nv p.2.2.1+4294967296^(j+i)*c=nv w1+4294967296^j*nv (v.take i)/\∀m,j+i<=m->dg p.2.2.1 m=dg w1 m,fun p=>((N:Int)+2-p.2.1).toNat,⟨0,0,rfl,rfl,by omega,by omega,am,by simp[nv],fun _ _=>rfl⟩, ?_⟩;rintro⟨cc,ii,y,_⟩ ⟨_,_,bm,_⟩ ⟨g,i,e1,e2,hi,hg,yl,ae,aj⟩;change Int at cc ii;have ad:A5 y:=A3 bm.2;change List Int at y;simp only at e1 e2 hi hg yl ae aj⊢;subst e1 e2;refine⟨fun h1=> ?_,fun h1=> ?_⟩
           . have h1:(i:Int)<(b.length:Int):=qA h1;have xb:=K6 a0 i;have yb:=K6 ad (j+i);rw[show((i:Int)).toNat=i from qJ _,show((j:Int)+(i:Int)).toNat=j+i from by omega,W8 a0,W8 ad,W0 (a:=(dg v i:Int)) (by omega) (by omega),W0 (a:=(dg y (j+i):Int)) (by omega) (by omega),wv (a:=(i:Int)+1) (by omega)];obtain⟨c',s',q1,q2,q3,q4⟩:=A1n (x:=dg v i) (c:=g) (y:=dg y (j+i)) xb hg yb;rw[q1,q2];refine⟨⟨by omega,h1⟩,⟨by omega,by omega⟩,⟨by omega,by omega⟩,by decide,⟨c',i+1,rfl,by omega,by omega,q3,by rw[qL];exact yl, ?_, ?_⟩,by omega⟩
             . have a2:=Je (l:=y) (k:=j+i) (v:=(s':Int)) (by omega);rw[qJ]at a2;rw[H3,show j+(i+1)=(j+i)+1 from by omega,rZ _ (j+i)];exact nX ae a2 q4 (uO ..)
             . intro m hm;rw[Wc (by omega),qT (by omega)];exact aj m (by omega)
           . have h1:=qB h1;have ak:i=N+2:=by omega
             subst ak;rw[Ih a0,tR a6,show j+(N+2)=j+N+2 from by omega]at ae;have yb:=K6 ad (j+N+2);have ez:u32.wrap ((dg y (j+N+2):Int)+u32.wrap (g:Int))=(((dg y (j+N+2)+g)%4294967296:Nat):Int):=by
              rw[w32 (a:=(g:Int)) (by omega) (by omega),Bo];omega
             have ed:u32.wrap (u64.wrap (((e+1:Nat):Int)-1))=(e:Int):=by
              rw[W0 (by omega) (by omega),w32 (by omega) (by omega)];omega
             rw[W8 ad,ez,ed];have a2:=Je (l:=y) (k:=j+N+2) (v:=(((dg y (j+N+2)+g)%4294967296:Nat):Int)) (by omega);rw[qJ]at a2;obtain⟨o,ho,bd⟩:∃o,dg y (j+N+2)+g=(dg y (j+N+2)+g)%4294967296+4294967296*o/\o<=1:=⟨(dg y (j+N+2)+g)/4294967296,by omega,by omega⟩;have zL:A5 (y.set (j+N+2) (((dg y (j+N+2)+g)%4294967296:Nat):Int)):=XQ ad (by show 0<= _ /\ _ <= _;omega);have bn:∀m,j+N+3<=m->dg (y.set (j+N+2) (((dg y (j+N+2)+g)%4294967296:Nat):Int)) m=0:=fun m hm=>by
              rw[Wc (by omega),qT (by omega),aj m (by omega)];exact b3 m hm
             have bp:(y.set (j+N+2) (((dg y (j+N+2)+g)%4294967296:Nat):Int)).length=u0.length:=by rw[qL];exact yl
             generalize y.set (j+N+2) (((dg y (j+N+2)+g)%4294967296:Nat):Int)=z at*;have b4:nv z<4294967296^(j+N+2)*4294967296:=by
              have h:=S4 zL (j+N+3);rw[LZ bn, <-B3k (j+N)]at h;exact h
             obtain⟨b7,hW⟩:=A1q (U:=nv u) (P:=4294967296^j) (V:=nv v) (e:=e) (M:=4294967296^(j+N+2)) a9 a1 b8 aq (by rw[b6];exact d2) ae a2 ho bd b4;obtain⟨s1,s2⟩:=A9u aw (d:=e) hQ (by omega);obtain⟨f1,f2⟩:=WT he hW s1 a9 a1 b7;exact⟨⟨by omega,by omega⟩,⟨by omega,by omega⟩,⟨by omega,by omega⟩,bp,by show(List.set _ _ _).length= _;rw[qL];exact ql,f1,f2,_,s2⟩
   . rintro⟨u',q',_⟩ _ ⟨j1,j2,j3,j4,Q',j5⟩;simp only at j1 j2 j3 j4 j5⊢;rw[show((D:Int)-(k+1)).toNat=j from by omega];exact⟨⟨by omega,by omega,j1,j2,j3,j4,Q',j5⟩,by omega⟩
 . have hk:=qB hk;rw[show((D:Int)-k).toNat=0 from by omega,g3b,yG]at a8;have bf:0<=s:=by omega
   obtain⟨f1,f2⟩:=B0l (A:=nv a) (B:=nv b) (S:=s.toNat) (q:=nv q) (r:=nv u) (sP (TU hb ah)) (by rw[<-hu, <-hv];exact he) (by rw[<-hv];exact a8);refine⟨⟨qI _,by omega,by omega⟩, ?_, ?_⟩
   . show(List.drop _ (List.take _ _)).length<= _;rw[sR,qU];omega
   rintro⟨m,ok,_⟩ _ hm;refine⟨trivial, ?_⟩;rintro⟨z,_⟩ _ hz;simp only at hm hz⊢;have hm:=(hm.2 bf).1;rw[show(Int.toNat 0)=0 from rfl,tU,show((b.length:Int)).toNat=b.length from qJ _,Ih a5,hN,tR (by omega),f2]at hm;exact⟨by rw[hz,f1],hm⟩
def FR:An:= {plan:= [(8,[],[],true,(pR 0 3 (pR 4 3 (.e 3 (.e 7 (pR 8 3 .done))))))]}
def PO:An:= {join:= [(4,⟨[],[],[(0,false,[.val (.sl (.int .u32))]),(1,false,[.val (.sl (.int .u32))])],[],[]⟩)],loop:= [(7,⟨[],[],[(5,false,vU),(6,false,vU)],[],[]⟩),(4,⟨[],[],[(0,false,[.val (.sl (.int .u32))]),(1,false,[.val (.sl (.int .u32))])],[],[]⟩)],plan:= [(8,[],[],true,(pR 0 6 .done)),(15,[2,5,9,12],[],true,(.p 0 (.p 1 (.q 2 (.p 3 (.p 4 (.q 5 (.p 7 (.p 8 (.q 9 (.p 10 (.p 11 (.q 12 (.e 6 (.e 13 (.p 14 (.p 15 .done))))))))))))))))),(16,[2,5,9,12],[],true,(.p 0 (.p 1 (.q 2 (.p 3 (.p 4 (.q 5 (.p 7 (.p 8 (.q 9 (.p 10 (.p 11 (.q 12 (.e 6 (.e 13 (.p 14 (.p 15 .done)))))))))))))))))]}
def Nh:A2 Y4.args->Prop:=fun(x:List Int×List Int×Unit)=>let e:=(0:Nat);let d:=(nv x.1%nv x.2.1);let c:=(nv x.1/nv x.2.1);let b:=(0:Int);True/\∀(r:List Int×Unit),let f:Prop:=((r.1.length:Int)<=(2:Int));I5 r.1/\True->r.1=nc (nv x.1)->True/\∀(h:List Int×Unit),let a:=(h.1.length:Int);I5 h.1/\True->h.1=nc (nv x.2.1)->(iB (decide (a=b)) ((nv x.2.1=e->Bq Int= []/\Bq Int= []/\false=false)/\(nv x.2.1≠e->Bq Int=nc c/\Bq Int=nc d/\false=true)) (True/\∀(k:Int×Unit),D2 k.1/\True->k.1=Bw (nv r.1) (nv h.1)->(iB (decide (k.1<b)) (Gu r.1/\∀(g:List Int×Unit),I5 g.1/\True->g.1=nc (nv r.1)->(nv x.2.1=e->Bq Int= []/\g.1= []/\true=false)/\(nv x.2.1≠e->Bq Int=nc c/\g.1=nc d/\true=true)) ((iB (decide f) (List.length r.1<=2/\∀(g:Int×Unit),Gy g.1/\True->g.1=(↑(nv r.1):Int)->List.length h.1<=2/\∀(r:Int×Unit),Gy r.1/\True->r.1=(↑(nv h.1):Int)->r.1≠b/\r.1≠b/\True/\∀(i:List Int×Unit),I5 i.1/\True->i.1=nc (u64.wrap (Int.tdiv g.1 r.1)).toNat->True/\∀(j:List Int×Unit),I5 j.1/\True->j.1=nc (Int.tmod g.1 r.1).toNat->(nv x.2.1=e->i.1= []/\j.1= []/\true=false)/\(nv x.2.1≠e->i.1=nc c/\j.1=nc d/\true=true)) ((iB (decide (a=(1:Int))) ((b<=b/\b<a)/\(E6 r.1/\gx b h.1 b≠b)/\∀(g:List Int×List Int×Unit),I5 g.1/\I5 g.2.1/\True->g.1=nc (nv r.1/(gx b h.1 b).toNat)/\g.2.1=nc (nv r.1%(gx b h.1 b).toNat)->(nv x.2.1=e->g.1= []/\g.2.1= []/\true=false)/\(nv x.2.1≠e->g.1=nc c/\g.2.1=nc d/\true=true)) ((E6 r.1/\(2:Nat)<=List.length h.1/\List.length h.1<=List.length r.1/\Lq h.1)/\∀(g:List Int×List Int×Unit),I5 g.1/\I5 g.2.1/\True->g.1=nc (nv r.1/nv h.1)/\g.2.1=nc (nv r.1%nv h.1)->(nv x.2.1=e->g.1= []/\g.2.1= []/\true=false)/\(nv x.2.1≠e->g.1=nc c/\g.2.1=nc d/\true=true)))))))))
def Yd:A2 Dy.args->Prop:=fun(x:List Int×List Int×Unit)=>let e:=(nv x.2.1);let a:=(0:Int);True/\∀(r:List Int×Unit),I5 r.1/\True->r.1=nc (nv x.1)->True/\∀(j:List Int×Unit),I5 j.1/\True->j.1=nc e->∃(J:List Int×List Int×Unit->Prop),(True/\∀(h:Int×Unit),D2 h.1/\True->h.1=Bw (nv r.1) (nv j.1)->(iB (decide (h.1<a)) (J (j.1,r)) (J (r.1,j))))/\∀(p:List Int×List Int×Unit),(Ty.int u32).sl.wf p.1/\(Ty.int u32).sl.wf p.2.1/\True->J p->∃(I:List Int×List Int×Unit->Prop),∃(μ: _->Nat),I (p.1,p.2.1,())/\∀(p:List Int×List Int×Unit),let g:=(↑(nv p.2.1):Int);let d:=(p.2.1.length:Int);let c:Prop:=((p.1.length:Int)<=(2:Int));(Ty.int u32).sl.wf p.1/\(Ty.int u32).sl.wf p.2.1/\True->I p->(iB (decide (a<d)) ((iB (decide c) (List.length p.1<=2/\∀(r:Int×Unit),Gy r.1/\True->r.1=(↑(nv p.1):Int)->List.length p.2.1<=2/\∀(h:Int×Unit),Gy h.1/\True->h.1=g->∃(I:Int×Int×Unit->Prop),∃(μ: _->Nat),I (r.1,h)/\∀(p:Int×Int×Unit),let b:=(p.2.1,Int.tmod p.1 p.2.1,());(Ty.int u64).wf p.1/\(Ty.int u64).wf p.2.1/\True->I p->(iB (decide (p.2.1≠a)) (p.2.1≠a/\I b/\μ b<μ p) (True/\∀(r:List Int×Unit),I5 r.1/\True->r.1=nc p.1.toNat->r.1=nc ((nv x.1).gcd e)))) ((E6 p.1/\(3:Nat)<=List.length p.1/\Lq p.1/\nv p.2.1<=nv p.1/\List.length p.2.1<=List.length p.1)/\∀(r:(Int×Int×Int×Int×Bool)×Unit),(Gy r.1.1/\Gy r.1.2.1/\Gy r.1.2.2.1/\Gy r.1.2.2.2.1/\True)/\True->B0y (↑(nv p.1):Int) g r.1.1 r.1.2.1 r.1.2.2.1 r.1.2.2.2.1 r.1.2.2.2.2->(iB (decide (r.1.2.2.1=a)) (E6 p.1/\∀(r:List Int×List Int×Bool×Unit),let f:=(p.2.1,r.2.1,());I5 r.1/\I5 r.2.1/\True/\True->(nv p.2.1=0->r.1= []/\r.2.1= []/\r.2.2.1=false)/\(nv p.2.1≠0->r.1=nc (nv p.1/nv p.2.1)/\r.2.1=nc (nv p.1%nv p.2.1)/\r.2.2.1=true)->I f/\μ f<μ p) ((iB r.1.2.2.2.2 ((Ae p.1/\Ae p.2.1/\nv p.2.1*Int.toNat r.1.2.2.1<=nv p.1*Int.toNat r.1.1)/\∀(h:List Int×Unit),I5 h.1/\True->h.1=nc (nv p.1*Int.toNat r.1.1-nv p.2.1*Int.toNat r.1.2.2.1)->(Ae p.2.1/\Ae p.1/\nv p.1*Int.toNat r.1.2.1<=nv p.2.1*Int.toNat r.1.2.2.2.1)/\∀(i:List Int×Unit),I5 i.1/\True->i.1=nc (nv p.2.1*Int.toNat r.1.2.2.2.1-nv p.1*Int.toNat r.1.2.1)->I (h.1,i)/\μ (h.1,i)<μ p) ((Ae p.2.1/\Ae p.1/\nv p.1*Int.toNat r.1.1<=nv p.2.1*Int.toNat r.1.2.2.1)/\∀(h:List Int×Unit),I5 h.1/\True->h.1=nc (nv p.2.1*Int.toNat r.1.2.2.1-nv p.1*Int.toNat r.1.1)->(Ae p.1/\Ae p.2.1/\nv p.2.1*Int.toNat r.1.2.2.2.1<=nv p.1*Int.toNat r.1.2.1)/\∀(i:List Int×Unit),I5 i.1/\True->i.1=nc (nv p.1*Int.toNat r.1.2.1-nv p.2.1*Int.toNat r.1.2.2.2.1)->I (h.1,i)/\μ (h.1,i)<μ p))))))) (Gu p.1/\∀(r:List Int×Unit),I5 r.1/\True->r.1=nc (nv p.1)->r.1=nc ((nv x.1).gcd e)))
def Yc (x:A2 Y4.args) (hw:awf Y4.args x) (hp:Y4.pre x):Nh x:=by
 obtain⟨a,b,_⟩:=x;have ha:A5 a:=A3 hw.1.2;have hb:A5 b:=A3 hw.2.1.2;change List Int at a b;have la:a.length<=17592186044416:=hp;have n1:=C7 ha;simp only[Nh,iB];refine⟨trivial, ?_⟩;rintro⟨r,_⟩ _ hr;refine⟨trivial, ?_⟩;rintro⟨s,_⟩ _ hs;simp only at hr hs⊢;have a1:nv r=nv a:=by rw[hr,E1]
 have a2:nv s=nv b:=by rw[hs,E1]
 have a5:r.length<=a.length:=by rw[hr];exact n1
 have ab:A5 r:=hr▸H9 _;have a9:A5 s:=hs▸H9 _;refine⟨fun h=> ?_,fun h=> ?_⟩
 . have h:=qA h;have h0:nv b=0:=by rw[<-a2,qO (l:=s) (by omega)];rfl
   exact⟨fun _=>⟨by trivial,by trivial,by trivial⟩,fun h1=>absurd h0 h1⟩
 have h:=qB h;have a0:nv b≠0:=fun h0=>h (by rw[hs,h0,N4];rfl)
 refine⟨trivial, ?_⟩;rintro⟨d,_⟩ _ hd;simp only at hd⊢;rw[a1,a2]at hd;refine⟨fun h=> ?_,fun h=> ?_⟩
 . have h:=qA h;have a6:nv a<nv b:=by
    rcases sF (nv a) (nv b)with h1|h1
    . exact h1
    . unfold Bw at hd;rw[qT (by omega)]at hd;split at hd<;>omega
   refine⟨qW a5 (qW la (by decide)), ?_⟩;rintro⟨t,_⟩ _ ht;simp only at ht⊢;refine⟨fun h0=>absurd h0 a0,fun _=>⟨?_, ?_,by trivial⟩⟩
   . rw[tX a6,N4]
   . rw[tR a6,ht,a1]
 have h:=qB h;have a8:nv b<=nv a:=by
  rcases sF (nv a) (nv b)with h1|h1
  . rw[Mp h1]at hd;omega
  . exact h1
 have aa:s.length<=r.length:=by rw[hr,hs];exact I2 a8
 refine⟨fun h2=> ?_,fun h2=> ?_⟩
 . have h2:=qA h2;refine⟨by omega, ?_⟩;rintro⟨x,_⟩ ⟨hx,_⟩ a3;refine⟨by omega, ?_⟩;rintro⟨y,_⟩ ⟨hy,_⟩ a4;change Int at x y;simp only at hx hy a3 a4⊢;rw[a1]at a3;rw[a2]at a4;have ac:x<=18446744073709551615:=by have:=hx.2;rw[AG]at this;exact this
   have e1:Int.tdiv x y=((nv a/nv b:Nat):Int):=by rw[a3,a4];rfl
   have e2:Int.tmod x y=((nv a%nv b:Nat):Int):=by rw[a3,a4];rfl
   have hq:nv a/nv b<=nv a:=wO _ _;refine⟨by omega,by omega,trivial, ?_⟩;rintro⟨q,_⟩ _ a7;refine⟨trivial, ?_⟩;rintro⟨m,_⟩ _ hm;simp only at a7 hm⊢;refine⟨fun h0=>absurd h0 a0,fun _=>⟨?_, ?_,by trivial⟩⟩
   . rw[a7,e1];generalize nv a/nv b=Q at*;rw[W0 (by omega) (by omega)];rfl
   . rw[hm,e2];rfl
 have h2:=qB h2;refine⟨fun h3=> ?_,fun h3=> ?_⟩
 . have h3:=qA h3;have e:(gx (0:Int) s (0:Int)).toNat=nv b:=by
    rw[<-a2];obtain⟨z,rfl⟩:∃z,s= [z]:=g1t.1 (by omega);show z.toNat=z.toNat+4294967296*0;omega
   have hg:=Sa a9 (i:=0) (qI _) (by omega);refine⟨⟨qI _,by omega⟩,⟨qW a5 la,by omega⟩, ?_⟩;rintro⟨q,m,_⟩ _ u;simp only at u⊢;rw[e,a1]at u;exact⟨fun h0=>absurd h0 a0,fun _=>⟨u.1,u.2,by trivial⟩⟩
 have h3:=qB h3;refine⟨⟨qW a5 la,by omega,aa,by rw[hs];exact XW a0⟩, ?_⟩;rintro⟨q,m,_⟩ _ u;simp only at u⊢;rw[a1,a2]at u;exact⟨fun h0=>absurd h0 a0,fun _=>⟨u.1,u.2,by trivial⟩⟩
structure cB (A B A' B':Nat):Prop where
 g:Nat.gcd A' B'=Nat.gcd A B
 le:B'<=A'
 lt:A'+B'<A+B
 top:A'<=A
def oX {A B:Nat} (h:B<=A) (u:0<B):cB A B B (A%B) where
 g:=by rw[wP A B,wP B];exact(g2k B A).symm
 le:=vW (vX _ u)
 lt:=by have:=vX A u;omega
 top:=h
def pI {A B:Nat} {u0 u1 v0 v1:Int} {ev:Bool} (hB:0<B) (h:B0y A B u0 u1 v0 v1 ev) (hv:v0≠0):
 (ev=true->B*v0.toNat<=A*u0.toNat/\A*u1.toNat<=B*v1.toNat/\cB A B (A*u0.toNat-B*v0.toNat) (B*v1.toNat-A*u1.toNat))/\
 (ev=false->A*u0.toNat<=B*v0.toNat/\B*v1.toNat<=A*u1.toNat/\cB A B (B*v0.toNat-A*u0.toNat) (A*u1.toNat-B*v1.toNat)):=by
 rcases h with h| ⟨A',B',eA,eB,h0,h1,iA,iB,p1,p2,p3,p4⟩
 . exact absurd h hv
 have hg:=A3c (A:=A) (B:=B) (A':=A') (B':=B') (u0:=u0) (u1:=u1) (v0:=v0) (v1:=v1) (s:=if ev then u0 else -u0) (t:=if ev then -v0 else v0) (p:=if ev then -u1 else u1) (q:=if ev then v1 else -v1) iA iB (by rw[eA];cases ev<;>simp<;>grind) (by rw[eB];cases ev<;>simp<;>grind);obtain⟨U0,rfl⟩:=uA p3;obtain⟨U1,rfl⟩:=uA p4;obtain⟨V0,rfl⟩:=uA (show(0:Int)<=v0 by omega);obtain⟨V1,rfl⟩:=uA (show(0:Int)<=v1 by omega);obtain⟨b,rfl⟩:=uA h0;obtain⟨a,rfl⟩:=uA (Int.le_trans h0 h1);simp only[qJ];have k1:(1:Int)*(a:Int)<=(V1:Int)*a:=sE p2 (by omega);have k2:(1:Int)*(b:Int)<=(V0:Int)*b:=sE p1 (by omega);have m1:∀x y:Nat,((x*y:Nat):Int)=(y:Int)*(x:Int):=fun x y=>by rw[uF,g1s]
 have e1:=m1 A U0;have e2:=m1 B V0;have e3:=m1 A U1;have e4:=m1 B V1;have u:cB A B a b:=⟨hg.symm,by omega,by omega,by omega⟩;refine⟨fun he=> ?_,fun he=> ?_⟩
 . subst he;simp only[xG]at eA eB;have z1:A*U0-B*V0=a:=by omega
   have z2:B*V1-A*U1=b:=by omega
   refine⟨by omega,by omega, ?_⟩;rw[z1,z2];exact u
 . subst he;simp only[vO,yJ]at eA eB;have z1:B*V0-A*U0=a:=by omega
   have z2:A*U1-B*V1=b:=by omega
   refine⟨by omega,by omega, ?_⟩;rw[z1,z2];exact u
def A3d {x y:Int} (hx:0<=x) (u:0<y):Nat.gcd y.toNat (Int.tmod x y).toNat=Nat.gcd x.toNat y.toNat/\(Int.tmod x y).toNat<y.toNat:=by
 obtain⟨a,rfl⟩:=uA hx;obtain⟨b,rfl⟩:=uA (xE u);have e:Int.tmod (a:Int) (b:Int)=((a%b:Nat):Int):=rfl;simp only[e,qJ];have hb:0<b:=by omega
 exact⟨by rw[wP a b,wP b];exact(g2k b a).symm,vX _ hb⟩
structure A1h (G:Nat) (a b:List Int):Prop where
 ea:a=nc (nv a)
 eb:b=nc (nv b)
 le:nv b<=nv a
 g:Nat.gcd (nv a) (nv b)=G
 len:a.length<=8796093022208
def A1h.step {G:Nat} {a b u b':List Int} {A' B':Nat} (h:A1h G a b) (s:cB (nv a) (nv b) A' B') (ha:u=nc A') (hb:b'=nc B'):A1h G u b'/\nv u+nv b'<nv a+nv b:=by
 have e1:nv u=A':=by rw[ha,E1]
 have e2:nv b'=B':=by rw[hb,E1]
 refine⟨⟨by rw[e1];exact ha,by rw[e2];exact hb,by rw[e1,e2];exact s.le,by rw[e1,e2,s.g];exact h.g, ?_⟩,by rw[e1,e2];exact s.lt⟩;have:=I2 s.top;rw[<-h.ea]at this;rw[ha];exact qW this h.len
def HU (x:A2 Dy.args) (hw:awf Dy.args x) (hp:Dy.pre x):Yd x:=by
 obtain⟨a,b,_⟩:=x;have ha:A5 a:=A3 hw.1.2;have hb:A5 b:=A3 hw.2.1.2;change List Int at a b;obtain⟨la,lb⟩:a.length<=8796093022208/\b.length<=8796093022208:=hp;have n1:=C7 ha;have n2:=C7 hb;simp only[Yd,iB];refine⟨trivial, ?_⟩;rintro⟨r,_⟩ _ hr;refine⟨trivial, ?_⟩;rintro⟨s,_⟩ _ hs;simp only at hr hs⊢;have a1:nv r=nv a:=by rw[hr,E1]
 have a2:nv s=nv b:=by rw[hs,E1]
 refine⟨fun p=>A1h (Nat.gcd (nv a) (nv b)) p.1 p.2.1,⟨trivial, ?_⟩, ?_⟩
 . rintro⟨d,_⟩ _ hd;simp only at hd⊢;rw[a1,a2]at hd;refine⟨fun h=> ?_,fun h=> ?_⟩
   . have h:=qA h;refine⟨by rw[a2];exact hs,by rw[a1];exact hr, ?_,by rw[a1,a2,wP],by rw[hs];omega⟩;rw[a1,a2];rcases sF (nv a) (nv b)with h1|h1
     . omega
     . unfold Bw at hd;rw[qT (by omega)]at hd;split at hd<;>omega
   . have h:=qB h;refine⟨by rw[a1];exact hr,by rw[a2];exact hs, ?_,by rw[a1,a2],by rw[hr];omega⟩;rw[a1,a2];rcases sF (nv a) (nv b)with h1|h1
     . rw[Mp h1]at hd;omega
     . exact h1
 rintro⟨a0,b0,_⟩ _ h0;simp only at h0⊢;refine⟨fun p=>A1h (Nat.gcd (nv a) (nv b)) p.1 p.2.1,fun p=>nv p.1+nv p.2.1,h0, ?_⟩;rintro⟨a',b',_⟩ ⟨a7,a8,_⟩ u;have aa:A5 a':=A3 a7.2;have ab:A5 b':=A3 a8.2;change List Int at a' b';simp only at u⊢;have a9:=u.len;have a6:b'.length<=a'.length:=by rw[u.ea,u.eb];exact I2 u.le
 refine⟨fun hc=> ?_,fun hc=> ?_⟩
 . have hc:=qA hc;have hB:0<nv b':=by
    rcases uY (nv b')with h1|h1
    . have:=u.eb;rw[h1,N4]at this;rw[this]at hc;exact absurd hc (by simp)
    . exact h1
   have a4:nv a'≠0:=by have:=u.le;omega
   refine⟨fun h2=> ?_,fun h2=> ?_⟩
   . have h2:=qA h2;refine⟨by omega, ?_⟩;rintro⟨x,_⟩ _ hx;refine⟨by omega, ?_⟩;rintro⟨y,_⟩ _ hy;simp only at hx hy⊢;refine⟨fun p=>0<=p.1/\0<=p.2.1/\Nat.gcd p.1.toNat p.2.1.toNat=Nat.gcd (nv a) (nv b),fun p=>p.2.1.toNat,⟨by show(0:Int)<=x;omega,by show(0:Int)<=y;omega, ?_⟩, ?_⟩
     . show Nat.gcd x.toNat y.toNat= _;rw[hx,hy,qJ,qJ];exact u.g
     rintro⟨X,Y,_⟩ _ ⟨x0,y0,hg⟩;change Int at X Y;simp only at x0 y0 hg⊢;refine⟨fun h3=> ?_,fun h3=> ?_⟩
     . have h3:=qA h3;obtain⟨g1,g2⟩:=A3d x0 (show 0<Y by omega);exact⟨h3,⟨y0,yX _ x0,by rw[g1];exact hg⟩,g2⟩
     . have h3:Y=0:=Decidable.of_not_not (qB h3);refine⟨trivial, ?_⟩;rintro⟨q,_⟩ _ hq;simp only at hq⊢;rw[h3]at hg;rw[hq, <-hg];exact tN nc (g0q _).symm
   . have h2:=qB h2;refine⟨⟨by omega,by omega,by rw[u.ea];exact XW a4,u.le,a6⟩, ?_⟩;rintro⟨⟨u0,u1,v0,v1,ev⟩,_⟩ _ hL;change Int at u0 u1 v0 v1;change Bool at ev;simp only at hL⊢;refine⟨fun h4=> ?_,fun h4=> ?_⟩
     . refine⟨by omega, ?_⟩;rintro⟨q,m,ok,_⟩ _ a3;simp only at a3⊢;obtain⟨_,hm,_⟩:=a3.2 (by omega);exact u.step (oX u.le hB) u.eb hm
     . have h4:=qB h4;obtain⟨w1,w2⟩:=pI hB hL h4;refine⟨fun he=> ?_,fun he=> ?_⟩
       . obtain⟨c1,c2,st⟩:=w1 he;refine⟨⟨by omega,by omega,c1⟩, ?_⟩;rintro⟨p,_⟩ _ hp;refine⟨⟨by omega,by omega,c2⟩, ?_⟩;rintro⟨q,_⟩ _ hq;simp only at hp hq⊢;exact u.step st hp hq
       . obtain⟨c1,c2,st⟩:=w2 he;refine⟨⟨by omega,by omega,c1⟩, ?_⟩;rintro⟨p,_⟩ _ hp;refine⟨⟨by omega,by omega,c2⟩, ?_⟩;rintro⟨q,_⟩ _ hq;simp only at hp hq⊢;exact u.step st hp hq
 . have hc:=qB hc;refine⟨by show a'.length<=35184372088832;omega, ?_⟩;rintro⟨q,_⟩ _ hq;simp only at hq⊢;have a5:nv b'=0:=by rw[qO (l:=b') (by omega)];rfl
   have:=u.g;rw[a5,g0q]at this;rw[hq,this]
def FM:An:= {}
def CU:An:= {}
def NH:An:= {}
def NG:An:= {plan:= [(1,[1,3],[6],true,(.p 0 (.q 1 (.p 2 (.q 3 (.e 4 (.e 5 (.e 6 .done))))))))]}
def PL:An:= {plan:= [(1,[1,4],[7],true,(.p 0 (.q 1 (.p 2 (.p 3 (.q 4 (.e 5 (.e 6 (.e 7 .done)))))))))]}
def PJ:An:= {plan:= [(2,[1,3,5],[8],true,(.p 0 (.q 1 (.p 2 (.q 3 (.p 4 (.q 5 (.e 6 (.e 7 (.e 8 .done))))))))))]}
def PK:An:= {plan:= [(1,[1,3,6,8],[11],true,(.p 0 (.q 1 (.p 2 (.q 3 (.p 4 (.p 5 (.q 6 (.p 7 (.q 8 (.e 9 (.e 10 (.e 11 .done)))))))))))))]}
def CT:An:= {plan:= [(1,[0,2],[],true,(.q 0 (.q 2 (.e 1 (.e 3 (.p 4 (.p 5 .done)))))))]}
def Nb:A2 X7.args->Prop:=fun(x:Bool×List Int×Unit)=>(K7 x.1 (decide ((0:Int)<(x.2.1.length:Int))) false,x.2.1)=(x.1&&decide (x.2.1≠ []),x.2.1)
def Lv:A2 V5.args->Prop:=fun(x:Int×Unit)=>(iB (decide (x.1<0)) (True/\∀(r:List Int×Unit),I5 r.1/\True->r.1=nc (u64.wrap (-u64.wrap x.1)).toNat->True/\∀(a:(Bool×List Int)×Unit),H4 a.1/\True->a.1=(true&&decide (r.1≠ []),r.1)->a.1=ic x.1) (True/\∀(r:List Int×Unit),I5 r.1/\True->r.1=nc (u64.wrap x.1).toNat->True/\∀(a:(Bool×List Int)×Unit),H4 a.1/\True->a.1=(false&&decide (r.1≠ []),r.1)->a.1=ic x.1))
def Tt:A2 Ci.args->Prop:=fun(x:(Bool×List Int)×Unit)=>True/\∀(r:Int×Unit),D2 r.1/\True->r.1=Bw (nv x.1.2) (nv [])->(iB (decide (r.1=0)) ((0:Int)=(iv x.1).sign) ((iB x.1.1 ((-1:Int)=(iv x.1).sign) ((1:Int)=(iv x.1).sign))))
def Ts:A2 Ch.args->Prop:=fun(x:(Bool×List Int)×Unit)=>Gu x.1.2/\∀(r:List Int×Unit),I5 r.1/\True->r.1=nc (nv x.1.2)->True/\∀(a:(Bool×List Int)×Unit),H4 a.1/\True->a.1=(x.1.1&&decide (r.1≠ []),r.1)->a.1=ic (iv x.1)
def Xu:A2 Dv.args->Prop:=fun(x:(Bool×List Int)×Unit)=>Gu x.1.2/\∀(r:List Int×Unit),I5 r.1/\True->r.1=nc (nv x.1.2)->True/\∀(a:(Bool×List Int)×Unit),H4 a.1/\True->a.1=(!x.1.1&&decide (r.1≠ []),r.1)->a.1=ic (-iv x.1)
def Xs:A2 Dt.args->Prop:=fun(x:(Bool×List Int)×(Bool×List Int)×Unit)=>let b:Prop:=(E6 x.1.2/\E6 x.2.1.2);let a:=(iv x.1+iv x.2.1);(iB ((x.1.1==x.2.1.1)) (b/\∀(r:List Int×Unit),I5 r.1/\True->r.1=nc (nv x.1.2+nv x.2.1.2)->True/\∀(c:(Bool×List Int)×Unit),H4 c.1/\True->c.1=(x.1.1&&decide (r.1≠ []),r.1)->c.1=ic a) (b/\∀(r:List Int×Bool×Unit),I5 r.1/\True/\True->(nv x.1.2<nv x.2.1.2->r.1= []/\r.2.1=false)/\(nv x.2.1.2<=nv x.1.2->r.1=nc (nv x.1.2-nv x.2.1.2)/\r.2.1=true)->(iB r.2.1 (True/\∀(c:(Bool×List Int)×Unit),H4 c.1/\True->c.1=(x.1.1&&decide (r.1≠ []),r.1)->c.1=ic a) ((E6 x.2.1.2/\E6 x.1.2)/\∀(r:List Int×Bool×Unit),I5 r.1/\True/\True->(nv x.2.1.2<nv x.1.2->r.1= []/\r.2.1=false)/\(nv x.1.2<=nv x.2.1.2->r.1=nc (nv x.2.1.2-nv x.1.2)/\r.2.1=true)->True/\∀(c:(Bool×List Int)×Unit),H4 c.1/\True->c.1=(x.2.1.1&&decide (r.1≠ []),r.1)->c.1=ic a))))
def Xt:A2 Du.args->Prop:=fun(x:(Bool×List Int)×(Bool×List Int)×Unit)=>(E6 x.1.2/\E6 x.2.1.2)/\∀(r:List Int×Unit),I5 r.1/\True->r.1=nc (nv x.1.2*nv x.2.1.2)->True/\∀(a:(Bool×List Int)×Unit),H4 a.1/\True->a.1=(x.1.1 !=x.2.1.1&&decide (r.1≠ []),r.1)->a.1=ic (iv x.1*iv x.2.1)
def Lu:A2 V4.args->Prop:=fun(x:(Bool×List Int)×(Bool×List Int)×Unit)=>let b:=(iv x.1);let a:=(iv x.2.1);True/\∀(r:Int×Unit),D2 r.1/\True->r.1=b.sign->True/\∀(c:Int×Unit),D2 c.1/\True->c.1=a.sign->(iB (decide (r.1<c.1)) ((-1:Int)=J0 b a) ((iB (decide (c.1<r.1)) ((1:Int)=J0 b a) ((iB (decide (r.1<0)) (True/\∀(r:Int×Unit),D2 r.1/\True->r.1=Bw (nv x.2.1.2) (nv x.1.2)->r.1=J0 b a) (True/\∀(r:Int×Unit),D2 r.1/\True->r.1=Bw (nv x.1.2) (nv x.2.1.2)->r.1=J0 b a))))))
def Xv (x:A2 X7.args) (u:awf X7.args x) (_:X7.pre x):Nb x:=by
 obtain⟨b,l,_⟩:=x;change Bool at b;change List Int at l;simp only[Nb,L8];cases l<;>simp
def Ve (x:A2 V5.args) (hw:awf V5.args x) (_:V5.pre x):Lv x:=by
 obtain⟨v,_⟩:=x;change Int at v;have hv:i64.min<=v/\v<=i64.max:=hw.1;rw[Ru,Zp]at hv;simp only[Lv,iB];refine⟨fun h=>⟨trivial, ?_⟩,fun h=>⟨trivial, ?_⟩⟩
 . rintro⟨r,_⟩ _ u;refine⟨trivial, ?_⟩;rintro⟨s,_⟩ _ hs;simp only at u hs⊢;have h:=qA h;have e:(u64.wrap (-u64.wrap v)).toNat=v.natAbs:=by rw[Bp,Bp];omega
   rw[e]at u;subst hs u;unfold ic;rw[rD h,zS,rD (by rw[ne_eq,Wl];omega)]
 . rintro⟨r,_⟩ _ u;refine⟨trivial, ?_⟩;rintro⟨s,_⟩ _ hs;simp only at u hs⊢;have h:=qB h;have e:(u64.wrap v).toNat=v.natAbs:=by rw[Bp];omega
   rw[e]at u;subst hs u;unfold ic;rw[rH h,g0g]
def EV (x:A2 Ci.args) (hw:awf Ci.args x) (_:Ci.pre x):Tt x:=by
 obtain⟨⟨b,l⟩,_⟩:=x;change Bool at b;change List Int at l;simp only[Tt,iB];refine⟨trivial, ?_⟩;rintro⟨r,_⟩ _ u;simp only at u⊢;rw[aX]at u;refine⟨fun h=> ?_,fun h=>⟨fun hb=> ?_,fun hb=> ?_⟩⟩
 . have h:=qA h;have h0:nv l=0:=RZ.1 (u▸h);unfold iv;simp only[h0];split<;>rfl
 . have h:=qB h;have h0:nv l≠0:=fun e=>h (by rw[u,e];rfl)
   unfold iv;simp only[hb,xG];rw[Int.sign_neg,uG (by omega)]
 . have h:=qB h;have h0:nv l≠0:=fun e=>h (by rw[u,e];rfl)
   unfold iv;simp only[hb];exact(uG (by simp;omega)).symm
def TO {neg:Bool} {m:Nat} {v:Int} (h:v=if neg=true then -(m:Int)else(m:Int)):(neg&&decide (nc m≠ []),nc m)=ic v:=by
 have e:ic (iv (neg,nc m))=(neg&&decide (m≠0),nc m):=A3g;have e2:iv (neg,nc m)=v:=by rw[h];unfold iv;simp only[E1]
 rw[e2]at e;rw[e];have:decide (nc m≠ [])=decide (m≠0):=vC.2 (g3f Wl);rw[this]
def EU (x:A2 Ch.args) (hw:awf Ch.args x) (hp:Ch.pre x):Ts x:=by
 obtain⟨⟨b,l⟩,_⟩:=x;change Bool at b;change List Int at l;simp only[Ts];refine⟨hp, ?_⟩;rintro⟨r,_⟩ _ u;refine⟨trivial, ?_⟩;rintro⟨z,_⟩ _ hz;simp only at u hz⊢;subst u;rw[hz];exact TO rfl
def HP (x:A2 Dt.args) (hw:awf Dt.args x) (hp:Dt.pre x):Xs x:=by
 obtain⟨⟨b,l⟩,⟨c,k⟩,_⟩:=x;change Bool at b c;change List Int at l k;obtain⟨hl,hk⟩:E6 l/\E6 k:=hp;simp only[Xs,iB];refine⟨fun h=> ?_,fun h=> ?_⟩
 . refine⟨⟨hl,hk⟩, ?_⟩;rintro⟨r,_⟩ _ hr;refine⟨trivial, ?_⟩;rintro⟨z,_⟩ _ u;simp only at hr u⊢;have h:b=c:=by simpa using h
   subst hr h;rw[u];refine TO ?_;unfold iv;cases b<;>simp<;>omega
 . have h:c= !b:=by cases b<;>cases c<;>simp_all
   subst h;refine⟨⟨hl,hk⟩, ?_⟩;rintro⟨r,ok,_⟩ _ hr;simp only at hr⊢;refine⟨fun h1=>⟨trivial, ?_⟩,fun h1=>⟨⟨hk,hl⟩, ?_⟩⟩
   . rintro⟨z,_⟩ _ u;simp only at u⊢;rcases sF (nv l) (nv k)with h2|h2
     . rw[(hr.1 h2).2]at h1;exact absurd h1 (by decide)
     . rw[(hr.2 h2).1]at u;rw[u];refine TO ?_;unfold iv;cases b<;>simp<;>omega
   . rintro⟨s,a0,_⟩ _ hs;refine⟨trivial, ?_⟩;rintro⟨z,_⟩ _ u;simp only at hs u⊢;rcases sF (nv l) (nv k)with h2|h2
     . rw[(hs.2 (by omega)).1]at u;rw[u];refine TO ?_;unfold iv;cases b<;>simp<;>omega
     . rw[(hr.2 h2).2]at h1;exact absurd h1 (by decide)
def HQ (x:A2 Du.args) (hw:awf Du.args x) (hp:Du.pre x):Xt x:=by
 obtain⟨⟨b,l⟩,⟨c,k⟩,_⟩:=x;change Bool at b c;change List Int at l k;obtain⟨hl,hk⟩:E6 l/\E6 k:=hp;simp only[Xt];refine⟨⟨hl,hk⟩, ?_⟩;rintro⟨r,_⟩ _ u;refine⟨trivial, ?_⟩;rintro⟨z,_⟩ _ hz;simp only at u hz⊢;subst u;rw[hz];refine TO ?_;unfold iv;cases b<;>cases c<;>simp<;>grind
def AP:An:= {}
def FX:An:= {plan:= [(3,[1],[4],false,(.p 0 (.q 1 (.p 2 (.or 3 (.e 4 (.p 5 .done)) (.e 4 (.e 3 (.p 5 .done))))))))]}
def IW:An:= {}
def FY:An:= {}
def Vr:An:= {join:= [(4,⟨[0,1,4],[0],[(5,false,vU)],[],[]⟩)],loop:= [(5,⟨[0,1,4,5],[0],[(6,false,vU),(7,false,vU)],[],[]⟩)],plan:= [(6,[],[],true,(pR 0 6 .done)),(7,[],[13],true,(pR 0 5 (pR 7 4 (.e 5 (.p 6 (.e 11 (.p 12 (.e 13 .done))))))))]}
def CZ:An:= {join:= [(8,⟨[2,4],[1],[(1,false,[.val (.sl (.int .u32))])],[(0,36,[.val .bool, .val (.sl (.int .u32))])],[]⟩)]}
def IV:An:= {}
def Jp:A2 M7.args->Prop:=fun(x:Int×Unit)=>True/\∀(r:(Bool×List Int)×Unit),H4 r.1/\True->r.1=ic x.1->(r.1,[(1:Int)])=ri x.1
def Nl:A2 Z6.args->Prop:=fun(x:QQ×Unit)=>let d:=(1:Int);let c:=(0:Nat);let b:Prop:=(nv x.1.2=c->x.1.1=zi/\x.1.2= [d]);let a:Prop:=(nv x.1.2≠c->x.1.1=x.1.1/\x.1.2=x.1.2);True/\∀(r:Int×Unit),D2 r.1/\True->r.1=Bw (nv x.1.2) (nv [])->(iB (decide (r.1=0)) ((nv x.1.2=c->(false,[])=zi/\ [d]= [d])/\(nv x.1.2≠c->(false,[])=x.1.1/\ [d]=x.1.2)) ((b/\a)/\b/\a))
def Qz:A2 Ba.args->Prop:=fun(x:QQ×Unit)=>True/\∀(r:(Bool×List Int)×List Int×Unit),H4 r.1/\I5 r.2.1/\True->(nv x.1.2=0->r.1=zi/\r.2.1= [(1:Int)])/\(nv x.1.2≠0->r.1=x.1.1/\r.2.1=x.1.2)->True/\∀(a:Int×Unit),D2 a.1/\True->a.1=(iv r.1).sign->a.1=(rv x.1).num.sign
def Nm:A2 Z7.args->Prop:=fun(x:QQ×Unit)=>let e:=(0:Int);let c:Prop:=(¬H7 x.1->true=false);let b:=(18446744073709551616:Nat);True/\∀(r:Int×Bool×Unit),Gy r.1/\True/\True->(nv x.1.1.2<b->r.1=(↑(nv x.1.1.2):Int)/\r.2.1=true)/\(b<=nv x.1.1.2->r.2.1=false)->True/\∀(f:Int×Bool×Unit),let d:=(decide (2147483648<=f.1));let a:=(K7 (K7 (!r.2.1) true !f.2.1) true (decide (2147483648<=r.1)));Gy f.1/\True/\True->(nv x.1.2<b->f.1=(↑(nv x.1.2):Int)/\f.2.1=true)/\(b<=nv x.1.2->f.2.1=false)->(iB (K7 a true d) ((H7 x.1->e=Pf x.1/\e=Me x.1/\false=true)/\(¬H7 x.1->false=false)) ((iB (decide (f.1=e)) ((H7 x.1->e=Pf x.1/\(1:Int)=Me x.1/\true=true)/\c) ((iB x.1.1.1 ((H7 x.1->i64.wrap (-i64.wrap r.1)=Pf x.1/\i64.wrap f.1=Me x.1/\true=true)/\c) ((H7 x.1->i64.wrap r.1=Pf x.1/\i64.wrap f.1=Me x.1/\true=true)/\c))))))
def Iw:A2 P9.args->Prop:=fun(x:Int×Int×Unit)=>let a:=(0:Int);∃(J:Int×Unit->Prop),((iB (decide (x.1<a)) (J (u64.wrap (-u64.wrap x.1),())) (J (u64.wrap x.1,()))))/\∀(p:Int×Unit),(Ty.int u64).wf p.1/\True->J p->∃(I:Int×Int×Unit->Prop),∃(μ: _->Nat),I (u64.wrap x.2.1,p)/\∀(c:Int×Int×Unit),let b:=(c.2.1,Int.tmod c.1 c.2.1,());(Ty.int u64).wf c.1/\(Ty.int u64).wf c.2.1/\True->I c->(iB (decide (c.2.1≠a)) (c.2.1≠a/\I b/\μ b<μ c) (c.1≠a/\c.1≠a/\True/\∀(r:List Int×Unit),I5 r.1/\True->r.1=nc (u64.wrap (Int.tdiv p.1 c.1)).toNat->True/\∀(d:List Int×Unit),I5 d.1/\True->d.1=nc (u64.wrap ((u64.wrap x.2.1).tdiv c.1)).toNat->((decide (x.1<a),r.1),d.1)=rc (mkRat x.1 x.2.1.toNat)))
def Mb:A2 V9.args->Prop:=fun(x:(Bool×List Int)×List Int×Unit)=>let g:=(0:Nat);let f:=(nv x.2.1);let c:=(1:Int);let b:=(0:Int);Gu x.1.2/\∀(r:(Bool×List Int)×Unit),let d:=(r.1.2.length:Int);H4 r.1/\True->r.1=ic (iv x.1)->Gu x.2.1/\∀(k:List Int×Unit),I5 k.1/\True->k.1=nc f->(iB (decide (d=b)) (((false,[]),[c])=rc (mkRat (iv x.1) f)) ((Ae r.1.2/\Ae k.1)/\∀(h:List Int×Unit),let e:=(decide (gx b h.1 b≠c));let a:=(h.1.length:Int);I5 h.1/\True->h.1=nc ((nv r.1.2).gcd (nv k.1))->∃(J:List Int×Bool×List Int×Unit->Prop),((decide (a≠c)=false->b<=b/\b<a)/\(iB (K7 (decide (a≠c)) true e) (E6 r.1.2/\∀(i:List Int×List Int×Bool×Unit),I5 i.1/\I5 i.2.1/\True/\True->(nv h.1=g->i.1= []/\i.2.1= []/\i.2.2.1=false)/\(nv h.1≠g->i.1=nc (nv r.1.2/nv h.1)/\i.2.1=nc (nv r.1.2%nv h.1)/\i.2.2.1=true)->E6 k.1/\∀(j:List Int×List Int×Bool×Unit),I5 j.1/\I5 j.2.1/\True/\True->(nv h.1=g->j.1= []/\j.2.1= []/\j.2.2.1=false)/\(nv h.1≠g->j.1=nc (nv k.1/nv h.1)/\j.2.1=nc (nv k.1%nv h.1)/\j.2.2.1=true)->J (j.1,r.1.1,i.1,())) (J (k.1,r.1.1,r.1.2,()))))/\∀(p:List Int×Bool×List Int×Unit),(Ty.int u32).sl.wf p.1/\Ty.bool.wf p.2.1/\(Ty.int u32).sl.wf p.2.2.1/\True->J p->((p.2.1,p.2.2.1),p.1)=rc (mkRat (iv x.1) f)))
def Qy:A2 U2.args->Prop:=fun(x:QQ×Unit)=>True/\∀(r:Int×Int×Bool×Unit),D2 r.1/\D2 r.2.1/\True/\True->(H7 x.1->r.1=Pf x.1/\r.2.1=Me x.1/\r.2.2.1=true)/\(¬H7 x.1->r.2.2.1=false)->(iB r.2.2.1 (0<r.2.1/\∀(a:QQ×Unit),L6 a.1/\True->a.1=rc (mkRat r.1 r.2.1.toNat)->a.1=rc (rv x.1)) (True/\∀(r:(Bool×List Int)×List Int×Unit),H4 r.1/\I5 r.2.1/\True->(nv x.1.2=0->r.1=zi/\r.2.1= [(1:Int)])/\(nv x.1.2≠0->r.1=x.1.1/\r.2.1=x.1.2)->(nv r.2.1≠0/\Ae r.1.2/\Ae r.2.1)/\∀(a:QQ×Unit),L6 a.1/\True->a.1=rc (mkRat (iv r.1) (nv r.2.1))->a.1=rc (rv x.1)))
def Td (x:A2 M7.args) (hw:awf M7.args x) (_:M7.pre x):Jp x:=by
 obtain⟨v,_⟩:=x;simp only[Jp];refine⟨trivial, ?_⟩;rintro⟨r,_⟩ _ u;simp only at u⊢;rw[u];rfl
def Yo (x:A2 Z6.args) (hw:awf Z6.args x) (_:Z6.pre x):Nl x:=by
 obtain⟨⟨a,l⟩,_⟩:=x;change List Int at l;simp only[Nl,iB];refine⟨trivial, ?_⟩;rintro⟨r,_⟩ _ hr;simp only at hr⊢;rw[aX]at hr;refine⟨fun h=> ?_,fun h=> ?_⟩
 . have u:nv l=0:=RZ.1 (hr▸qA h);exact⟨fun _=>⟨rfl,by trivial⟩,fun h=>absurd u h⟩
 . have u:nv l≠0:=fun e=>(qB h) (by rw[hr,e];rfl)
   exact⟨⟨fun h=>absurd h u,fun _=>⟨by trivial,by trivial⟩⟩,fun h=>absurd h u,fun _=>⟨by trivial,by trivial⟩⟩
def BR (x:A2 Ba.args) (hw:awf Ba.args x) (_:Ba.pre x):Qz x:=by
 obtain⟨⟨a,l⟩,_⟩:=x;change List Int at l;simp only[Qz];refine⟨trivial, ?_⟩;rintro⟨r,d,_⟩ _ ⟨hr,u⟩;refine⟨trivial, ?_⟩;rintro⟨s,_⟩ _ hs;simp only at hr u hs⊢;rw[hs, <-A8t];unfold B1r;split
 . rename_i h;rw[(hr h).1];rfl
 . rename_i h;rw[(u h).1]
def Yp (x:A2 Z7.args) (hw:awf Z7.args x) (_:Z7.pre x):Nm x:=by
 obtain⟨⟨⟨b,a⟩,l⟩,_⟩:=x;change Bool at b;change List Int at a l;simp only[Nm,iB];refine⟨trivial, ?_⟩;rintro⟨u,ok,_⟩ _ ⟨h1,h2⟩;refine⟨trivial, ?_⟩;rintro⟨v,a0,_⟩ _ ⟨h3,h4⟩;change Int at u v;change Bool at ok a0;simp only at h1 h2 h3 h4⊢;have hs:K7 (K7 (K7 (!ok) true !a0) true (decide (2147483648<=u))) true (decide (2147483648<=v))=(!ok|| !a0||decide (2147483648<=u) ||decide (2147483648<=v)):=by simp only[K4]
 rw[hs];have key:(!ok|| !a0||decide (2147483648<=u) ||decide (2147483648<=v))=false->H7 ((b,a),l)/\u=(nv a:Int)/\v=(nv l:Int):=fun h=>by
  simp only[rK,g0h,rR]at h;obtain⟨⟨⟨e1,e2⟩,e3⟩,e4⟩:=h;have ha:nv a<18446744073709551616:=by
   rcases sF (nv a) 18446744073709551616 with h|h
   . exact h
   . rw[h2 h]at e1;cases e1
  have hl:nv l<18446744073709551616:=by
   rcases sF (nv l) 18446744073709551616 with h|h
   . exact h
   . rw[h4 h]at e2;cases e2
  have q1:=(h1 ha).1;have q3:=(h3 hl).1;exact⟨⟨by show nv a< _;omega,by show nv l< _;omega⟩,q1,q3⟩
 have a3:H7 ((b,a),l)->(!ok|| !a0||decide (2147483648<=u) ||decide (2147483648<=v))=false:=fun h=>by
  obtain⟨g1,g2⟩:=h;change nv a< _ at g1;change nv l< _ at g2;obtain⟨q1,q2⟩:=h1 (by omega);obtain⟨q3,q4⟩:=h3 (by omega);simp only[rK,g0h,rR];exact⟨⟨⟨q2,q4⟩,by omega⟩,by omega⟩
 refine⟨fun h=>⟨fun hs=> ?_,fun _=>trivial⟩,fun h=> ?_⟩
 . rw[a3 hs]at h;cases h
 . obtain⟨a2,hu,hv⟩:=key h;have a1:=a2;obtain⟨g1,g2⟩:=a2;change nv a< _ at g1;change nv l< _ at g2;refine⟨fun hz=> ?_,fun hz=>⟨fun hb=> ?_,fun hb=> ?_⟩⟩
   . have hz:=qA hz;have h0:nv l=0:=by omega
     exact⟨fun _=>⟨by unfold Pf;rw[rB h0],by unfold Me;rw[rB h0],trivial⟩,fun h=>absurd a1 h⟩
   . have hz:=qB hz;have h0:nv l≠0:=by omega
     refine⟨fun _=>⟨?_, ?_,trivial⟩,fun h=>absurd a1 h⟩
     . unfold Pf;rw[qT h0,wv (a:=u) (by omega),wv (by omega)];unfold iv;simp only[hb,xG];omega
     . unfold Me;rw[qT h0,wv (by omega)];exact hv
   . have hz:=qB hz;have h0:nv l≠0:=by omega
     refine⟨fun _=>⟨?_, ?_,trivial⟩,fun h=>absurd a1 h⟩
     . unfold Pf;rw[qT h0,wv (a:=u) (by omega)];unfold iv;simp only[hb];simpa using hu
     . unfold Me;rw[qT h0,wv (by omega)];exact hv
def Ra (x:A2 P9.args) (hw:awf P9.args x) (hp:P9.pre x):Iw x:=by
 obtain⟨n,d,_⟩:=x;change Int at n d;have d0:0<d:=hp;have hn:=(show i64.min<=n/\n<=i64.max from hw.1);have a1:=(show i64.min<=d/\d<=i64.max from hw.2.1);rw[Ru,Zp]at hn a1;obtain⟨n0,n1⟩:=hn;have d1:=a1.2;have i1:i64.min= -9223372036854775808:=Ru;simp only[Iw,iB];refine⟨fun p=>p.1=(n.natAbs:Int),⟨fun h=> ?_,fun h=> ?_⟩, ?_⟩
 . have h:=qA h;show u64.wrap (-u64.wrap n)= _;rw[Bp,Bp];omega
 . have h:=qB h;show u64.wrap n= _;rw[Bp];omega
 rintro⟨s,_⟩ _ hs;simp only at hs⊢;subst hs;have hd:u64.wrap d=d:=W0 (by omega) (by omega);refine⟨fun p=>0<=p.1/\0<=p.2.1/\(p.1≠0\/p.2.1≠0)/\p.1.toNat.gcd p.2.1.toNat=d.toNat.gcd n.natAbs,fun p=>p.2.1.toNat, ?_, ?_⟩
 . refine⟨by omega,by show(0:Int)<=(n.natAbs:Int);omega, .inl (by omega), ?_⟩;rw[hd];rfl
 rintro⟨g,t,_⟩ _ ⟨h0,h1,h2,h3⟩;change Int at g t;simp only at h0 h1 h2 h3⊢;refine⟨fun h=> ?_,fun h=> ?_⟩
 . have h:=qA h;have e:Int.tmod g t=g%t:=tT h0;have e2:=g1w g h;have e3:=zA g (b:=t) (by omega);rw[e];refine⟨h,⟨h1,e2, .inl h, ?_⟩,by omega⟩;rw[<-h3,Int.toNat_emod h0 h1,wP t.toNat, <-g2k,wP]
 . have h:t=0:=by simpa using h
   subst h;have hg:g≠0:=by omega
   refine⟨hg,hg,trivial, ?_⟩;rintro⟨r,_⟩ _ hr;refine⟨trivial, ?_⟩;rintro⟨q,_⟩ _ hq;simp only at hr hq⊢;have hG:g.toNat=d.toNat.gcd n.natAbs:=by rw[<-h3];simp
   have a5:0<g:=by omega
   have a2:g=((d.toNat.gcd n.natAbs:Nat):Int):=by omega
   obtain⟨hn,a4⟩:=Mo (x:=n) (d:=d.toNat) (by omega);have e1:(u64.wrap (Int.tdiv (n.natAbs:Int) g)).toNat=n.natAbs/d.toNat.gcd n.natAbs:=by
    rw[IntWalk.u64_quo _ _ ⟨by omega,by omega,by omega⟩,a2, <-Int.natCast_ediv,qJ]
   have e2:(u64.wrap (Int.tdiv d g)).toNat=d.toNat/d.toNat.gcd n.natAbs:=by
    rw[IntWalk.u64_quo _ _ ⟨by omega,by omega,by omega⟩,a2]
    conv=>lhs;rw[show d=((d.toNat:Nat):Int)from by omega]
    rw[<-Int.natCast_ediv,qJ];simp only[qJ]
   rw[hr,hq,hd,e1,e2];unfold rc;rw[hn,a4];unfold ic;have u:((d.toNat.gcd n.natAbs:Nat):Int)∣n:=xM.2 (yB ..);have a0:0<d.toNat.gcd n.natAbs:=by omega
   generalize d.toNat.gcd n.natAbs=G at u a0;obtain⟨c,rfl⟩:=u;rw[xH _ (by omega)];have a3:(G:Int)*c<0↔c<0:=by
    constructor
    . intro h;rcases g2w c 0 with h1|h1
      . exact h1
      . have:=tJ (xE (sB.2 a0)) h1;omega
    . intro h;exact yM (by omega) h
   rw[vH,uP,xK _ a0];simp only[a3]
def Sf (x:C0):mkRat (Pf x) (Me x).toNat=rv x:=by
 unfold Pf Me rv;split
 . rename_i h;rw[h,yH];rfl
 . rename_i h;rw[qJ]
def A4s (x:C0):0<Me x:=by
 unfold Me;split
 . decide
 . omega
def Vj (x:A2 V9.args) (hw:awf V9.args x) (hp:V9.pre x):Mb x:=by
 obtain⟨⟨b,l⟩,k,_⟩:=x;have hl:A5 l:=A3 hw.1.2.2;have hk:A5 k:=A3 hw.2.1.2;change Bool at b;change List Int at l k;obtain⟨hD,ll,lk⟩:nv k≠0/\l.length<=8796093022208/\k.length<=8796093022208:=hp;simp only[Mb,iB];have nl:=C7 hl;have nk:=C7 hk;refine⟨by show l.length<=35184372088832;omega, ?_⟩;rintro⟨⟨s,r⟩,_⟩ _ hr;refine⟨by show k.length<=35184372088832;omega, ?_⟩;rintro⟨d,_⟩ _ hd;simp only at hr hd⊢;have a4:s=decide (iv (b,l)<0):=tN (·.1) hr;have a3:r=nc (iv (b,l)).natAbs:=tN (·.2) hr;have ea:(iv (b,l)).natAbs=nv l:=H5 _;have u:nv r=(iv (b,l)).natAbs:=by rw[a3,E1]
 have a0:nv d=nv k:=by rw[hd,E1]
 have a7:r.length<=l.length:=by rw[a3,ea];exact nl
 have a5:d.length<=k.length:=by rw[hd];exact nk
 refine⟨fun h=> ?_,fun h=> ?_⟩
 . have h:=qA h;have h0:r= []:=qO (by omega);rw[h0,aX]at u;have:iv (b,l)=0:=Int.natAbs_eq_zero.1 u.symm;rw[this,Rat.zero_mkRat,nI]
 have h:=qB h;refine⟨⟨by omega,by omega⟩, ?_⟩;rintro⟨g,_⟩ _ hg;simp only at hg⊢;rw[u,a0]at hg;have a6:Nat.gcd (iv (b,l)).natAbs (nv k)≠0:=Nat.ne_of_gt (g1a _ (sP hD));have a1:nv g=Nat.gcd (iv (b,l)).natAbs (nv k):=by rw[hg,E1]
 refine⟨fun p=>((p.2.1,p.2.2.1),p.1)=rc (mkRat (iv (b,l)) (nv k)),⟨fun h1=> ?_,fun h1=> ?_,fun h1=> ?_⟩, ?_⟩
 . have h1:=qB h1;exact⟨qI _,by omega⟩
 . refine⟨by show r.length<= _;omega, ?_⟩;rintro⟨q,m,ok,_⟩ _ hq;refine⟨by show d.length<= _;omega, ?_⟩;rintro⟨q',m',a8,_⟩ _ a2;simp only at hq a2⊢;rw[bI hD,(hq.2 (by omega)).1,(a2.2 (by omega)).1,u,a0,a1,a4]
 . have h1:g.length=1/\gx 0 g 0=1:=by
    rw[K4]at h1;simp only[rK,rR]at h1;omega
   obtain⟨z,rfl⟩:∃z,g= [z]:=g1t.1 h1.1;have hz:z=1:=h1.2;subst hz;have h2:Nat.gcd (iv (b,l)).natAbs (nv k)=1:=by rw[<-a1];rfl
   rw[A8q hD h2];show((s,r),d)= _;rw[hd, <-hr]
 . rintro⟨a,s',c,_⟩ _ hJ;exact hJ
def BQ (x:A2 U2.args) (hw:awf U2.args x) (hp:U2.pre x):Qy x:=by
 obtain⟨q,_⟩:=x;change C0 at q;obtain⟨h1,h2⟩:q.1.2.length<=2199023255552/\q.2.length<=2199023255552:=hp;simp only[Qy,iB];refine⟨trivial, ?_⟩;rintro⟨n,d,ok,_⟩ _ ⟨s1,s2⟩;change Int at n d;simp only at s1 s2⊢;refine⟨fun h=> ?_,fun h=>⟨trivial, ?_⟩⟩
 . have hs:H7 q:=qX fun hn=>by rw[s2 hn]at h;cases h
   obtain⟨rfl,rfl,_⟩:=s1 hs;refine⟨A4s q, ?_⟩;rintro⟨r,_⟩ _ hr;simp only at hr⊢;rw[hr,Sf]
 . rintro⟨n',d',_⟩ _ u;simp only at u⊢;obtain⟨a0,hv⟩:=Ku u;obtain⟨l1,l2⟩:=Hm (k:=2199023255552) u h1 h2 (by decide);refine⟨⟨a0,by show n'.2.length<= _;omega,by show d'.length<= _;omega⟩, ?_⟩;rintro⟨r,_⟩ _ hr;simp only at hr⊢;rw[hr,hv]
def NM:An:= {plan:= [(13,[0,4],[10],true,(.q 0 (.p 1 (.p 2 (.q 4 (.p 5 (.p 6 (.or 3 (.or 7 (.or 8 (.e 9 (.e 10 .done)) (.e 9 (.e 8 (.e 10 .done)))) (.e 9 (.e 7 (.e 8 (.e 10 .done))))) (.e 9 (.e 3 (.e 7 (.e 8 (.e 10 .done))))))))))))),(14,[0],[5],true,(.q 0 (.p 1 (.p 2 (.e 3 (.e 4 (.e 5 .done)))))))]}
def NS:An:= {}
def NP:An:= {}
def NQ:An:= {}
def AO:An:= {plan:= [(1,[0,2],[],true,(.q 0 (.q 2 (.e 1 (.e 3 (.p 4 (.p 5 .done))))))),(10,[0,4],[],true,(.q 0 (.p 1 (.p 2 (.q 4 (.p 5 (.p 6 (.e 3 (.e 7 (.e 8 (.p 9 .done)))))))))))]}
def NO:An:= {}
def NN:An:= {}
def Tz:A2 Cm.args->Prop:=fun(x:QQ×QQ×Unit)=>let g:=(0:Int);let e:=(0:Nat);let a:=(rv x.1+rv x.2.1);True/\∀(r:Int×Unit),D2 r.1/\True->r.1=(rv x.1).num.sign->(iB (decide (r.1=g)) (F3 x.2.1/\∀(r:QQ×Unit),L6 r.1/\True->r.1=rc (rv x.2.1)->r.1=rc a) (True/\∀(r:Int×Unit),D2 r.1/\True->r.1=(rv x.2.1).num.sign->(iB (decide (r.1=g)) (F3 x.1/\∀(r:QQ×Unit),L6 r.1/\True->r.1=rc (rv x.1)->r.1=rc a) (True/\∀(r:Int×Int×Bool×Unit),D2 r.1/\D2 r.2.1/\True/\True->(H7 x.1->r.1=Pf x.1/\r.2.1=Me x.1/\r.2.2.1=true)/\(¬H7 x.1->r.2.2.1=false)->True/\∀(q:Int×Int×Bool×Unit),D2 q.1/\D2 q.2.1/\True/\True->(H7 x.2.1->q.1=Pf x.2.1/\q.2.1=Me x.2.1/\q.2.2.1=true)/\(¬H7 x.2.1->q.2.2.1=false)->(iB (K7 r.2.2.1 q.2.2.1 false) (g<i64.wrap (r.2.1*q.2.1)/\∀(m:QQ×Unit),L6 m.1/\True->m.1=rc (mkRat (i64.wrap (i64.wrap (r.1*q.2.1)+i64.wrap (q.1*r.2.1))) (i64.wrap (r.2.1*q.2.1)).toNat)->m.1=rc a) (True/\∀(r:(Bool×List Int)×List Int×Unit),H4 r.1/\I5 r.2.1/\True->(nv x.1.2=e->r.1=zi/\r.2.1= [(1:Int)])/\(nv x.1.2≠e->r.1=x.1.1/\r.2.1=x.1.2)->True/\∀(m:(Bool×List Int)×List Int×Unit),let j:Prop:=(E6 r.1.2/\E6 m.2.1);let h:=(iv r.1*iv (false,m.2.1));let f:Prop:=(E6 m.1.2/\E6 r.2.1);let d:=(iv m.1*iv (false,r.2.1));let c:=(nv r.2.1*nv m.2.1);let b:Prop:=(E6 r.2.1/\E6 m.2.1);H4 m.1/\I5 m.2.1/\True->(nv x.2.1.2=e->m.1=zi/\m.2.1= [(1:Int)])/\(nv x.2.1.2≠e->m.1=x.2.1.1/\m.2.1=x.2.1.2)->True/\∀(s:Int×Unit),D2 s.1/\True->s.1=Bw (nv r.2.1) (nv m.2.1)->(iB (decide (s.1=g)) ((E6 r.1.2/\E6 m.1.2)/\∀(p:(Bool×List Int)×Unit),H4 p.1/\True->p.1=ic (iv r.1+iv m.1)->(nv r.2.1≠e/\Ae p.1.2/\Ae r.2.1)/\∀(o:QQ×Unit),L6 o.1/\True->o.1=rc (mkRat (iv p.1) (nv r.2.1))->o.1=rc a) ((j/\∀(p:(Bool×List Int)×Unit),H4 p.1/\True->p.1=ic h->(f/\∀(o:(Bool×List Int)×Unit),let k:=(iv p.1+iv o.1);let i:Prop:=(E6 p.1.2/\E6 o.1.2);H4 o.1/\True->o.1=ic d->(i/\∀(n:(Bool×List Int)×Unit),H4 n.1/\True->n.1=ic k->b/\∀(l:List Int×Unit),I5 l.1/\True->l.1=nc c->(nv l.1≠e/\Ae n.1.2/\Ae l.1)/\∀(r:QQ×Unit),L6 r.1/\True->r.1=rc (mkRat (iv n.1) (nv l.1))->r.1=rc a)/\i/\∀(n:(Bool×List Int)×Unit),H4 n.1/\True->n.1=ic k->b/\∀(l:List Int×Unit),I5 l.1/\True->l.1=nc c->(nv l.1≠e/\Ae n.1.2/\Ae l.1)/\∀(r:QQ×Unit),L6 r.1/\True->r.1=rc (mkRat (iv n.1) (nv l.1))->r.1=rc a)/\f/\∀(o:(Bool×List Int)×Unit),H4 o.1/\True->o.1=ic d->(E6 p.1.2/\E6 o.1.2)/\∀(n:(Bool×List Int)×Unit),H4 n.1/\True->n.1=ic (iv p.1+iv o.1)->b/\∀(l:List Int×Unit),I5 l.1/\True->l.1=nc c->(nv l.1≠e/\Ae n.1.2/\Ae l.1)/\∀(r:QQ×Unit),L6 r.1/\True->r.1=rc (mkRat (iv n.1) (nv l.1))->r.1=rc a)/\j/\∀(p:(Bool×List Int)×Unit),H4 p.1/\True->p.1=ic h->f/\∀(o:(Bool×List Int)×Unit),H4 o.1/\True->o.1=ic d->(E6 p.1.2/\E6 o.1.2)/\∀(n:(Bool×List Int)×Unit),H4 n.1/\True->n.1=ic (iv p.1+iv o.1)->b/\∀(l:List Int×Unit),I5 l.1/\True->l.1=nc c->(nv l.1≠e/\Ae n.1.2/\Ae l.1)/\∀(r:QQ×Unit),L6 r.1/\True->r.1=rc (mkRat (iv n.1) (nv l.1))->r.1=rc a))))))))
def Ue:A2 Co.args->Prop:=fun(x:QQ×QQ×Unit)=>let a:=((!x.2.1.1.1,x.2.1.1.2),x.2.1.2);(F3 x.1/\F3 a)/\∀(r:QQ×Unit),L6 r.1/\True->r.1=rc (rv x.1+rv a)->r.1=rc (rv x.1-rv x.2.1)
def Uc:A2 Y9.args->Prop:=fun(x:QQ×QQ×Unit)=>let b:=(rv x.1*rv x.2.1);let a:=(0:Nat);True/\∀(r:Int×Int×Bool×Unit),D2 r.1/\D2 r.2.1/\True/\True->(H7 x.1->r.1=Pf x.1/\r.2.1=Me x.1/\r.2.2.1=true)/\(¬H7 x.1->r.2.2.1=false)->True/\∀(d:Int×Int×Bool×Unit),D2 d.1/\D2 d.2.1/\True/\True->(H7 x.2.1->d.1=Pf x.2.1/\d.2.1=Me x.2.1/\d.2.2.1=true)/\(¬H7 x.2.1->d.2.2.1=false)->(iB (K7 r.2.2.1 d.2.2.1 false) ((0:Int)<i64.wrap (r.2.1*d.2.1)/\∀(c:QQ×Unit),L6 c.1/\True->c.1=rc (mkRat (i64.wrap (r.1*d.1)) (i64.wrap (r.2.1*d.2.1)).toNat)->c.1=rc b) (True/\∀(r:(Bool×List Int)×List Int×Unit),H4 r.1/\I5 r.2.1/\True->(nv x.1.2=a->r.1=zi/\r.2.1= [(1:Int)])/\(nv x.1.2≠a->r.1=x.1.1/\r.2.1=x.1.2)->True/\∀(c:(Bool×List Int)×List Int×Unit),H4 c.1/\I5 c.2.1/\True->(nv x.2.1.2=a->c.1=zi/\c.2.1= [(1:Int)])/\(nv x.2.1.2≠a->c.1=x.2.1.1/\c.2.1=x.2.1.2)->(E6 r.1.2/\E6 c.1.2)/\∀(f:(Bool×List Int)×Unit),H4 f.1/\True->f.1=ic (iv r.1*iv c.1)->(E6 r.2.1/\E6 c.2.1)/\∀(e:List Int×Unit),I5 e.1/\True->e.1=nc (nv r.2.1*nv c.2.1)->(nv e.1≠a/\Ae f.1.2/\Ae e.1)/\∀(r:QQ×Unit),L6 r.1/\True->r.1=rc (mkRat (iv f.1) (nv e.1))->r.1=rc b))
def Ud:A2 Z4.args->Prop:=fun(x:QQ×Unit)=>F3 x.1/\∀(r:QQ×Unit),L6 r.1/\True->r.1=rc (rv x.1)->Gu r.1.1.2/\∀(a:(Bool×List Int)×Unit),H4 a.1/\True->a.1=ic (-iv r.1.1)->(a.1,r.1.2)=rc (-rv x.1)
def Jo:A2 S9.args->Prop:=fun(x:QQ×QQ×Unit)=>let c:=(0:Nat);let b:=(rv x.1);let a:=(rv x.2.1);True/\∀(r:Int×Unit),D2 r.1/\True->r.1=b.num.sign->True/\∀(f:Int×Unit),D2 f.1/\True->f.1=a.num.sign->(iB (decide (r.1≠f.1)) (True/\∀(e:Int×Unit),D2 e.1/\True->e.1=J0 r.1 f.1->e.1=QC b a) (True/\∀(r:Int×Int×Bool×Unit),D2 r.1/\D2 r.2.1/\True/\True->(H7 x.1->r.1=Pf x.1/\r.2.1=Me x.1/\r.2.2.1=true)/\(¬H7 x.1->r.2.2.1=false)->True/\∀(e:Int×Int×Bool×Unit),D2 e.1/\D2 e.2.1/\True/\True->(H7 x.2.1->e.1=Pf x.2.1/\e.2.1=Me x.2.1/\e.2.2.1=true)/\(¬H7 x.2.1->e.2.2.1=false)->(iB (K7 r.2.2.1 e.2.2.1 false) (True/\∀(d:Int×Unit),D2 d.1/\True->d.1=J0 (i64.wrap (r.1*e.2.1)) (i64.wrap (e.1*r.2.1))->d.1=QC b a) (True/\∀(r:(Bool×List Int)×List Int×Unit),H4 r.1/\I5 r.2.1/\True->(nv x.1.2=c->r.1=zi/\r.2.1= [(1:Int)])/\(nv x.1.2≠c->r.1=x.1.1/\r.2.1=x.1.2)->True/\∀(d:(Bool×List Int)×List Int×Unit),H4 d.1/\I5 d.2.1/\True->(nv x.2.1.2=c->d.1=zi/\d.2.1= [(1:Int)])/\(nv x.2.1.2≠c->d.1=x.2.1.1/\d.2.1=x.2.1.2)->(E6 r.1.2/\E6 d.2.1)/\∀(g:(Bool×List Int)×Unit),H4 g.1/\True->g.1=ic (iv r.1*iv (false,d.2.1))->(E6 d.1.2/\E6 r.2.1)/\∀(h:(Bool×List Int)×Unit),H4 h.1/\True->h.1=ic (iv d.1*iv (false,r.2.1))->True/\∀(r:Int×Unit),D2 r.1/\True->r.1=J0 (iv g.1) (iv h.1)->r.1=QC b a))))
def Ub:A2 Y8.args->Prop:=fun(x:QQ×Unit)=>let a:=(rv x.1);True/\∀(r:Int×Unit),D2 r.1/\True->r.1=a.num.sign->(iB (decide (r.1=0)) ((rv x.1=(0:Rat)->false=false)/\(rv x.1≠(0:Rat)->dQ=rc a⁻¹/\false=true)) (F3 x.1/\∀(r:QQ×Unit),L6 r.1/\True->r.1=rc a->(rv x.1=(0:Rat)->true=false)/\(rv x.1≠(0:Rat)->((r.1.1.1,r.1.2),r.1.1.2)=rc a⁻¹/\true=true)))
def Ua:A2 Cn.args->Prop:=fun(x:QQ×QQ×Unit)=>let b:=(rv x.1/rv x.2.1);let a:=((x.2.1.1.1,x.2.1.2),x.2.1.1.2);True/\∀(r:Int×Unit),D2 r.1/\True->r.1=(rv x.2.1).num.sign->(iB (decide (r.1=0)) ((rv x.2.1=(0:Rat)->false=false)/\(rv x.2.1≠(0:Rat)->dQ=rc b/\false=true)) ((F3 x.1/\F3 a)/\∀(r:QQ×Unit),L6 r.1/\True->r.1=rc (rv x.1*rv a)->(rv x.2.1=(0:Rat)->true=false)/\(rv x.2.1≠(0:Rat)->r.1=rc b/\true=true)))
def MJ {q:Rat} (h:q.num.sign=0):q=0:=zX.1 (yN.1 h)
def Ke {x:C0} (h:H7 x): -2147483647<=Pf x/\Pf x<=2147483647/\0<Me x/\Me x<=2147483647:=by
 obtain⟨h1,u⟩:=h;have:=H5 x.1;unfold Pf Me;split
 . omega
 . omega
def Pd {a b M N:Int} (h1: -M<=a) (h2:a<=M) (u:0<=b) (h4:b<=N): -(M*N)<=a*b/\a*b<=M*N:=by
 have hM:0<=M:=by omega
 have a1:M*b<=M*N:=tS h4 hM;have a2:a*b<=M*b:=sE h2 u;have a3: -M*b<=a*b:=sE h1 u;rw[Int.neg_mul]at a3;omega
def A0l {a b c d:Int} (ha: -2147483647<=a/\a<=2147483647) (hb: -2147483647<=b/\b<=2147483647) (hc:0<c/\c<=2147483647) (u:0<d/\d<=2147483647):
 i64.wrap (c*d)=c*d/\0<c*d/\i64.wrap (i64.wrap (a*d)+i64.wrap (b*c))=a*d+b*c:=by
 have h1:=Pd ha.1 ha.2 (xE u.1) u.2;have h2:=Pd hb.1 hb.2 (xE hc.1) hc.2;have h3:=Pd (a:=c) (b:=d) (M:=2147483647) (by omega) hc.2 (xE u.1) u.2;have h4:0<c*d:=Int.mul_pos hc.1 u.1;rw[wv (a:=c*d) (by omega),wv (a:=a*d) (by omega),wv (a:=b*c) (by omega),wv (by omega)];exact⟨rfl,h4,rfl⟩
def FA (x:A2 Cm.args) (hw:awf Cm.args x) (hp:Cm.pre x):Tz x:=by
 obtain⟨p,q,_⟩:=x;have ag:A5 p.1.2:=A3 hw.1.1.2.2;have ah:A5 p.2:=A3 hw.1.2.2;have ai:A5 q.1.2:=A3 hw.2.1.1.2.2;have aj:A5 q.2:=A3 hw.2.1.2.2;change C0 at p q;obtain⟨a7,a8⟩:F3 p/\F3 q:=hp;obtain⟨a3,a4⟩:=a7;obtain⟨a5,a6⟩:=a8;simp only[Tz,iB];refine⟨trivial, ?_⟩;rintro⟨s,_⟩ _ hs;simp only at hs⊢;refine⟨fun h=>⟨⟨a5,a6⟩, ?_⟩,fun h=>⟨trivial, ?_⟩⟩
 . rintro⟨r,_⟩ _ hr;simp only at hr⊢;rw[hs]at h;rw[hr,MJ (qA h),tV]
 rintro⟨t,_⟩ _ ht;simp only at ht⊢;refine⟨fun h=>⟨⟨a3,a4⟩, ?_⟩,fun h=>⟨trivial, ?_⟩⟩
 . rintro⟨r,_⟩ _ hr;simp only at hr⊢;rw[ht]at h;rw[hr,MJ (qA h),rP]
 rintro⟨an,ad,ae,_⟩ _ ⟨a1,a2⟩;refine⟨trivial, ?_⟩;rintro⟨bn,bd,af,_⟩ _ ⟨b1,b2⟩;change Int at an ad bn bd;simp only at a1 a2 b1 b2⊢;refine⟨fun h=> ?_,fun _=>⟨trivial, ?_⟩⟩
 . rw[L8,qC]at h;have sp:H7 p:=qX fun hn=>by have:=a2 hn;rw[this]at h;exact absurd h.1 (by decide)
   have sq:H7 q:=qX fun hn=>by have:=b2 hn;rw[this]at h;exact absurd h.2 (by decide)
   obtain⟨ea,ed,_⟩:=a1 sp;obtain⟨eb,ee,_⟩:=b1 sq;obtain⟨x1,x2,x3,x4⟩:=Ke sp;obtain⟨y1,y2,y3,y4⟩:=Ke sq;obtain⟨w1,w2,w3⟩:=A0l (a:=an) (b:=bn) (c:=ad) (d:=bd) (by omega) (by omega) (by omega) (by omega);rw[w1,w3];refine⟨w2, ?_⟩;rintro⟨r,_⟩ _ hr;simp only at hr⊢;rw[hr, <-Sf p, <-Sf q, <-ea, <-ed, <-eb, <-ee,JZ (by omega) (by omega),sN (by omega),sN (by omega),g2s (by omega) (by omega)]
 . rintro⟨n,d,_⟩ ⟨ac,a9,_⟩ h1;refine⟨trivial, ?_⟩;rintro⟨m,e,_⟩ ⟨ab,aa,_⟩ h2;have ln:A5 n.2:=A3 ac.2.2;have ld:A5 d:=A3 a9.2;have lm:A5 m.2:=A3 ab.2.2;have le:A5 e:=A3 aa.2;refine⟨trivial, ?_⟩;rintro⟨c,_⟩ _ hc;change Jt at n m;change List Int at d e;simp only at h1 h2 hc⊢;obtain⟨d0,hP⟩:=Ku h1;obtain⟨e0,hQ⟩:=Ku h2;obtain⟨n1,d1⟩:=Hm (k:=2199023255552) h1 a3 a4 (by decide);obtain⟨m1,e1⟩:=Hm (k:=2199023255552) h2 a5 a6 (by decide);rw[hP,hQ];refine⟨fun h=> ?_,fun h=> ?_⟩
   . have h:=qA h;have he:nv d=nv e:=RZ.1 (hc▸h);refine⟨⟨by show n.2.length<= _;omega,by show m.2.length<= _;omega⟩, ?_⟩;rintro⟨u,_⟩ _ hu;simp only at hu⊢;have l1:=RA (x:=n) (y:=m) ln lm n1 m1;refine⟨⟨d0,by show u.2.length<= _;rw[hu];omega,by show d.length<= _;omega⟩, ?_⟩;rintro⟨r,_⟩ _ hr;simp only at hr⊢;rw[hr,hu,U4, <-he,jY d0]
   . --the general case:the same four times
     have x1:=DL (x:=n) (y:=(false,e)) ln le;have x2:=DL (x:=m) (y:=(false,d)) lm ld;have g1:E6 n.2/\E6 e:=⟨by show n.2.length<= _;omega,by show e.length<= _;omega⟩;have g2:E6 m.2/\E6 d:=⟨by show m.2.length<= _;omega,by show d.length<= _;omega⟩;have fin:∀u v:Jt,u=ic (iv n*iv (false,e))->v=ic (iv m*iv (false,d))->(E6 u.2/\E6 v.2)/\∀(r_6:(Bool×List Int)×Unit),H4 r_6.1/\True->r_6.1=ic (iv u+iv v)->(E6 d/\E6 e)/\∀(r_7:List Int×Unit),I5 r_7.1/\True->r_7.1=nc (nv d*nv e)->(nv r_7.1≠(0:Nat)/\Ae r_6.1.2/\Ae r_7.1)/\∀(r:QQ×Unit),L6 r.1/\True->r.1=rc (mkRat (iv r_6.1) (nv r_7.1))->r.1=rc (mkRat (iv n) (nv d)+mkRat (iv m) (nv e)):=by
      intro u v hu hv;have lu:u.2.length<=4398046511104:=by
       rw[hu];refine qW x1 ?_;show n.2.length+e.length<= _;omega
      have lv:v.2.length<=4398046511104:=by
       rw[hv];refine qW x2 ?_;show m.2.length+d.length<= _;omega
      refine⟨⟨by show u.2.length<= _;omega,by show v.2.length<= _;omega⟩, ?_⟩;rintro⟨w,_⟩ _ a0;refine⟨⟨g2.2,g1.2⟩, ?_⟩;rintro⟨z,_⟩ _ hz;simp only at a0 hz⊢;have l1:=RA (x:=u) (y:=v) (by rw[hu];exact eM _) (by rw[hv];exact eM _) lu lv;have l2:=DS ld le;refine⟨⟨by rw[hz,E1];exact yZ d0 e0,by show w.2.length<= _;rw[a0];omega,by show z.length<= _;rw[hz];omega⟩, ?_⟩;rintro⟨r,_⟩ _ hr;simp only at hr⊢;rw[hr,a0,hz,E1,U4,hu,hv,U4,U4,Jc,Jc,JZ d0 e0]
     exact⟨⟨g1,fun u _ hu=>⟨⟨g2,fun v _ hv=>⟨fin _ _ hu hv,fin _ _ hu hv⟩⟩,g2,fun v _ hv=>fin _ _ hu hv⟩⟩,g1,fun u _ hu=>⟨g2,fun v _ hv=>fin _ _ hu hv⟩⟩
end Go.Proofs.YthiimnbdinlfeaaGreat
