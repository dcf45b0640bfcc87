/- Part. -/
import Derived.Test.YtljgpjhcieidbaaGreatRows
import Derived.Test.YtljgpjhcieidbaaGreatKRE
set_option linter.all false
namespace Go.Proofs.YtljgpjhcieidbaaGreat
open Go.Proofs.Tryz
open Go.Vc Go.Gw
open Go.IntKind (i64 u64 u32)
abbrev R2 (a:Int):Prop:=i64.min<=a/\a<=i64.max
abbrev FR (a:Int):Prop:=u64.min<=a/\a<=u64.max
abbrev Hd (l:List Int):Prop:=List.length l<=(9223372036854775807:Nat)/\∀(x:Int),x∈l->u32.min<=x/\x<=u32.max
abbrev QB (l:List Int):Prop:=List.length l<=(9223372036854775807:Nat)/\∀(x:Int),x∈l->i64.min<=x/\x<=i64.max
abbrev lT (z:Bool×List Int):Prop:=True/\Hd z.2
abbrev FP (q:(Bool×List Int)×List Int):Prop:=lT q.1/\Hd q.2
abbrev WfE (e:Int×(Bool×List Int)×List Int):Prop:=R2 e.1/\lT e.2.1/\Hd e.2.2
abbrev Zy (l:List (Int×(Bool×List Int)×List Int)):Prop:=List.length l<=(9223372036854775807:Nat)/\∀(x:Int×(Bool×List Int)×List Int),x∈l->WfE x
abbrev QQ:=(Bool×List Int)×List Int
abbrev EE:=Int×(Bool×List Int)×List Int
abbrev dQ:QQ:=((false,[]),[])
abbrev D6:EE:=((0:Int),(false,[]),[])
abbrev MM:=Int×Int×List (List EE)
abbrev WfL (l:List QQ):Prop:=List.length l<=9223372036854775807/\∀(x:QQ),x∈l->FP x
abbrev JN (l:List (List QQ)):Prop:=List.length l<=9223372036854775807/\∀(x:List QQ),x∈l->x.length<=9223372036854775807/\∀(y:QQ),y∈x->FP y
abbrev CO (l:List (List EE)):Prop:=List.length l<=9223372036854775807/\∀(x:List EE),x∈l->x.length<=9223372036854775807/\∀(y:EE),y∈x->WfE y
abbrev WfM (m:MM):Prop:=R2 m.1/\R2 m.2.1/\CO m.2.2
abbrev tQ:Ty:=(.pair (.pair .bool (.sl (.int .u32))) (.sl (.int .u32)))
abbrev tE:Ty:=(.pair (.int .i64) tQ)
abbrev tM:Ty:=(.pair (.int .i64) (.pair (.int .i64) (.sl (.sl tE))))
def tys:List (Nat×TI):= [(2,{ty:=(.int .i64),agg:=false}),
 (3,{ty:=(.int .i64),agg:=false}),
 (4,{ty:= .bool,agg:=false}),
 (5,{ty:=(.int .u8),agg:=false}),
 (9,{ty:= .str,agg:=false}),
 (22,{ty:=(.sl (.sl tE)),agg:=false,elem:=67,bytes:=24}),
 (24,{ty:=tM,agg:=true,fields:= [(0,1,false),(1,1,false),(2,1,false)]}),
 (25,{ty:=(.sl (.int .i64)),agg:=false,elem:=3,bytes:=8}),
 (27,{ty:=(.sl (.int .u32)),agg:=false,elem:=116,bytes:=4}),
 (29,{ty:=(.pair .bool (.sl (.int .u32))),agg:=true,fields:= [(0,1,false),(1,1,false)]}),
 (31,{ty:=tQ,agg:=true,fields:= [(0,2,true),(2,1,false)]}),
 (53,{ty:=(.pair (.sl (.int .i64)) (.pair (.sl (.int .i64)) (.pair tM tM))),agg:=true,fields:= [(0,1,false),(1,1,false),(2,3,true),(5,3,true)]}),
 (56,{ty:=(.sl tQ),agg:=false,elem:=31,bytes:=56}),
 (61,{ty:=(.sl tM),agg:=false,elem:=24,bytes:=40}),
 (67,{ty:=(.sl tE),agg:=false,elem:=70,bytes:=64}),
 (70,{ty:=tE,agg:=true,fields:= [(0,1,false),(1,3,true)]}),
 (73,{ty:=(.sl (.sl tQ)),agg:=false,elem:=56,bytes:=24}),
 (81,{ty:=(.pair (.sl (.int .i64)) (.int .i64)),agg:=true,fields:= [(0,1,false),(1,1,false)]}),
 (88,{ty:=(.mp false (.int .i64) false (.sl tE)),agg:=false,elem:=67,key:=3}),
 (93,{ty:=(.ptr (.pair (.sl (.sl tE)) (.pair (.sl (.sl tE)) (.pair (.sl (.mp false (.int .i64) false .bool)) (.sl (.int .i64)))))),agg:=false}),
 (98,{ty:=(.sl (.mp false (.int .i64) false .bool)),agg:=false,elem:=134,bytes:=8}),
 (100,{ty:=(.pair (.sl (.sl tE)) (.pair (.sl (.sl tE)) (.pair (.sl (.mp false (.int .i64) false .bool)) (.sl (.int .i64))))),agg:=true,fields:= [(0,1,false),(1,1,false),(2,1,false),(3,1,false)]}),
 (116,{ty:=(.int .u32),agg:=false}),
 (124,{ty:=(.sl .bool),agg:=false,elem:=4,bytes:=1}),
 (127,{ty:=(.sl (.sl (.int .i64))),agg:=false,elem:=25,bytes:=24}),
 (133,{ty:=(.int .u64),agg:=false}),
 (134,{ty:=(.mp false (.int .i64) false .bool),agg:=false,elem:=4,key:=3}),
 (154,{ty:=(.int .u64),agg:=false}),
 (166,{ty:=(.mp false (.int .i64) false (.sl (.int .i64))),agg:=false,elem:=25,key:=3}),
 (171,{ty:=(.pair (.int .u64) (.pair (.int .u64) (.pair (.int .u64) (.pair (.int .u64) .bool)))),agg:=true,fields:= [(0,1,false),(1,1,false),(2,1,false),(3,1,false),(4,1,false)]})]
def A6:G2 prog tys=true:=by kernel_rfl
def B0t:List (Nat×TI):= [(2,{ty:=(.int .i64),agg:=false}),
 (3,{ty:=(.int .i64),agg:=false}),
 (4,{ty:= .bool,agg:=false}),
 (5,{ty:=(.int .u8),agg:=false}),
 (9,{ty:= .str,agg:=false}),
 (22,{ty:=(.sl (.sl tE)),agg:=false,elem:=67,bytes:=24,rows:=true}),
 (24,{ty:=tM,agg:=true,fields:= [(0,1,false),(1,1,false),(2,1,false)]}),
 (25,{ty:=(.sl (.int .i64)),agg:=false,elem:=3,bytes:=8}),
 (27,{ty:=(.sl (.int .u32)),agg:=false,elem:=116,bytes:=4}),
 (29,{ty:=(.pair .bool (.sl (.int .u32))),agg:=true,fields:= [(0,1,false),(1,1,false)]}),
 (31,{ty:=tQ,agg:=true,fields:= [(0,2,true),(2,1,false)]}),
 (53,{ty:=(.pair (.sl (.int .i64)) (.pair (.sl (.int .i64)) (.pair tM tM))),agg:=true,fields:= [(0,1,false),(1,1,false),(2,3,true),(5,3,true)]}),
 (56,{ty:=(.sl tQ),agg:=false,elem:=31,bytes:=56}),
 (61,{ty:=(.sl tM),agg:=false,elem:=24,bytes:=40}),
 (67,{ty:=(.sl tE),agg:=false,elem:=70,bytes:=64}),
 (70,{ty:=tE,agg:=true,fields:= [(0,1,false),(1,3,true)]}),
 (73,{ty:=(.sl (.sl tQ)),agg:=false,elem:=56,bytes:=24,rows:=true}),
 (81,{ty:=(.pair (.sl (.int .i64)) (.int .i64)),agg:=true,fields:= [(0,1,false),(1,1,false)]}),
 (88,{ty:=(.mp false (.int .i64) false (.sl tE)),agg:=false,elem:=67,key:=3}),
 (93,{ty:=(.ptr (.pair (.sl (.sl tE)) (.pair (.sl (.sl tE)) (.pair (.sl (.mp false (.int .i64) false .bool)) (.sl (.int .i64)))))),agg:=false}),
 (98,{ty:=(.sl (.mp false (.int .i64) false .bool)),agg:=false,elem:=134,bytes:=8}),
 (100,{ty:=(.pair (.sl (.sl tE)) (.pair (.sl (.sl tE)) (.pair (.sl (.mp false (.int .i64) false .bool)) (.sl (.int .i64))))),agg:=true,fields:= [(0,1,false),(1,1,false),(2,1,false),(3,1,false)]}),
 (116,{ty:=(.int .u32),agg:=false}),
 (124,{ty:=(.sl .bool),agg:=false,elem:=4,bytes:=1}),
 (127,{ty:=(.sl (.sl (.int .i64))),agg:=false,elem:=25,bytes:=24}),
 (133,{ty:=(.int .u64),agg:=false}),
 (134,{ty:=(.mp false (.int .i64) false .bool),agg:=false,elem:=4,key:=3}),
 (154,{ty:=(.int .u64),agg:=false}),
 (166,{ty:=(.mp false (.int .i64) false (.sl (.int .i64))),agg:=false,elem:=25,key:=3,rows:=true}),
 (171,{ty:=(.pair (.int .u64) (.pair (.int .u64) (.pair (.int .u64) (.pair (.int .u64) .bool)))),agg:=true,fields:= [(0,1,false),(1,1,false),(2,1,false),(3,1,false),(4,1,false)]})]
def IE:G2 prog B0t=true:=by kernel_rfl
def OW:List (Nat×TI):= [(2,{ty:=(.int .i64),agg:=false}),
 (3,{ty:=(.int .i64),agg:=false}),
 (4,{ty:= .bool,agg:=false}),
 (5,{ty:=(.int .u8),agg:=false}),
 (9,{ty:= .str,agg:=false}),
 (22,{ty:=(.sl (.sl tE)),agg:=false,elem:=67,bytes:=24,nest:= [14]}),
 (24,{ty:=tM,agg:=true,fields:= [(0,1,false),(1,1,false),(2,1,false)]}),
 (25,{ty:=(.sl (.int .i64)),agg:=false,elem:=3,bytes:=8}),
 (27,{ty:=(.sl (.int .u32)),agg:=false,elem:=116,bytes:=4}),
 (29,{ty:=(.pair .bool (.sl (.int .u32))),agg:=true,fields:= [(0,1,false),(1,1,false)]}),
 (31,{ty:=tQ,agg:=true,fields:= [(0,2,true),(2,1,false)]}),
 (53,{ty:=(.pair (.sl (.int .i64)) (.pair (.sl (.int .i64)) (.pair tM tM))),agg:=true,fields:= [(0,1,false),(1,1,false),(2,3,true),(5,3,true)]}),
 (56,{ty:=(.sl tQ),agg:=false,elem:=31,bytes:=56}),
 (61,{ty:=(.sl tM),agg:=false,elem:=24,bytes:=40}),
 (67,{ty:=(.sl tE),agg:=false,elem:=70,bytes:=64}),
 (70,{ty:=tE,agg:=true,fields:= [(0,1,false),(1,3,true)]}),
 (73,{ty:=(.sl (.sl tQ)),agg:=false,elem:=56,bytes:=24}),
 (81,{ty:=(.pair (.sl (.int .i64)) (.int .i64)),agg:=true,fields:= [(0,1,false),(1,1,false)]}),
 (88,{ty:=(.mp false (.int .i64) false (.sl tE)),agg:=false,elem:=67,key:=3}),
 (93,{ty:=(.ptr (.pair (.sl (.sl tE)) (.pair (.sl (.sl tE)) (.pair (.sl (.mp false (.int .i64) false .bool)) (.sl (.int .i64)))))),agg:=false}),
 (98,{ty:=(.sl (.mp false (.int .i64) false .bool)),agg:=false,elem:=134,bytes:=8,nest:= [17]}),
 (100,{ty:=(.pair (.sl (.sl tE)) (.pair (.sl (.sl tE)) (.pair (.sl (.mp false (.int .i64) false .bool)) (.sl (.int .i64))))),agg:=true,fields:= [(0,1,false),(1,1,false),(2,1,false),(3,1,false)]}),
 (116,{ty:=(.int .u32),agg:=false}),
 (124,{ty:=(.sl .bool),agg:=false,elem:=4,bytes:=1}),
 (127,{ty:=(.sl (.sl (.int .i64))),agg:=false,elem:=25,bytes:=24}),
 (133,{ty:=(.int .u64),agg:=false}),
 (134,{ty:=(.mp false (.int .i64) false .bool),agg:=false,elem:=4,key:=3,nest:= [44,66]}),
 (154,{ty:=(.int .u64),agg:=false}),
 (166,{ty:=(.mp false (.int .i64) false (.sl (.int .i64))),agg:=false,elem:=25,key:=3}),
 (171,{ty:=(.pair (.int .u64) (.pair (.int .u64) (.pair (.int .u64) (.pair (.int .u64) .bool)))),agg:=true,fields:= [(0,1,false),(1,1,false),(2,1,false),(3,1,false),(4,1,false)]})]
def Zw:G2 prog OW=true:=by kernel_rfl
abbrev Ax:=Bool×Unit
abbrev V8:=QQ×QQ×Unit
def Ho:B4:= {args:= [.val true tQ, .val true tQ],res:= [.val false .bool],shared:=false,pre:=fun(x:V8)=>True,post:=fun(x:V8) (r:Ax)=>r.1=decide (x.1=x.2.1)}
abbrev V7 (a:List AM) (r:List RT) (p:A5 a->Prop) (q:A5 a->Ae r->Prop):B4:= {args:=a,res:=r,shared:=true,pre:=p,post:=q}
abbrev mkM (a:List AM) (r:List RT) (p:A5 a->Prop) (q:A5 a->Ae r->Prop) (m:A5 a->Ae r->Ll a->Prop):B4:= {args:=a,res:=r,shared:=true,pre:=p,post:=q,mpost:=m}
abbrev H5:=QQ×Unit
def Qd:B4:=V7 [.val true tQ, .val true tQ] [.val true tQ] (fun(x:V8)=>E7 x.1/\E7 x.2.1) (fun(x:V8) (r:H5)=>r.1=rc (rv x.1*rv x.2.1))
abbrev D9:=Int×Unit
def Kn:B4:= {args:= [.val true tQ],res:= [.val false (.int .i64)],shared:=false,pre:=fun(x:H5)=>E7 x.1,post:=fun(x:H5) (r:D9)=>r.1=(rv x.1).num.sign}
def Qb:B4:=V7 [.val true tQ, .val true tQ] [.val true tQ] (fun(x:V8)=>E7 x.1/\E7 x.2.1) (fun(x:V8) (r:H5)=>r.1=rc (rv x.1+rv x.2.1))
def O1:B4:=V7 [.val false (.int .i64)] [.val true tQ] (fun(x:D9)=>True) (fun(x:D9) (r:H5)=>r.1=ri x.1)
def X7:B4:=V7 [.val true tQ, .val true tQ] [.val true tQ] (fun(x:V8)=>E7 x.1/\E7 x.2.1) (fun(x:V8) (r:H5)=>r.1=rc (rv x.1*rv x.2.1))
def S6:B4:=V7 [.val true tQ] [.val true tQ] (fun(x:H5)=>E7 x.1) (fun(x:H5) (r:H5)=>r.1=rc (-(rv x.1)))
def Ko:B4:=V7 [] [.val true tQ] (fun(x:Unit)=>True) (fun(x:Unit) (r:H5)=>r.1=rc 0)
def Dr:B4:=V7 [.val false (.int .i64)] [.val true tQ] (fun(x:D9)=>True) (fun(x:D9) (r:H5)=>r.1=ri x.1)
abbrev bB:=(Bool×(List Int))×(Bool×(List Int))×Unit
def Hn:B4:= {args:= [.val true (.pair .bool (.sl (.int .u32))), .val true (.pair .bool (.sl (.int .u32)))],res:= [.val false .bool],shared:=false,pre:=fun(x:bB)=>True,post:=fun(x:bB) (r:Ax)=>r.1=decide (x.1=x.2.1)}
abbrev Ct:=(List Int)×(List Int)×Unit
def Hm:B4:= {args:= [.val false (.sl (.int .u32)), .val false (.sl (.int .u32))],res:= [.val false .bool],shared:=false,pre:=fun(x:Ct)=>True,post:=fun(x:Ct) (r:Ax)=>r.1=decide (x.1=x.2.1)}
def Kj:B4:=V7 [.val true (.pair .bool (.sl (.int .u32))), .val true (.pair .bool (.sl (.int .u32)))] [.val true tQ] (fun(x:bB)=>T3 x.1.2/\T3 x.2.1.2) (fun(x:bB) (r:H5)=>r.1=rc (Bi x.1 x.2.1))
abbrev FQ:=(Bool×(List Int))×Unit
def Py:B4:=V7 [.val true (.pair .bool (.sl (.int .u32))), .val true (.pair .bool (.sl (.int .u32)))] [.val true (.pair .bool (.sl (.int .u32)))] (fun(x:bB)=>E1 x.1.2/\E1 x.2.1.2) (fun(x:bB) (r:FQ)=>r.1=ic (iv x.1*iv x.2.1))
def Kk:B4:=V7 [.val true tQ] [.val true tQ] (fun(x:H5)=>E7 x.1) (fun(x:H5) (r:H5)=>r.1=rc (rv x.1))
def Qg:B4:=V7 [.val true tQ] [.val true (.pair .bool (.sl (.int .u32)))] (fun(x:H5)=>E7 x.1) (fun(x:H5) (r:FQ)=>r.1=ic ((rv x.1).den:Int))
def Ki:B4:= {args:= [.val true (.pair .bool (.sl (.int .u32)))],res:= [.val false (.int .i64)],shared:=false,pre:=fun(x:FQ)=>Fx x.1.2,post:=fun(x:FQ) (r:D9)=>r.1=(iv x.1).sign}
def Pw:B4:=V7 [.val true (.pair .bool (.sl (.int .u32))), .val true (.pair .bool (.sl (.int .u32)))] [.val true (.pair .bool (.sl (.int .u32)))] (fun(x:bB)=>E1 x.1.2/\E1 x.2.1.2) (fun(x:bB) (r:FQ)=>r.1=ic (iv x.1+iv x.2.1))
abbrev lE:=QQ×Bool×Unit
def X5:B4:=V7 [.val true tQ, .val true tQ] [.val true tQ, .val false .bool] (fun(x:V8)=>E7 x.1/\E7 x.2.1) (fun(x:V8) (r:lE)=>(rv x.2.1=0->r.2.1=false)/\(rv x.2.1≠0->r.1=rc (rv x.1/rv x.2.1)/\r.2.1=true))
def Ah:B4:= {args:= [.val true tQ],res:= [.val false .bool],shared:=false,pre:=fun(x:H5)=>E7 x.1,post:=fun(x:H5) (r:Ax)=>r.1=decide (x.1=rc (rv x.1))}
def U6:B4:=V7 [.val false (.int .i64)] [.val true (.pair .bool (.sl (.int .u32)))] (fun(x:D9)=>True) (fun(x:D9) (r:FQ)=>r.1=ic x.1)
abbrev lC:=Int×Int×Bool×Unit
def X9:B4:= {args:= [.val true tQ],res:= [.val false (.int .i64), .val false (.int .i64), .val false .bool],shared:=false,pre:=fun(x:H5)=>True,post:=fun(x:H5) (r:lC)=>(J0 x.1->r.1=Ov x.1/\r.2.1=Li x.1/\r.2.2.1=true)/\(¬J0 x.1->r.2.2.1=false)}
abbrev Db:=Int×Int×Unit
def R0:B4:=V7 [.val false (.int .i64), .val false (.int .i64)] [.val true tQ] (fun(x:Db)=>0<x.2.1) (fun(x:Db) (r:H5)=>r.1=rc (mkRat x.1 x.2.1.toNat))
abbrev ty6:=(Bool×(List Int))×(List Int)×Unit
def X8:B4:=V7 [.val true tQ] [.val true (.pair .bool (.sl (.int .u32))), .val false (.sl (.int .u32))] (fun(x:H5)=>True) (fun(x:H5) (r:ty6)=>(nv x.1.2=0->r.1=zi/\r.2.1= [1])/\(nv x.1.2≠0->r.1=x.1.1/\r.2.1=x.1.2))
def V3:B4:=V7 [.val true (.pair .bool (.sl (.int .u32))), .val false (.sl (.int .u32))] [.val true tQ] (fun(x:ty6)=>nv x.2.1≠0/\T3 x.1.2/\T3 x.2.1) (fun(x:ty6) (r:H5)=>r.1=rc (mkRat (iv x.1) (nv x.2.1)))
def Dg:B4:=V7 [.val true (.pair .bool (.sl (.int .u32))), .val true (.pair .bool (.sl (.int .u32)))] [.val true (.pair .bool (.sl (.int .u32)))] (fun(x:bB)=>E1 x.1.2/\E1 x.2.1.2) (fun(x:bB) (r:FQ)=>r.1=ic (iv x.1*iv x.2.1))
abbrev Cu:=(List Int)×Unit
def Dm:B4:=V7 [.val false (.sl (.int .u32)), .val false (.sl (.int .u32))] [.val false (.sl (.int .u32))] (fun(x:Ct)=>E1 x.1/\E1 x.2.1) (fun(x:Ct) (r:Cu)=>r.1=nc (nv x.1*nv x.2.1))
def T6:B4:=V7 [.val true tQ] [.val true tQ] (fun(x:H5)=>E7 x.1) (fun(x:H5) (r:H5)=>r.1=rc (rv x.1))
def Dh:B4:=V7 [.val true (.pair .bool (.sl (.int .u32)))] [.val true (.pair .bool (.sl (.int .u32)))] (fun(x:FQ)=>Fx x.1.2) (fun(x:FQ) (r:FQ)=>r.1=ic (-iv x.1))
def Kl:B4:=V7 [.val true tQ, .val true tQ] [.val true tQ] (fun(x:V8)=>E7 x.1/\E7 x.2.1) (fun(x:V8) (r:H5)=>rv x.2.1≠0->r.1=rc (rv x.1/rv x.2.1))
def Qf:B4:=V7 [.val true tQ, .val true tQ] [.val true tQ] (fun(x:V8)=>E7 x.1/\E7 x.2.1) (fun(x:V8) (r:H5)=>r.1=rc (rv x.1-rv x.2.1))
def Dq:B4:=V7 [.val false (.int .i64)] [.val true (.pair .bool (.sl (.int .u32)))] (fun(x:D9)=>True) (fun(x:D9) (r:FQ)=>r.1=ic x.1)
def Xd:B4:=V7 [.val false (.int .i64), .val false (.int .i64)] [.val true tQ] (fun(x:Db)=>True) (fun(x:Db) (r:H5)=>r.1=rc (Rat.divInt x.1 x.2.1))
def Kh:B4:=V7 [.val true (.pair .bool (.sl (.int .u32)))] [.val true (.pair .bool (.sl (.int .u32)))] (fun(x:FQ)=>Fx x.1.2) (fun(x:FQ) (r:FQ)=>r.1=ic (iv x.1))
def Px:B4:=V7 [.val true (.pair .bool (.sl (.int .u32))), .val true (.pair .bool (.sl (.int .u32)))] [.val true (.pair .bool (.sl (.int .u32)))] (fun(x:bB)=>T3 x.1.2/\T3 x.2.1.2) (fun(x:bB) (r:FQ)=>r.1=ic (Nat.gcd (nv x.1.2) (nv x.2.1.2):Int))
def Fq:B4:=V7 [.val true (.pair .bool (.sl (.int .u32))), .val true (.pair .bool (.sl (.int .u32)))] [.val true (.pair .bool (.sl (.int .u32))), .val true (.pair .bool (.sl (.int .u32))), .val false .bool] (fun(x:bB)=>T3 x.1.2/\T3 x.2.1.2) (fun(x:bB) (r:(Bool×(List Int))×(Bool×(List Int))×Bool×Unit)=>iv x.2.1≠0->r.1=ic (iv x.1/iv x.2.1)/\r.2.1=ic (iv x.1%iv x.2.1)/\r.2.2.1=true)
def Pz:B4:=V7 [.val true (.pair .bool (.sl (.int .u32)))] [.val true (.pair .bool (.sl (.int .u32)))] (fun(x:FQ)=>Fx x.1.2) (fun(x:FQ) (r:FQ)=>r.1=ic (-iv x.1))
abbrev B4l:=Bool×(List Int)×Unit
def Kg:B4:=V7 [.val false .bool, .val false (.sl (.int .u32))] [.val true (.pair .bool (.sl (.int .u32)))] (fun(x:B4l)=>Fx x.2.1) (fun(x:B4l) (r:FQ)=>r.1=ic (iv (x.1,x.2.1)))
def Ps:B4:=V7 [.val false (.sl (.int .u32)), .val false (.sl (.int .u32))] [.val false (.sl (.int .u32))] (fun(x:Ct)=>E1 x.1/\E1 x.2.1) (fun(x:Ct) (r:Cu)=>r.1=nc (nv x.1*nv x.2.1))
def X6:B4:=V7 [.val true tQ] [.val true tQ, .val false .bool] (fun(x:H5)=>E7 x.1) (fun(x:H5) (r:lE)=>(rv x.1=0->r.2.1=false)/\(rv x.1≠0->r.1=rc (rv x.1)⁻¹/\r.2.1=true))
def Pq:B4:=V7 [.val false (.sl (.int .u32)), .val false (.sl (.int .u32))] [.val false (.sl (.int .u32))] (fun(x:Ct)=>E1 x.1/\E1 x.2.1) (fun(x:Ct) (r:Cu)=>r.1=nc (nv x.1+nv x.2.1))
abbrev B8b:=(List Int)×Bool×Unit
def Pt:B4:=V7 [.val false (.sl (.int .u32)), .val false (.sl (.int .u32))] [.val false (.sl (.int .u32)), .val false .bool] (fun(x:Ct)=>E1 x.1/\E1 x.2.1) (fun(x:Ct) (r:B8b)=>(nv x.1<nv x.2.1->r.1= []/\r.2.1=false)/\(nv x.2.1<=nv x.1->r.1=nc (nv x.1-nv x.2.1)/\r.2.1=true))
def Ak:B4:= {args:= [.val true tQ],res:= [.val false (.int .i64)],shared:=false,pre:=fun(x:H5)=>True,post:=fun(x:H5) (r:D9)=>r.1=(rv x.1).num.sign}
def Ce:B4:=V7 [.val true tQ, .val true tQ] [.val true tQ] (fun(x:V8)=>E7 x.1/\E7 x.2.1) (fun(x:V8) (r:H5)=>r.1=rc (rv x.1-rv x.2.1))
def W8:B4:=V7 [.val false .bool, .val false (.sl (.int .u32))] [.val true (.pair .bool (.sl (.int .u32)))] (fun(x:B4l)=>True) (fun(x:B4l) (r:FQ)=>r.1=(x.1&&decide (x.2.1≠ []),x.2.1))
def P3:B4:=V7 [.val false (.int .u64)] [.val false (.sl (.int .u32))] (fun(x:D9)=>True) (fun(x:D9) (r:Cu)=>r.1=nc x.1.toNat)
abbrev A4z:=Int×Bool×Unit
def X2:B4:= {args:= [.val false (.sl (.int .u32))],res:= [.val false (.int .u64), .val false .bool],shared:=false,pre:=fun(x:Cu)=>True,post:=fun(x:Cu) (r:A4z)=>(nv x.1<18446744073709551616->r.1=(nv x.1:Int)/\r.2.1=true)/\(18446744073709551616<=nv x.1->r.2.1=false)}
def U7:B4:= {args:= [.val false (.sl (.int .u32)), .val false (.sl (.int .u32))],res:= [.val false (.int .i64)],shared:=false,pre:=fun(x:Ct)=>True,post:=fun(x:Ct) (r:D9)=>r.1=Bm (nv x.1) (nv x.2.1)}
def Bw:B4:=V7 [.val true (.pair .bool (.sl (.int .u32)))] [.val true (.pair .bool (.sl (.int .u32)))] (fun(x:FQ)=>Fx x.1.2) (fun(x:FQ) (r:FQ)=>r.1=ic (iv x.1))
def Ca:B4:=V7 [.val false (.sl (.int .u32))] [.val false (.sl (.int .u32))] (fun(x:Cu)=>Fx x.1) (fun(x:Cu) (r:Cu)=>r.1=nc (nv x.1))
def Dl:B4:=V7 [.val false (.sl (.int .u32)), .val false (.sl (.int .u32))] [.val false (.sl (.int .u32))] (fun(x:Ct)=>T3 x.1/\T3 x.2.1) (fun(x:Ct) (r:Cu)=>r.1=nc (Nat.gcd (nv x.1) (nv x.2.1)))
abbrev C0c:=(List Int)×(List Int)×Bool×Unit
def X1:B4:=V7 [.val false (.sl (.int .u32)), .val false (.sl (.int .u32))] [.val false (.sl (.int .u32)), .val false (.sl (.int .u32)), .val false .bool] (fun(x:Ct)=>E1 x.1) (fun(x:Ct) (r:C0c)=>(nv x.2.1=0->r.1= []/\r.2.1= []/\r.2.2.1=false)/\(nv x.2.1≠0->r.1=nc (nv x.1/nv x.2.1)/\r.2.1=nc (nv x.1%nv x.2.1)/\r.2.2.1=true))
def Aq:B4:=V7 [.val false (.sl (.int .u32))] [.val false (.sl (.int .u32))] (fun(x:Cu)=>True) (fun(x:Cu) (r:Cu)=>r.1=nc (nv x.1))
def Qc:B4:=V7 [.val true tQ, .val true tQ] [.val true tQ, .val false .bool] (fun(x:V8)=>E7 x.1/\E7 x.2.1) (fun(x:V8) (r:lE)=>(rv x.2.1=0->r.2.1=false)/\(rv x.2.1≠0->r.1=rc (rv x.1/rv x.2.1)/\r.2.1=true))
def Qe:B4:=V7 [.val true tQ] [.val true tQ] (fun(x:H5)=>E7 x.1) (fun(x:H5) (r:H5)=>r.1=rc (-(rv x.1)))
def X4:B4:=V7 [.val false (.int .u64)] [.val false (.sl (.int .u32))] (fun(x:D9)=>True) (fun(x:D9) (r:Cu)=>r.1=nc x.1.toNat)
def Pr:B4:=V7 [.val false (.sl (.int .u32)), .val false (.sl (.int .u32))] [.val false (.sl (.int .u32))] (fun(x:Ct)=>T3 x.1/\T3 x.2.1) (fun(x:Ct) (r:Cu)=>r.1=nc (Nat.gcd (nv x.1) (nv x.2.1)))
def Fo:B4:=V7 [.val false (.sl (.int .u32)), .val false (.sl (.int .u32))] [.val false (.sl (.int .u32)), .val false (.sl (.int .u32)), .val false .bool] (fun(x:Ct)=>T3 x.1/\T3 x.2.1) (fun(x:Ct) (r:C0c)=>(nv x.2.1=0->r.2.2.1=false)/\(nv x.2.1≠0->r.1=nc (nv x.1/nv x.2.1)/\r.2.1=nc (nv x.1%nv x.2.1)/\r.2.2.1=true))
def Pv:B4:=V7 [.val true (.pair .bool (.sl (.int .u32)))] [.val true (.pair .bool (.sl (.int .u32)))] (fun(x:FQ)=>Fx x.1.2) (fun(x:FQ) (r:FQ)=>r.1=ic ((iv x.1).natAbs:Int))
def Qa:B4:=V7 [.val true (.pair .bool (.sl (.int .u32))), .val true (.pair .bool (.sl (.int .u32)))] [.val true (.pair .bool (.sl (.int .u32)))] (fun(x:bB)=>E1 x.1.2/\E1 x.2.1.2) (fun(x:bB) (r:FQ)=>r.1=ic (iv x.1-iv x.2.1))
def Kf:B4:=V7 [.val false (.sl (.int .u32))] [.val false (.sl (.int .u32))] (fun(x:Cu)=>Fx x.1) (fun(x:Cu) (r:Cu)=>r.1=nc (nv x.1))
def Cd:B4:=V7 [.val true tQ, .val true tQ] [.val true tQ] (fun(x:V8)=>E7 x.1/\E7 x.2.1) (fun(x:V8) (r:H5)=>r.1=rc (rv x.1+rv x.2.1))
def U3:B4:= {args:= [.val false (.int .i64), .val false (.int .i64)],res:= [.val false (.int .i64)],shared:=false,pre:=fun(x:Db)=>True,post:=fun(x:Db) (r:D9)=>r.1=N9 x.1 x.2.1}
def Dp:B4:= {args:= [.val false (.sl (.int .u32)), .val false (.sl (.int .u32))],res:= [.val false (.int .i64)],shared:=false,pre:=fun(x:Ct)=>E1 x.1/\E1 x.2.1,post:=fun(x:Ct) (r:D9)=>r.1=Bm (nv x.1) (nv x.2.1)}
def S5:B4:= {args:= [.val true tQ, .val true tQ],res:= [.val false (.int .i64)],shared:=false,pre:=fun(x:V8)=>E7 x.1/\E7 x.2.1,post:=fun(x:V8) (r:D9)=>r.1=QZ (rv x.1) (rv x.2.1)}
def Bz:B4:= {args:= [.val true (.pair .bool (.sl (.int .u32)))],res:= [.val false (.int .i64)],shared:=false,pre:=fun(x:FQ)=>True,post:=fun(x:FQ) (r:D9)=>r.1=(iv x.1).sign}
def Cb:B4:= {args:= [.val false (.sl (.int .u32))],res:= [.val false (.int .u64)],shared:=false,pre:=fun(x:Cu)=>x.1.length<=2,post:=fun(x:Cu) (r:D9)=>r.1=(nv x.1:Int)}
def U9:B4:= {args:= [.val false (.sl (.int .u32)), .val false (.sl (.int .u32))],res:= [.val true (.pair (.int .u64) (.pair (.int .u64) (.pair (.int .u64) (.pair (.int .u64) .bool))))],shared:=false,pre:=fun(x:Ct)=>E1 x.1/\3<=x.1.length/\Kt x.1/\nv x.2.1<=nv x.1/\x.2.1.length<=x.1.length,post:=fun(x:Ct) (r:(Int×(Int×(Int×(Int×Bool))))×Unit)=>B6y (nv x.1) (nv x.2.1) r.1.1 r.1.2.1 r.1.2.2.1 r.1.2.2.2.1 r.1.2.2.2.2}
abbrev C0d:=(List Int)×Int×(List Int)×Int×Unit
def U8:B4:=V7 [.val false (.sl (.int .u32)), .val false (.int .u64), .val false (.sl (.int .u32)), .val false (.int .u64)] [.val false (.sl (.int .u32))] (fun(x:C0d)=>T3 x.1/\T3 x.2.2.1/\nv x.2.2.1*x.2.2.2.1.toNat<=nv x.1*x.2.1.toNat) (fun(x:C0d) (r:Cu)=>r.1=nc (nv x.1*x.2.1.toNat-nv x.2.2.1*x.2.2.2.1.toNat))
abbrev OU:=(List Int)×Int×Unit
def M7:B4:=V7 [.val false (.sl (.int .u32)), .val false (.int .u32)] [.val false (.sl (.int .u32)), .val false (.sl (.int .u32))] (fun(x:OU)=>E1 x.1/\x.2.1≠0) (fun(x:OU) (r:Ct)=>r.1=nc (nv x.1/x.2.1.toNat)/\r.2.1=nc (nv x.1%x.2.1.toNat))
def P4:B4:=V7 [.val false (.sl (.int .u32)), .val false (.sl (.int .u32))] [.val false (.sl (.int .u32)), .val false (.sl (.int .u32))] (fun(x:Ct)=>E1 x.1/\2<=x.2.1.length/\x.2.1.length<=x.1.length/\Kt x.2.1) (fun(x:Ct) (r:Ct)=>r.1=nc (nv x.1/nv x.2.1)/\r.2.1=nc (nv x.1%nv x.2.1))
def Fp:B4:= {args:= [.val false (.sl (.int .u32))],res:= [.val false (.int .u64), .val false .bool],shared:=false,pre:=fun(x:Cu)=>Fx x.1,post:=fun(x:Cu) (r:A4z)=>(nv x.1<18446744073709551616->r.1=(nv x.1:Int)/\r.2.1=true)/\(18446744073709551616<=nv x.1->r.2.1=false)}
def Ke:B4:= {args:= [.val false (.sl (.int .u32))],res:= [.val false (.int .i64)],shared:=false,pre:=fun(x:Cu)=>E1 x.1,post:=fun(x:Cu) (r:D9)=>r.1=(J8 (nv x.1):Int)}
def Pu:B4:= {args:= [.val false (.sl (.int .u32)), .val false (.int .i64)],res:= [.val false (.int .u32)],shared:=false,pre:=fun(x:OU)=>0<=x.2.1,post:=fun(x:OU) (r:D9)=>r.1=((nv x.1/2^x.2.1.toNat%2:Nat):Int)}
def Df:B4:=V7 [.val true (.pair .bool (.sl (.int .u32))), .val true (.pair .bool (.sl (.int .u32)))] [.val true (.pair .bool (.sl (.int .u32)))] (fun(x:bB)=>E1 x.1.2/\E1 x.2.1.2) (fun(x:bB) (r:FQ)=>r.1=ic (iv x.1+iv x.2.1))
def Fi:B4:= {args:= [.val false (.int .u32)],res:= [.val false (.int .i64)],shared:=false,pre:=fun(x:D9)=>True,post:=fun(x:D9) (r:D9)=>r.1=(J8 x.1.toNat:Int)}
def Af:B4:= {args:= [.val false (.int .i64)],res:= [.val false .bool],shared:=false,pre:=fun(x:D9)=>True,post:=fun(x:D9) (r:Ax)=>r.1=false}
def Q8:B4:= {args:= [.val false (.int .i64), .val false (.int .i64)],res:= [.val false (.int .i64)],shared:=false,pre:=fun(x:Db)=>True,post:=fun(x:Db) (r:D9)=>r.1=N9 x.1 x.2.1}
def U5:B4:= {args:= [.val true (.pair .bool (.sl (.int .u32))), .val true (.pair .bool (.sl (.int .u32)))],res:= [.val false (.int .i64)],shared:=false,pre:=fun(x:bB)=>True,post:=fun(x:bB) (r:D9)=>r.1=N9 (iv x.1) (iv x.2.1)}
def J6:B4:= {args:= [.val false (.int .u32)],res:= [.val false (.int .i64)],shared:=false,pre:=fun(x:D9)=>True,post:=fun(x:D9) (r:D9)=>r.1=32-(J8 x.1.toNat:Int)}
abbrev C0e:=(List Int)×Int×Int×Unit
def X3:B4:= {args:= [.val false (.sl (.int .u32)), .val false (.int .i64), .val false (.int .i64)],res:= [.val false (.int .u64)],shared:=false,pre:=fun(x:C0e)=>3<=x.2.1/\(x.1.length:Int)<=x.2.1/\x.2.1<=17592186044416/\0<=x.2.2.1/\x.2.2.1<=31/\nv x.1*2^x.2.2.1.toNat<4294967296^x.2.1.toNat,post:=fun(x:C0e) (r:D9)=>r.1=((nv x.1*2^x.2.2.1.toNat/4294967296^(x.2.1.toNat-2):Nat):Int)}
def Dn:B4:=V7 [.val false (.sl (.int .u32)), .val false (.sl (.int .u32))] [.val false (.sl (.int .u32)), .val false .bool] (fun(x:Ct)=>E1 x.1/\E1 x.2.1) (fun(x:Ct) (r:B8b)=>(nv x.1<nv x.2.1->r.1= []/\r.2.1=false)/\(nv x.2.1<=nv x.1->r.1=nc (nv x.1-nv x.2.1)/\r.2.1=true))
def P9:B4:= {args:= [.val false (.sl (.int .u32)), .val false (.int .i64)],res:= [.own (.int .u32) 116],shared:=false,pre:=fun(x:OU)=>E1 x.1/\0<=x.2.1/\x.2.1<=31,post:=fun(x:OU) (r:Cu)=>r.1.length=x.1.length+1/\nv r.1=nv x.1*2^x.2.1.toNat}
def K9:B4:=V7 [.val false (.sl (.int .u32)), .val false (.int .i64)] [.val false (.sl (.int .u32)), .val false .bool] (fun(x:OU)=>E1 x.1) (fun(x:OU) (r:B8b)=>(x.2.1<0->r.1= []/\r.2.1=false)/\(0<=x.2.1->r.1=nc (nv x.1/2^x.2.1.toNat)/\r.2.1=true))
def Dk:B4:=V7 [.val false (.sl (.int .u32)), .val false (.sl (.int .u32))] [.val false (.sl (.int .u32))] (fun(x:Ct)=>E1 x.1/\E1 x.2.1) (fun(x:Ct) (r:Cu)=>r.1=nc (nv x.1+nv x.2.1))
def U4:B4:= {args:= [.val false (.int .i64)],res:= [.val false .bool],shared:=false,pre:=fun(x:D9)=>True,post:=fun(x:D9) (r:Ax)=>r.1=false}
def S4:B4:= {args:= [.val false (.int .i64), .val false (.ptr (.sl (.int .u32)))],res:= [.val false (.int .u64)],shared:=false,pre:=fun(x:Int×(List Int)×Unit)=>0<=x.1,post:=fun(x:Int×(List Int)×Unit) (r:D9)=>r.1=(if x.1<(x.2.1.length:Int)then x.2.1.getD x.1.toNat 0 else 0)}
def pZ9:Nat→Nat→Pl→Pl
 | _,0,k=>k
 |i,n+1,k=> .p i (pZ9 (i+1) n k)
def vI:List Tk:= [.val (.int .i64)]
def vU:List Tk:= [.val (.int .u64)]
def QM:An:= {loop:= [(2,⟨[0],[],[(3,false,vI)],[],[]⟩)]}
def Uo:An:= {}
def NX:An:= {loop:= [(3,⟨[6,7],[],[(3,false,vU),(8,false,vI)],[],[]⟩)]}
def GC:An:= {}
def CU:An:= {loop:= [(7,⟨[0,1],[],[(5,false,vI)],[],[]⟩)],plan:= [(9,[3,7],[],true,(pZ9 0 3 (.q 3 (pZ9 4 3 (.q 7 (.p 8 .done)))))),(11,[3,7],[],true,(pZ9 0 3 (.q 3 (pZ9 4 3 (.q 7 (.p 8 .done))))))]}
def NW:An:= {}
abbrev AW:=List Int×Unit
def Yc:A5 Aq.args->Prop:=fun(x:AW)=>let e:=(1:Int);let c:=(x.1.length:Int);let a:=(0:Int);∃(I:D9->Prop),∃(b: _->Nat),I (c,())/\∀(p:D9),let d:=(i64.wrap (p.1-e),());let f:=(decide (gx a x.1 (i64.wrap (p.1-e))=a));(Ty.int i64).wf p.1/\True->I p->(decide (a<p.1)=true->a<=i64.wrap (p.1-e)/\i64.wrap (p.1-e)<c)/\(iB (K4 (decide (a<p.1)) f false) (I d/\b d<b p) ((a<=a/\a<=p.1/\p.1<=c)/\List.drop a.toNat (List.take p.1.toNat x.1)=nc (nv x.1)))
def N3 (P:List Int×Unit->Prop):Prop:=∀r:List Int×Unit,Hd r.1/\True->P r
def Ge:A5 P3.args->Prop:=fun(x:D9)=>(0:(Ty.int u64).den)<=(32:Int)/\True/\N3 fun r=>r.1=nc (nv [u32.wrap x.1,u32.wrap (Int.fdiv x.1 ((2:Int)^Min.min ((32:Int).toNat) u64.bits))])->r.1=nc x.1.toNat
def Ua:A5 Cb.args->Prop:=fun(x:AW)=>let c:=(0:Int);let b:=(x.1.length:Int);∃(I:Db->Prop),∃(d: _->Nat),I (c,c,())/\∀(p:Db),let a:=(u64.wrap (↑(BitVec.ofInt u64.bits p.1|||BitVec.ofInt u64.bits (u64.wrap (u64.wrap (gx c x.1 p.2.1)*(2:Int)^Min.min (i64.wrap (32*p.2.1)).toNat u64.bits))).toNat:Int),i64.wrap (p.2.1+1),());(Ty.int u64).wf p.1/\(Ty.int i64).wf p.2.1/\True->I p->(iB (decide (p.2.1<b)) ((c<=p.2.1/\p.2.1<b)/\(0:(Ty.int i64).den)<=i64.wrap (32*p.2.1)/\I a/\d a<d p) (p.1=(↑(nv x.1):Int)))
def oW (P:Int×Unit->Prop):Prop:=∀r:Int×Unit,FR r.1/\True->P r
def Mo:A5 X2.args->Prop:=fun(x:AW)=>let a:=(18446744073709551616:Nat);True/\N3 fun r=>let b:Prop:=((2:Int)<(r.1.length:Int));r.1=nc (nv x.1)->(iB (decide b) ((nv x.1<a->(0:Int)=(↑(nv x.1):Int)/\false=true)/\(a<=nv x.1->false=false)) (List.length r.1<=2/\oW fun c=>c.1=(↑(nv r.1):Int)->(nv x.1<a->c.1=(↑(nv x.1):Int)/\true=true)/\(a<=nv x.1->true=false)))
abbrev Et:=List Int×List Int×Unit
def Ky:A5 U7.args->Prop:=fun(x:Et)=>let i:=(1:Int);let e:=(nv x.1);let d:=(nv x.2.1);let c:=(0:Int);True/\N3 fun r=>let a:=(r.1.length:Int);r.1=nc e->True/\N3 fun j=>let b:=(j.1.length:Int);j.1=nc d->(iB (decide (a≠b)) ((iB (decide (a<b)) ((-1:Int)=Bm e d) (i=Bm e d))) (∃(I:D9->Prop),∃(g: _->Nat),I (i64.wrap (a-i),())/\∀(p:D9),let k:Prop:=(gx c j.1 p.1<gx c r.1 p.1);let h:Prop:=(gx c r.1 p.1<gx c j.1 p.1);let f:=(i64.wrap (p.1-i),());(Ty.int i64).wf p.1/\True->I p->(iB (decide (c<=p.1)) ((c<=p.1/\p.1<a)/\(c<=p.1/\p.1<b)/\(iB (decide h) ((-1:Int)=Bm e d) ((c<=p.1/\p.1<a)/\(c<=p.1/\p.1<b)/\(iB (decide k) (i=Bm e d) (I f/\g f<g p))))) (c=Bm e d))))
def Tz:A5 Ca.args->Prop:=fun(x:AW)=>True/\N3 fun r=>let a:=(r.1.length:Int);r.1=nc (nv x.1)->((0:Int)<=a/\a<=a/\(↑(4:Nat):Int)*a<=(281474976710656:Int)/\a<=(9223372036854775807:Int))/\Jk (List.replicate a.toNat (0:Int)) r.1=nc (nv x.1)
def IS (x:A5 Aq.args) (k:awf Aq.args x) (_:Aq.pre x):Yc x:=by
 obtain⟨l,_⟩:=x;have t:l.length<=9223372036854775807:=k.1.1;have o:A7 l:=A3 k.1.2;change List Int at l;simp only[Yc,iB];refine⟨fun p=>0<=p.1/\p.1<=(l.length:Int)/\∀i x,p.1.toNat<=i->l[i]? =some x->x=0,fun p=>p.1.toNat,⟨qF _,qI _,fun i x j a=> ?_⟩, ?_⟩
 . rw[rT (by simpa using j)]at a;cases a
 rintro⟨n,_⟩ _ ⟨c,f,b⟩;change Int at n;simp only at c f b⊢;refine⟨fun h=> ?_,fun h=> ?_,fun h=> ?_⟩
 . have h:=qA h;rw[wv (by omega)];exact⟨by omega,by omega⟩
 . rw[H8]at h;simp only[qC,rS]at h;obtain⟨s,g⟩:=h;rw[wv (by omega)]at g⊢;refine⟨⟨by omega,by omega,fun i x j a=> ?_⟩,by omega⟩;by_cases r:i=(n-1).toNat
   . subst r;rw[H2 (d:=(0:Int)) (by omega) (by omega)]at a;cases a;exact g
   . exact b i x (by omega) a
 . refine⟨⟨qI _,c,f⟩, ?_⟩;show(l.take n.toNat).drop 0= _;rw[tZ];refine A1k o (by omega) b ?_;rw[H8]at h;simp only[wH,rP]at h;rcases h with h|h
   . exact .inl (by omega)
   . by_cases u:n=0
     . exact .inl (by omega)
     . rw[wv (by omega)]at h;refine .inr ⟨gx 0 l (n-1), ?_,h⟩;have:=H2 (d:=(0:Int)) (l:=l) (i:=n-1) (by omega) (by omega);rw[<-this];congr 1;omega
def Ns (x:A5 P3.args) (c:awf P3.args x) (_:P3.pre x):Ge x:=by
 obtain⟨v,_⟩:=x;change Int at v;have b:u64.min<=v/\v<=u64.max:=c.1;rw[eJ,Zx]at b;simp only[Ge,N3];refine⟨by decide,trivial, ?_⟩;rintro⟨r,_⟩ _ a;simp only at a⊢;rw[a];congr 1;rw[show Min.min (Int.toNat 32) u64.bits=32 from rfl];simp only[nv,Be];rw[sI _ (by decide),show(2:Int)^32=4294967296 from rfl];omega
def FE (x:A5 Cb.args) (u:awf Cb.args x) (s:Cb.pre x):Ua x:=by
 obtain⟨l,_⟩:=x;have n:A7 l:=A3 u.1.2;have y:l.length<=2:=s;change List Int at l;simp only[Ua,iB];refine⟨fun p=>0<=p.2.1/\p.2.1<=(l.length:Int)/\p.1=(nv (l.take p.2.1.toNat):Int),fun p=>((l.length:Int)-p.2.1).toNat,⟨qI _,qF _,rfl⟩, ?_⟩;rintro⟨v,i,_⟩ z ⟨f,o,d⟩;change Int at v i;simp only at f o d⊢;refine⟨fun h=> ?_,fun h=> ?_⟩
 . have h:=qA h;have g:=Sa n f h;have j:=Fb (l:=l.take i.toNat) fun x hx=>n x (sD hx)
   rw[qY,sZ (by omega)]at j;have t:=HD f h;rw[wv (a:=32*i) (by omega),wv (a:=i+1) (by omega),V4 g.1 (by omega)];have r:Min.min (32*i).toNat u64.bits=32*i.toNat:=by
    show Min.min (32*i).toNat 64= _;omega
   rw[r];have c:i.toNat=0\/i.toNat=1:=by omega
   refine⟨⟨f,h⟩,by show(0:Int)<=32*i;omega, ?_⟩;have w:u64.wrap (((BitVec.ofInt 64 v|||BitVec.ofInt 64 (u64.wrap (gx 0 l i*2^(32*i.toNat)))).toNat:Nat):Int)=(nv (l.take (i+1).toNat):Int):=by
    rw[t];generalize gx 0 l i=b at g;rcases c with c|c
    . rw[c]at j⊢;have A:v=0:=by rw[d,c];simp[nv]
      rw[V4 (a:=b*2^(32*0)) (by omega) (by omega),TZ (v:=v) (b:=b) (k:=32*0) (by omega) (by omega) g.1 (by omega) (by omega),V4 (by omega) (by omega)];simp[nv];omega
    . rw[c]at j⊢;rw[c]at d;rw[V4 (a:=b*2^(32*1)) (by omega) (by omega),TZ (v:=v) (b:=b) (k:=32*1) (by omega) (by omega) g.1 (by omega) (by omega),V4 (by omega) (by omega)];omega
   exact⟨⟨by omega,by omega,w⟩,by omega⟩
 . have h:=qB h;rw[G9 (by omega)]at d;exact d
def Yb (x:A5 X2.args) (f:awf X2.args x) (_:X2.pre x):Mo x:=by
 obtain⟨l,_⟩:=x;change List Int at l;simp only[Mo,iB,N3,oW];refine⟨trivial, ?_⟩;rintro⟨r,_⟩ _ a;simp only at a⊢;subst a;refine⟨fun h=> ?_,fun h=> ?_⟩
 . have h:=qA h;have:=A9a (k:=2) (n:=nv l) (by omega);refine⟨fun c=> ?_,fun _=>trivial⟩;rw[show(4294967296:Nat)^2=18446744073709551616 from rfl]at this;omega
 . have h:=qB h;have b:(nc (nv l)).length<=2:=by omega
   refine⟨b, ?_⟩;rintro⟨r,_⟩ _ a;simp only at a⊢;have d:=rC (Gl (nv l)) (rZ (by decide) b);rw[F3]at a;refine⟨fun _=>⟨a,trivial⟩,fun c=> ?_⟩;rw[show(4294967296:Nat)^2=18446744073709551616 from rfl]at d;omega
def Vj (x:A5 U7.args) (A:awf U7.args x) (_:U7.pre x):Ky x:=by
 obtain⟨b,c,_⟩:=x;change List Int at b c;simp only[Ky,iB,N3];refine⟨trivial, ?_⟩;rintro⟨r,_⟩ ⟨⟨y,_⟩,_⟩ o;simp only at o y⊢;subst o;refine⟨trivial, ?_⟩;rintro⟨s,_⟩ ⟨⟨z,_⟩,_⟩ t;simp only at t z⊢;subst t;have k:=J3 (nv b);have l:=J3 (nv c);refine⟨fun j=>⟨fun h=> ?_,fun h=> ?_⟩,fun j=> ?_⟩
 . have h:=qA h;exact(Lx (Zm (by omega))).symm
 . have h:=qB h;have j:=qA j;exact(PP (Zm (by omega))).symm
 . have n:(nc (nv b)).length=(nc (nv c)).length:=by have:=qB j;omega
   have u:=F3 (nv b);have v:=F3 (nv c);generalize nc (nv b)=r at*;generalize nc (nv c)=s at*;rw[<-u, <-v];refine⟨fun p=> -1<=p.1/\p.1<(r.length:Int)/\r.drop (p.1+1).toNat=s.drop (p.1+1).toNat,fun p=>(p.1+1).toNat, ?_, ?_⟩
   . rw[wv (by omega)];refine⟨by omega,by omega, ?_⟩;rw[sF (by omega),sF (by omega)]
   rintro⟨i,_⟩ _ ⟨w,d,a⟩;change Int at i;simp only at w d a⊢;refine⟨fun h=> ?_,fun h=> ?_⟩
   . have h:=qA h;refine⟨⟨h,d⟩,⟨h,by omega⟩,fun g=> ?_,fun g=>⟨⟨h,d⟩,⟨h,by omega⟩,fun f=> ?_,fun f=> ?_⟩⟩
     . exact(Lx (dI k l n h d a (qA g))).symm
     . exact(PP (dI l k n.symm h (by omega) a.symm (qA f))).symm
     . have g:=qB g;have f:=qB f;rw[wv (by omega)];refine⟨⟨by omega,by omega, ?_⟩,by omega⟩;rw[show i-1+1=i from by omega,T7 h d,T7 h (by omega),a,show gx 0 r i=gx 0 s i from by omega]
   . have h:=qB h;rw[show(i+1).toNat=0 from by omega,tZ,tZ]at a;rw[a,ZW]
def KB {α:Type} {l:List α} {d:α} :Jk (List.replicate ((l.length:Nat):Int).toNat d) l=l:=by
 unfold Jk;rw[rN,qU,uW,sF (by simp),wC]
def FD (x:A5 Ca.args) (d:awf Ca.args x) (c:Ca.pre x):Tz x:=by
 obtain⟨l,_⟩:=x;have b:A7 l:=A3 d.1.2;have g:l.length<=35184372088832:=c;simp only[Tz,N3];refine⟨trivial, ?_⟩;rintro⟨r,_⟩ _ a;simp only at a⊢;have f:r.length<=l.length:=by rw[a];exact C9 b
 refine⟨⟨by omega,qI _,by simp;omega,by omega⟩, ?_⟩;rw[KB,a]
def QI:An:= {join:= [(4,⟨[],[],[(0,false,[.val (.sl (.int .u32))]),(1,false,[.val (.sl (.int .u32))])],[],[]⟩),(12,⟨[0,1,5,7,24,25,26],[0],[(6,false,vU)],[],[]⟩)],loop:= [(7,⟨[0,1,5,24,25],[],[(6,false,vU),(26,false,vI)],[],[(0, .row (.int .u32) 116)]⟩)]}
def QL:An:= {join:= [(12,⟨[1,6,8,22,23,24],[0],[(10,false,vU)],[],[]⟩)],loop:= [(7,⟨[1,6,22,23],[],[(7,false,vU),(24,false,vI)],[],[(0, .row (.int .u32) 116)]⟩)]}
def QK:An:= {join:= [(18,⟨[1,5,29,30,31],[],[],[],[(0, .row (.int .u32) 116)]⟩)],loop:= [(11,⟨[1,5,6,7,29,30,31,38,39],[],[(8,false,vU),(40,false,vI)],[],[(0, .row (.int .u32) 116)]⟩),(6,⟨[1,5,29,30],[],[(31,false,vI)],[],[(0, .row (.int .u32) 116)]⟩)]}
def Og:An:= {loop:= [(4,⟨[0,1,4],[],[(6,false,vU),(7,false,vI)],[],[(0, .row (.int .u32) 116)]⟩)]}
def Uq:An:= {join:= [(15,⟨[0,6,7,8,29,30,31],[0],[(10,false,vU)],[],[]⟩)],loop:= [(10,⟨[0,6,7,29,30],[],[(31,false,vI)],[],[(0, .row (.int .u32) 116)]⟩)]}
def CX:An:= {loop:= [(4,⟨[0,1,5,13,14],[],[(6,false,vU),(15,false,vI)],[],[(0, .row (.int .u32) 116)]⟩)]}
abbrev Qo:=Int×Int×List Int×Unit
def Xw:A5 Dk.args->Prop:=fun(x:Et)=>let f:=(1:Int);let c:=(0:Int);True/\N3 fun r=>r.1=nc (nv x.1)->True/\N3 fun j=>let e:Prop:=((r.1.length:Int)<(j.1.length:Int));j.1=nc (nv x.2.1)->∃(J:Et->Prop),((iB (decide e) (J (j.1,r)) (J (r.1,j))))/\∀(p:Et),let d:=(p.2.1.length:Int);let a:=(p.1.length:Int);(Ty.int u32).sl.wf p.1/\(Ty.int u32).sl.wf p.2.1/\True->J p->(c<=i64.wrap (a+f)/\i64.wrap (a+f)<=i64.wrap (a+f)/\(↑(4:Nat):Int)*i64.wrap (a+f)<=(281474976710656:Int)/\i64.wrap (a+f)<=(9223372036854775807:Int))/\∃(I:Qo->Prop),∃(j: _->Nat),I (c,c,List.replicate (i64.wrap (a+f)).toNat c,())/\∀(i:Qo),let h:=(gx c p.1 i.2.1);let g:=(i.2.2.1.length:Int);(Ty.int u64).wf i.1/\(Ty.int i64).wf i.2.1/\Hd i.2.2.1/\True->I i->(iB (decide (i.2.1<a)) ((c<=i.2.1/\i.2.1<a)/\∃(J:D9->Prop),((iB (decide (i.2.1<d)) ((c<=i.2.1/\i.2.1<d)/\J (u64.wrap (u64.wrap (i.1+u64.wrap h)+u64.wrap (gx c p.2.1 i.2.1)),())) (J (u64.wrap (i.1+u64.wrap h),()))))/\∀(p:D9),let b:=(Int.fdiv p.1 ((2:Int)^Min.min ((32:Int).toNat) u64.bits),i64.wrap (i.2.1+f),List.set i.2.2.1 i.2.1.toNat (u32.wrap p.1),());(Ty.int u64).wf p.1/\True->J p->(c<=i.2.1/\i.2.1<g)/\(0:(Ty.int u64).den)<=(32:Int)/\I b/\j b<j i) ((c<=a/\a<g)/\True/\N3 fun r=>r.1=nc (nv (List.set i.2.2.1 a.toNat (u32.wrap i.1)))->r.1=nc (nv x.1+nv x.2.1)))
def Ed (P:Int×Unit->Prop):Prop:=∀r:Int×Unit,R2 r.1/\True->P r
def Ya:A5 Dn.args->Prop:=fun(x:Et)=>let f:=(nv x.1-nv x.2.1);let c:=(0:Int);True/\N3 fun r=>let a:=(r.1.length:Int);r.1=nc (nv x.1)->True/\N3 fun g=>let d:=(g.1.length:Int);g.1=nc (nv x.2.1)->True/\Ed fun i=>i.1=Bm (nv r.1) (nv g.1)->(iB (decide (i.1<c)) ((nv x.1<nv x.2.1->Lk Int= []/\false=false)/\(nv x.2.1<=nv x.1->Lk Int=nc f/\false=true)) ((c<=a/\a<=a/\(↑(4:Nat):Int)*a<=(281474976710656:Int)/\a<=(9223372036854775807:Int))/\∃(I:Qo->Prop),∃(j: _->Nat),I (c,c,List.replicate a.toNat c,())/\∀(p:Qo),let e:=(u64.wrap (gx c r.1 p.2.1)-p.1);(Ty.int u64).wf p.1/\(Ty.int i64).wf p.2.1/\Hd p.2.2.1/\True->I p->(iB (decide (p.2.1<a)) ((c<=p.2.1/\p.2.1<a)/\∃(J:D9->Prop),((iB (decide (p.2.1<d)) ((c<=p.2.1/\p.2.1<d)/\J (u64.wrap (u64.wrap e-u64.wrap (gx c g.1 p.2.1)),())) (J (u64.wrap e,()))))/\∀(h:D9),let b:=(Int.fdiv h.1 ((2:Int)^Min.min ((63:Int).toNat) u64.bits),i64.wrap (p.2.1+1),List.set p.2.2.1 p.2.1.toNat (u32.wrap h.1),());(Ty.int u64).wf h.1/\True->J h->(c<=p.2.1/\p.2.1<(p.2.2.1.length:Int))/\(0:(Ty.int u64).den)<=(63:Int)/\I b/\j b<j p) (True/\N3 fun r=>r.1=nc (nv p.2.2.1)->(nv x.1<nv x.2.1->r.1= []/\true=false)/\(nv x.2.1<=nv x.1->r.1=nc f/\true=true)))))
abbrev UY:=Int×List Int×Unit
def Xz:A5 Dm.args->Prop:=fun(x:Et)=>let j:=(nv x.1*nv x.2.1);let e:=(0:Int);True/\N3 fun r=>let c:=(r.1.length:Int);r.1=nc (nv x.1)->True/\N3 fun l=>let b:=(l.1.length:Int);l.1=nc (nv x.2.1)->(iB (K4 (decide (c=e)) true (decide (b=e))) (Lk Int=nc j) ((e<=i64.wrap (c+b)/\i64.wrap (c+b)<=i64.wrap (c+b)/\(↑(4:Nat):Int)*i64.wrap (c+b)<=(281474976710656:Int)/\i64.wrap (c+b)<=(9223372036854775807:Int))/\∃(I:UY->Prop),∃(a: _->Nat),I (e,List.replicate (i64.wrap (c+b)).toNat e,())/\∀(p:UY),(Ty.int i64).wf p.1/\Hd p.2.1/\True->I p->(iB (decide (p.1<c)) (∃(J:AW->Prop),((e<=p.1/\p.1<c)/\(iB (decide (gx e r.1 p.1=e)) (J (p.2.1,())) (∃(I:Qo->Prop),∃(a: _->Nat),I (e,e,p.2.1,())/\∀(k:Qo),let i:=(i64.wrap (p.1+k.2.1));let h:=(k.2.2.1.length:Int);let f:Prop:=(e<=i64.wrap (p.1+k.2.1)/\i64.wrap (p.1+k.2.1)<h);let c:=(u64.wrap (k.1+u64.wrap (u64.wrap (u64.wrap (gx e r.1 p.1)*u64.wrap (gx e l.1 k.2.1))+u64.wrap (List.getD k.2.2.1 i.toNat e))));let d:=(c.fdiv ((2:Int)^Min.min ((32:Int).toNat) u64.bits),i64.wrap (k.2.1+1),List.set k.2.2.1 i.toNat (u32.wrap c),());(Ty.int u64).wf k.1/\(Ty.int i64).wf k.2.1/\Hd k.2.2.1/\True->I k->(iB (decide (k.2.1<b)) ((e<=k.2.1/\k.2.1<b)/\f/\f/\(0:(Ty.int u64).den)<=(32:Int)/\I d/\a d<a k) ((e<=i64.wrap (p.1+b)/\i64.wrap (p.1+b)<h)/\J (List.set k.2.2.1 (i64.wrap (p.1+b)).toNat (u32.wrap k.1),()))))))/\N3 fun k=>let g:=(i64.wrap (p.1+1),k);J k->I g/\a g<a p) (True/\N3 fun r=>r.1=nc (nv p.2.1)->r.1=nc j))))
abbrev ID:=List Int×Int×Unit
def Em:A5 M7.args->Prop:=fun(x:ID)=>let e:=(u64.wrap x.2.1);let d:=(0:Int);let c:=(x.1.length:Int);(d<=c/\c<=c/\(↑(4:Nat):Int)*c<=(281474976710656:Int)/\c<=(9223372036854775807:Int))/\∃(I:Qo->Prop),∃(f: _->Nat),I (d,i64.wrap (c-(1:Int)),List.replicate c.toNat d,())/\∀(p:Qo),let a:=(u64.wrap (↑(BitVec.ofInt u64.bits (u64.wrap (p.1*2^Min.min ((32:Int).toNat) u64.bits)) |||BitVec.ofInt u64.bits (u64.wrap (gx d x.1 p.2.1))).toNat:Int));let b:=(a.tmod e,i64.wrap (p.2.1-1),List.set p.2.2.1 p.2.1.toNat (u32.wrap (u64.wrap (a.tdiv e))),());(Ty.int u64).wf p.1/\(Ty.int i64).wf p.2.1/\Hd p.2.2.1/\True->I p->(iB (decide (d<=p.2.1)) ((0:(Ty.int u64).den)<=(32:Int)/\(d<=p.2.1/\p.2.1<c)/\u64.wrap x.2.1≠d/\(d<=p.2.1/\p.2.1<(p.2.2.1.length:Int))/\u64.wrap x.2.1≠d/\I b/\f b<f p) (True/\N3 fun r=>r.1=nc (nv p.2.2.1)->True/\N3 fun f=>f.1=nc p.1.toNat->r.1=nc (nv x.1/x.2.1.toNat)/\f.1=nc (nv x.1%x.2.1.toNat)))
def Gf:A5 K9.args->Prop:=fun(x:ID)=>let i:=(1:Int);let g:=(nv x.1/(2:Nat)^x.2.1.toNat);let f:=(32:Int);let e:=(i64.wrap (Int.tdiv x.2.1 f));let d:=(0:Int);(iB (decide (x.2.1<d)) ((x.2.1<d->Lk Int= []/\false=false)/\(d<=x.2.1->Lk Int=nc g/\false=true)) (True/\N3 fun r=>let b:=(r.1.length:Int);let c:Prop:=(b<=i64.wrap (Int.tdiv x.2.1 f));let a:=(↑(List.drop e.toNat (List.take b.toNat r.1)).length:Int);r.1=nc (nv x.1)->f≠d/\(iB (decide c) ((x.2.1<d->Lk Int= []/\true=false)/\(d<=x.2.1->Lk Int=nc g/\true=true)) (f≠d/\(d<=i64.wrap (Int.tdiv x.2.1 f)/\i64.wrap (Int.tdiv x.2.1 f)<=b/\b<=b)/\f≠d/\(d<=a/\a<=a/\(↑(4:Nat):Int)*a<=(281474976710656:Int)/\a<=(9223372036854775807:Int))/\∃(I:UY->Prop),∃(j: _->Nat),I (d,List.replicate a.toNat d,())/\∀(p:UY),let k:Prop:=(i64.wrap (p.1+i)<a);let h:=(gx d (List.drop e.toNat (List.take b.toNat r.1)) p.1);(Ty.int i64).wf p.1/\Hd p.2.1/\True->I p->(iB (decide (p.1<a)) ((d<=p.1/\p.1<a)/\∃(J:D9->Prop),((iB (decide k) ((d<=i64.wrap (p.1+i)/\i64.wrap (p.1+i)<a)/\(0:(Ty.int u64).den)<=f/\J (u64.wrap (↑(BitVec.ofInt u64.bits (u64.wrap h) |||BitVec.ofInt u64.bits (u64.wrap (u64.wrap (gx d (List.drop e.toNat (List.take b.toNat r.1)) (i64.wrap (p.1+i)))*(2:Int)^Min.min f.toNat u64.bits))).toNat:Int),())) (J (u64.wrap h,()))))/\∀(l:D9),let c:=(i64.wrap (p.1+i),List.set p.2.1 p.1.toNat (u32.wrap (Int.fdiv l.1 ((2:Int)^Min.min (Int.tmod x.2.1 f).toNat u64.bits))),());(Ty.int u64).wf l.1/\True->J l->(0:(Ty.int i64).den)<=Int.tmod x.2.1 f/\(d<=p.1/\p.1<(p.2.1.length:Int))/\I c/\j c<j p) (True/\N3 fun r=>r.1=nc (nv p.2.1)->(x.2.1<d->r.1= []/\true=false)/\(d<=x.2.1->r.1=nc g/\true=true)))))))
def Lc:A5 P9.args->Prop:=fun(x:ID)=>let f:=(1:Int);let d:=(0:Int);let b:=(x.1.length:Int);(d<=i64.wrap (b+f)/\i64.wrap (b+f)<=i64.wrap (b+f)/\(↑(4:Nat):Int)*i64.wrap (b+f)<=(281474976710656:Int)/\i64.wrap (b+f)<=(9223372036854775807:Int))/\∃(I:Qo->Prop),∃(h: _->Nat),I (d,d,List.replicate (i64.wrap (b+f)).toNat d,())/\∀(p:Qo),let g:=(p.2.2.1.length:Int);let e:=(List.set p.2.2.1 b.toNat (u32.wrap p.1));let a:=(u64.wrap (↑(BitVec.ofInt u64.bits p.1|||BitVec.ofInt u64.bits (u64.wrap (u64.wrap (gx d x.1 p.2.1)*(2:Int)^Min.min x.2.1.toNat u64.bits))).toNat:Int));let c:=(a.fdiv ((2:Int)^Min.min ((32:Int).toNat) u64.bits),i64.wrap (p.2.1+f),List.set p.2.2.1 p.2.1.toNat (u32.wrap a),());(Ty.int u64).wf p.1/\(Ty.int i64).wf p.2.1/\Hd p.2.2.1/\True->I p->(iB (decide (p.2.1<b)) ((d<=p.2.1/\p.2.1<b)/\(0:(Ty.int i64).den)<=x.2.1/\(d<=p.2.1/\p.2.1<g)/\(0:(Ty.int u64).den)<=(32:Int)/\I c/\h c<h p) ((d<=b/\b<g)/\e.length=x.1.length+(1:Nat)/\nv e=nv x.1*2^x.2.1.toNat))
def pC (v:Int) (_:0<=v):Int.fdiv v (2^Min.min (Int.toNat 32) u64.bits)=v/4294967296:=by
 rw[show Min.min (Int.toNat 32) u64.bits=32 from rfl,sI _ (by decide)];rfl
def B7t (v:Int) (_:0<=v):Int.fdiv v (2^Min.min (Int.toNat 63) u64.bits)=v/9223372036854775808:=by
 rw[show Min.min (Int.toNat 63) u64.bits=63 from rfl,sI _ (by decide)];rfl
def HO {v b:Int} {k:Nat} (v0:0<=v) (v1:v<2^k) (b0:0<=b) (a:b*2^k<18446744073709551616) (c:v<18446744073709551616):(((BitVec.ofInt 64 (b*2^k) |||BitVec.ofInt 64 v).toNat:Nat):Int)=v+b*2^k:=by
 rw[BitVec.or_comm];exact TZ v0 v1 b0 a c
def IN (x:A5 Dk.args) (y:awf Dk.args x) (H:Dk.pre x):Xw x:=by
 obtain⟨a,b,_⟩:=x;have F:A7 a:=A3 y.1.2;have G:A7 b:=A3 y.2.1.2;change List Int at a b;obtain⟨R,T⟩:a.length<=17592186044416/\b.length<=17592186044416:=H;have U:=C9 F;have V:=C9 G;simp only[Xw,iB,N3];refine⟨trivial, ?_⟩;rintro⟨M,_⟩ _ g;refine⟨trivial, ?_⟩;rintro⟨W,_⟩ _ w;simp only at g w⊢;subst g w;refine⟨fun p=>p.2.1.length<=p.1.length/\p.1.length<=17592186044416/\nv p.1+nv p.2.1=nv a+nv b,⟨fun h=> ?_,fun h=> ?_⟩, ?_⟩
 . have h:=qA h;refine⟨by show(nc (nv a)).length<=(nc (nv b)).length;omega,by show(nc (nv b)).length<= _;omega, ?_⟩;show nv (nc (nv b))+nv (nc (nv a))= _;rw[F3,F3,vV]
 . have h:=qB h;refine⟨by show(nc (nv b)).length<=(nc (nv a)).length;omega,by show(nc (nv a)).length<= _;omega, ?_⟩;show nv (nc (nv a))+nv (nc (nv b))= _;rw[F3,F3]
 rintro⟨P,Q,_⟩ ⟨I,J,_⟩ ⟨n,A,o⟩;change List Int at P Q;simp only at n A o⊢;have s:A7 P:=A3 I.2;have t:A7 Q:=A3 J.2;rw[wv (a:=(P.length:Int)+1) (by omega)];refine⟨⟨by omega,qI _,by simp;omega,by omega⟩, ?_⟩;refine⟨fun p=>0<=p.2.1/\p.2.1<=(P.length:Int)/\0<=p.1/\p.1<=1/\p.2.2.1.length=P.length+1/\nv (p.2.2.1.take p.2.1.toNat)+4294967296^p.2.1.toNat*p.1.toNat=nv (P.take p.2.1.toNat)+nv (Q.take p.2.1.toNat),fun p=>((P.length:Int)-p.2.1).toNat,⟨qI _,qF _,qI _,by show(0:Int)<=1;omega,by rw[rN];omega,by simp[nv]⟩, ?_⟩;rintro⟨f,i,out,_⟩ ⟨_,_,O,_⟩ ⟨d,B,D,E,r,j⟩;change Int at f i;change List Int at out;simp only at d B D E r j⊢;have N:=L8 s i.toNat;have dQ:=L8 t i.toNat;refine⟨fun k=> ?_,fun k=> ?_⟩
 . have h:i<(P.length:Int):=qA k;rw[Ei s d h,V4 (a:=(dg P i.toNat:Int)) (by omega) (by omega),V4 (a:=f+(dg P i.toNat:Int)) (by omega) (by omega)];refine⟨⟨d,h⟩,fun p=>p.1=f+(dg P i.toNat:Int)+(dg Q i.toNat:Int),⟨fun c=> ?_,fun c=> ?_⟩, ?_⟩
   . have c:=qA c;refine⟨⟨d,c⟩, ?_⟩;show u64.wrap _= _;rw[Ei t d c,V4 (a:=(dg Q i.toNat:Int)) (by omega) (by omega),V4 (by omega) (by omega)]
   . have c:=qB c;show f+(dg P i.toNat:Int)= _;rw[Nb (l:=Q) (by omega)];omega
   rintro⟨z,_⟩ _ u;change Int at z;simp only at u⊢;subst u;refine⟨⟨d,by omega⟩,by decide, ?_⟩;rw[pC _ (by omega),wv (by omega),Be];refine⟨⟨by omega,by omega,by omega,by omega,by rw[qS];exact r, ?_⟩,by omega⟩;rw[show(i+1).toNat=i.toNat+1 from by omega,R6 (by omega),I0 P,I0 Q,sA];exact aA j (by omega)
 . have h:=qB k;refine⟨⟨by omega,by omega⟩,trivial, ?_⟩;rintro⟨M,_⟩ _ g;simp only at g⊢;rw[g];congr 1;rw[show i.toNat=P.length from by omega,qQ (qR P.length),qQ n]at j;rw[qU,w32 (by omega) (by omega)];have e:=R6 (l:=out) (i:=P.length) (v:=f) (by omega);rw[qQ (by rw[qS];omega)]at e;rw[e,j,o]
def IR (x:A5 Dn.args) (F:awf Dn.args x) (O:Dn.pre x):Ya x:=by
 obtain⟨a,d,_⟩:=x;have I:A7 a:=A3 F.1.2;have J:A7 d:=A3 F.2.1.2;change List Int at a d;obtain⟨Y,Z⟩:a.length<=17592186044416/\d.length<=17592186044416:=O;have T:=C9 I;have a0:=C9 J;simp only[Ya,iB,N3,Ed];refine⟨trivial, ?_⟩;rintro⟨r,_⟩ _ c;refine⟨trivial, ?_⟩;rintro⟨s,_⟩ _ g;refine⟨trivial, ?_⟩;rintro⟨w,_⟩ _ k;simp only at c g k⊢;rw[c,g,F3,F3]at k;subst k;refine⟨fun h=> ?_,fun h=> ?_⟩
 . have h:=qA h;refine⟨fun _=>⟨by trivial,by trivial⟩,fun v=> ?_⟩;unfold Bm at h;rw[qH (by omega)]at h;split at h<;>omega
 . have h:=qB h;have v:nv d<=nv a:=by
    rcases sC (nv a) (nv d)with j|j
    . rw[Lx j]at h;omega
    . exact j
   have A:A7 r:=c▸J3 _;have D:A7 s:=g▸J3 _;have B:nv r=nv a:=by rw[c,F3]
   have E:nv s=nv d:=by rw[g,F3]
   have X:r.length<=a.length:=by rw[c];exact T
   have Q:s.length<=r.length:=by rw[c,g];exact I9 v
   rw[<-B, <-E]at v⊢;clear c g B E;refine⟨⟨by omega,qI _,by simp;omega,by omega⟩, ?_⟩;refine⟨fun p=>0<=p.2.1/\p.2.1<=(r.length:Int)/\0<=p.1/\p.1<=1/\p.2.2.1.length=r.length/\nv (r.take p.2.1.toNat)+4294967296^p.2.1.toNat*p.1.toNat=nv (p.2.2.1.take p.2.1.toNat)+nv (s.take p.2.1.toNat),fun p=>((r.length:Int)-p.2.1).toNat,⟨qI _,qF _,qI _,by show(0:Int)<=1;omega,by simp,by simp[nv]⟩, ?_⟩;rintro⟨o,i,out,_⟩ ⟨_,_,R,_⟩ ⟨f,j,G,H,u,n⟩;change Int at o i;change List Int at out;simp only at f j G H u n⊢;have N:A7 out:=A3 R.2;have U:=L8 A i.toNat;have V:=L8 D i.toNat;refine⟨fun t=> ?_,fun t=> ?_⟩
   . have h:i<(r.length:Int):=qA t;rw[Ei A f h,V4 (a:=(dg r i.toNat:Int)) (by omega) (by omega)];refine⟨⟨f,h⟩,fun p=>p.1=((dg r i.toNat:Int)-o-(dg s i.toNat:Int))%18446744073709551616,⟨fun b=> ?_,fun b=> ?_⟩, ?_⟩
     . have b:=qA b;refine⟨⟨f,b⟩, ?_⟩;show u64.wrap _= _;rw[Ei D f b,V4 (a:=(dg s i.toNat:Int)) (by omega) (by omega),Bf,Bf];omega
     . have b:=qB b;show u64.wrap _= _;rw[Nb (l:=s) (by omega),Bf];omega
     rintro⟨w,_⟩ _ k;change Int at w;simp only at k⊢;refine⟨⟨f,by omega⟩,by decide, ?_⟩;rw[B7t _ (by omega),wv (by omega),Be];refine⟨⟨by omega,by omega,by omega,by omega,by rw[qS];exact u, ?_⟩,by omega⟩;rw[show(i+1).toNat=i.toNat+1 from by omega,R6 (by omega),I0 r,I0 s,sA];exact TE n (by omega)
   . have h:=qB t;refine⟨trivial, ?_⟩;rintro⟨q,_⟩ _ z;simp only at z⊢;refine⟨fun W=>by omega,fun _=>⟨?_,by trivial⟩⟩;rw[z];congr 1;rw[show i.toNat=r.length from by omega,qQ (qR _),qQ (by omega),qQ Q]at n;have y:nv out<4294967296^out.length:=Fb N;rw[u]at y;have M:o.toNat=0:=DI (P:=4294967296^r.length) (x:=nv out) (by omega) y;rw[M,wM,sS]at n;omega
def IQ (x:A5 Dm.args) (T:awf Dm.args x) (ac:Dm.pre x):Xz x:=by
 obtain⟨g,n,_⟩:=x;have a6:A7 g:=A3 T.1.2;have a7:A7 n:=A3 T.2.1.2;change List Int at g n;obtain⟨aj,am⟩:g.length<=17592186044416/\n.length<=17592186044416:=ac;have ae:=C9 a6;have af:=C9 a7;simp only[Xz,iB,N3];refine⟨trivial, ?_⟩;rintro⟨a,_⟩ _ d;refine⟨trivial, ?_⟩;rintro⟨b,_⟩ _ f;simp only at d f⊢;have J:A7 a:=d▸J3 _;have N:A7 b:=f▸J3 _;have ai:a.length<=17592186044416:=by rw[d];omega
 have ak:b.length<=17592186044416:=by rw[f];omega
 have X:nv a=nv g:=by rw[d,F3]
 have Y:nv b=nv n:=by rw[f,F3]
 rw[<-X, <-Y];clear d f X Y ae af;refine⟨fun h=> ?_,fun _=> ?_⟩
 . rw[L6]at h;simp only[vM,rS]at h;have:nv a*nv b=0:=by
    rcases h with h|h
    . rw[qO (l:=a) (by omega)];simp[nv]
    . rw[qO (l:=b) (by omega)];simp[nv]
   rw[this,O3]
 have a2:i64.wrap ((a.length:Int)+(b.length:Int))=((a.length+b.length:Nat):Int):=by
  rw[wv (by omega)];omega
 rw[a2];refine⟨⟨by omega,qI _,by simp;omega,by omega⟩, ?_⟩;refine⟨fun p=>0<=p.1/\p.1<=(a.length:Int)/\p.2.1.length=a.length+b.length/\nv p.2.1=nv (a.take p.1.toNat)*nv b/\∀j,p.1.toNat+b.length<=j->dg p.2.1 j=0,fun p=>((a.length:Int)-p.1).toNat,⟨qI _,qF _,by rw[rN,qU],by simp[nv,Ox],fun j _=>GR _ _⟩, ?_⟩;rintro⟨i,out,_⟩ ⟨_,ah,_⟩ ⟨A,a4,B,t,D⟩;change Int at i;change List Int at out;simp only at A a4 B t D⊢;refine⟨fun z=> ?_,fun z=> ?_⟩
 . have h:i<(a.length:Int):=qA z;have Z:=L8 J i.toNat;rw[Ei J A h];refine⟨fun p=>p.1.length=a.length+b.length/\nv p.1=nv (a.take (i.toNat+1))*nv b/\∀j,i.toNat+1+b.length<=j->dg p.1 j=0,⟨⟨A,h⟩,fun G=> ?_,fun G=> ?_⟩, ?_⟩
   . have G:(dg a i.toNat:Int)=0:=qA G;refine⟨B, ?_,fun j u=>D j (by omega)⟩;show nv out= _;rw[t,I0,show dg a i.toNat=0 from by omega,wM,sS]
   . refine⟨fun p=>0<=p.2.1/\p.2.1<=(b.length:Int)/\0<=p.1/\p.1<=4294967295/\p.2.2.1.length=a.length+b.length/\nv p.2.2.1+4294967296^(i.toNat+p.2.1.toNat)*p.1.toNat=nv out+4294967296^i.toNat*(dg a i.toNat*nv (b.take p.2.1.toNat))/\∀j,i.toNat+b.length<=j->dg p.2.2.1 j=0,fun p=>((b.length:Int)-p.2.1).toNat,⟨qI _,qF _,qI _,by show(0:Int)<=4294967295;omega,B,by simp[nv],D⟩, ?_⟩;rintro⟨c,j,o,_⟩ ⟨_,_,ad,_⟩ ⟨w,a3,H,I,y,r,s⟩;change Int at c j;change List Int at o;simp only at w a3 H I y r s⊢;have O:A7 o:=A3 ad.2;refine⟨fun E=> ?_,fun E=> ?_⟩
     . have u:j<(b.length:Int):=qA E;have a0:=L8 N j.toNat;rw[wv (a:=i+j) (by omega)];refine⟨⟨w,u⟩,⟨by omega,by omega⟩,⟨by omega,by omega⟩,by decide, ?_⟩;rw[Ei N w u,V9 O,show(i+j).toNat=i.toNat+j.toNat from by omega];have ag:=L8 O (i.toNat+j.toNat);have aa:dg a i.toNat*dg b j.toNat<=4294967295*4294967295:=uX Z a0;have ab:(dg a i.toNat:Int)*(dg b j.toNat:Int)=((dg a i.toNat*dg b j.toNat:Nat):Int):=(uQ _ _).symm;rw[V4 (a:=(dg a i.toNat:Int)) (by omega) (by omega),V4 (a:=(dg b j.toNat:Int)) (by omega) (by omega),V4 (a:=(dg o (i.toNat+j.toNat):Int)) (by omega) (by omega),ab];generalize a5:dg a i.toNat*dg b j.toNat=M at aa;rw[V4 (a:=(M:Int)) (by omega) (by omega),V4 (a:=(M:Int)+(dg o (i.toNat+j.toNat):Int)) (by omega) (by omega),V4 (by omega) (by omega),pC _ (by omega),wv (by omega),Be];refine⟨⟨by omega,by omega,by omega,by omega,by rw[qS];exact y, ?_,fun q Q=> ?_⟩,by omega⟩
       . have F:=Ia (l:=o) (k:=i.toNat+j.toNat) (v:=(c+((M:Int)+(dg o (i.toNat+j.toNat):Int)))%4294967296) (by omega);rw[show(j+1).toNat=j.toNat+1 from by omega,I0 b, <-uF i.toNat,sA,sX (dg a i.toNat)];have a1:dg a i.toNat*(4294967296^j.toNat*dg b j.toNat)=4294967296^j.toNat*M:=by rw[<-a5,zW]
         rw[a1,sX (4294967296^i.toNat), <-sO (4294967296^i.toNat) (4294967296^j.toNat), <-uU, <-uF (nv out), <-r];generalize 4294967296^(i.toNat+j.toNat)=P at*;have a8:((c+((M:Int)+(dg o (i.toNat+j.toNat):Int)))%4294967296).toNat+4294967296*((c+((M:Int)+(dg o (i.toNat+j.toNat):Int)))/4294967296).toNat=c.toNat+dg o (i.toNat+j.toNat)+M:=by omega
         have a9:=tF (P* ·) a8;simp only[sX, <-sO]at a9;omega
       . rw[Wb (by omega),qH (by omega)];exact s q Q
     . have u:=qB E;rw[wv (a:=i+(b.length:Int)) (by omega),w32 H I];refine⟨⟨by omega,by omega⟩,⟨by show(o.set _ _).length= _;rw[qS];exact y, ?_,fun q Q=> ?_⟩⟩
       . show nv (o.set _ _)= _;have F:=Ia (l:=o) (k:=(i+(b.length:Int)).toNat) (v:=c) (by omega);rw[s _ (by omega),wM,sS]at F;rw[F,show(i+(b.length:Int)).toNat=i.toNat+b.length from by omega];rw[show j.toNat=b.length from by omega,qQ (qR b.length)]at r;rw[r,I0,uZ,t,sO]
       . show dg (o.set _ _) q=0;rw[Wb (by omega),qH (by omega)];exact s q (by omega)
   . rintro⟨o,_⟩ _ ⟨U,V,W⟩;simp only at U V W⊢;rw[wv (by omega),show(i+1).toNat=i.toNat+1 from by omega];exact⟨⟨by omega,by omega,U,V,W⟩,by omega⟩
 . have h:=qB z;refine⟨trivial, ?_⟩;rintro⟨an,_⟩ _ R;simp only at R⊢;rw[R,t,qQ (by omega)]
def La (x:A5 M7.args) (D:awf M7.args x) (P:M7.pre x):Em x:=by
 obtain⟨l,d,_⟩:=x;have O:A7 l:=A3 D.1.2;change List Int at l;change Int at d;have J:u32.min<=d/\d<=u32.max:=D.2.1;rw[PW,PV]at J;obtain⟨X,o⟩:l.length<=17592186044416/\d≠0:=P;simp only[Em,iB,N3];have T:u64.wrap d=d:=V4 (by omega) (by omega);rw[T,wv (a:=(l.length:Int)-1) (by omega)];refine⟨⟨by omega,qI _,by simp;omega,by omega⟩, ?_⟩;refine⟨fun p=> -1<=p.2.1/\p.2.1<(l.length:Int)/\0<=p.1/\p.1<d/\p.2.2.1.length=l.length/\nv (l.drop (p.2.1+1).toNat)=nv (p.2.2.1.drop (p.2.1+1).toNat)*d.toNat+p.1.toNat,fun p=>(p.2.1+1).toNat,⟨by show(-1:Int)<=(l.length:Int)-1;omega,by show(l.length:Int)-1< _;omega,qI _,by show(0:Int)<d;omega,by simp, ?_⟩, ?_⟩
 . show nv (l.drop ((l.length:Int)-1+1).toNat)=nv ((List.replicate _ 0).drop ((l.length:Int)-1+1).toNat)* _ + _;rw[sF (by omega),sF (by rw[rN];omega)];simp[nv]
 rintro⟨c,i,q,_⟩ _ ⟨H,j,s,I,u,g⟩;change Int at c i;change List Int at q;simp only at H j s I u g⊢;refine⟨fun r=> ?_,fun r=> ?_⟩
 . have h:0<=i:=qA r;have w:=Sa O h j;have M:=T7 (l:=l) h j;rw[show Min.min (Int.toNat 32) u64.bits=32 from rfl];generalize gx 0 l i=b at*;have E:u64.wrap (c*2^32)=c*2^32:=V4 (by omega) (by omega);have F:u64.wrap b=b:=V4 (by omega) (by omega);have G:(((BitVec.ofInt u64.bits (c*2^32) |||BitVec.ofInt u64.bits b).toNat:Nat):Int)=b+c*4294967296:=HO (v:=b) (b:=c) (k:=32) w.1 (by omega) s (by omega) (by omega);rw[E,F,G,V4 (a:=b+c*4294967296) (by omega) (by omega),wv (a:=i-1) (by omega)];have t:0<=b+c*4294967296:=by omega
   rw[uJ t,IntWalk.u64_quo _ _ ⟨t,by omega,by omega⟩];have y:=g0e t (show 0<=d by omega);have V:(b+c*4294967296)/d<4294967296:=by
    rw[g1x (by omega)];have:(c+1)*4294967296<=d*4294967296:=sJ (by omega) (by decide);omega
   have A:=g2e (b+c*4294967296) o;have Q:=zJ (b+c*4294967296) (b:=d) (by omega);have U:=yH (b+c*4294967296) d;rw[w32 y (by omega)];generalize (b+c*4294967296)/d=f at*;generalize (b+c*4294967296)%d=ri at*;refine⟨by decide,⟨h,j⟩,o,⟨h,by omega⟩,o,⟨by omega,by omega,A,Q,by rw[qS];exact u, ?_⟩,by omega⟩;rw[show i-1+1=i from by omega,M];have N:(q.set i.toNat f).drop i.toNat=f::q.drop (i+1).toNat:=by
    have n:i.toNat<q.length:=by omega
    rw[xH (by rw[qS];exact n),List.getElem_set_self,yW (by omega),show(i+1).toNat=i.toNat+1 from by omega]
   rw[N];simp only[nv];rw[g];have R:(b.toNat:Int)+4294967296*c.toNat=f.toNat*d.toNat+ri.toNat:=by
    rw[uE w.1,uE s,uE y,uE (show 0<=d by omega),uE A,g1z f];omega
   have W:b.toNat+4294967296*c.toNat=f.toNat*d.toNat+ri.toNat:=by
    have:((b.toNat+4294967296*c.toNat:Nat):Int)=((f.toNat*d.toNat+ri.toNat:Nat):Int):=by
     rw[wB,wB,uQ,uQ];exact R
    exact g1h this
   rw[sX, <-sO,uZ];omega
 . have h:¬0<=i:=qB r;rw[show(i+1).toNat=0 from by omega,tZ,tZ]at g;refine⟨trivial, ?_⟩;rintro⟨Y,_⟩ _ z;refine⟨trivial, ?_⟩;rintro⟨Z,_⟩ _ B;simp only at z B⊢;have n:c.toNat<d.toNat:=by omega
   rw[sP]at g;rw[z,B,g,g2j,tU n,g2i (by omega),uG n,sS];exact⟨rfl,rfl⟩
def Vm (x:A5 P9.args) (F:awf P9.args x) (E:P9.pre x):Lc x:=by
 obtain⟨l,s,_⟩:=x;have u:A7 l:=A3 F.1.2;change List Int at l;change Int at s;obtain⟨Q,G,R⟩:l.length<=17592186044416/\0<=s/\s<=31:=E;simp only[Lc,iB];rw[wv (a:=(l.length:Int)+1) (by omega)];refine⟨⟨by omega,qI _,by simp;omega,by omega⟩, ?_⟩;have N:(2:Nat)^s.toNat<=2^31:=rZ (by decide) (by omega);have J:0<(2:Nat)^s.toNat:=tP (by decide);have d:((2:Int)^s.toNat)=((2^s.toNat:Nat):Int):=by rw[xI];rfl
 refine⟨fun p=>0<=p.2.1/\p.2.1<=(l.length:Int)/\0<=p.1/\p.1<2^s.toNat/\p.2.2.1.length=l.length+1/\nv (p.2.2.1.take p.2.1.toNat)+4294967296^p.2.1.toNat*p.1.toNat=nv (l.take p.2.1.toNat)*2^s.toNat,fun p=>((l.length:Int)-p.2.1).toNat,⟨qI _,qF _,qI _,by show(0:Int)<2^s.toNat;rw[d];omega,by rw[rN];omega,by simp[nv]⟩, ?_⟩;rintro⟨c,i,out,_⟩ ⟨_,_,O,_⟩ ⟨f,y,t,o,r,g⟩;change Int at c i;change List Int at out;simp only at f y t o r g⊢;have H:c<((2^s.toNat:Nat):Int):=by rw[<-d];exact o
 refine⟨fun n=> ?_,fun n=> ?_⟩
 . have j:i<(l.length:Int):=qA n;have dl:=L8 u i.toNat;have D:Min.min (Int.toNat s) u64.bits=s.toNat:=by show Min.min (Int.toNat s) 64= _;omega
   rw[Ei u f j,D,d];have h:(dg l i.toNat:Int)*((2^s.toNat:Nat):Int)=((dg l i.toNat*2^s.toNat:Nat):Int):=(uQ _ _).symm;have I:dg l i.toNat*2^s.toNat<=4294967295*2^s.toNat:=rK _ dl;have w:(((BitVec.ofInt u64.bits c|||BitVec.ofInt u64.bits ((dg l i.toNat*2^s.toNat:Nat):Int)).toNat:Nat):Int)=c+((dg l i.toNat*2^s.toNat:Nat):Int):=by
    have:=TZ (v:=c) (b:=(dg l i.toNat:Int)) (k:=s.toNat) t o (by omega) (by rw[d,h];omega) (by omega);rw[d,h]at this;exact this
   rw[V4 (a:=(dg l i.toNat:Int)) (by omega) (by omega),h,V4 (a:=((dg l i.toNat*2^s.toNat:Nat):Int)) (by omega) (by omega),w,V4 (by omega) (by omega),pC _ (by omega),wv (by omega),Be];generalize z:dg l i.toNat*2^s.toNat=M at*;refine⟨⟨f,j⟩,G,⟨f,by omega⟩,by decide,⟨by omega,by omega,by omega, ?_,by rw[qS];exact r, ?_⟩,by omega⟩
   . generalize 2^s.toNat=T at*;omega
   . rw[show(i+1).toNat=i.toNat+1 from by omega,R6 (by omega),I0 l,sA,uZ, <-g,sO (4294967296^i.toNat) (dg l i.toNat),z];generalize 4294967296^i.toNat=P at*;have A:((c+(M:Int))%4294967296).toNat+4294967296*((c+(M:Int))/4294967296).toNat=c.toNat+M:=by omega
     have B:=tF (P* ·) A;simp only[sX, <-sO]at B;omega
 . have j:¬i<(l.length:Int):=qB n;rw[qU,w32 (by omega) (by omega)];refine⟨⟨by omega,by omega⟩,by rw[qS];exact r, ?_⟩;have e:=R6 (l:=out) (i:=l.length) (v:=c) (by omega);rw[qQ (by rw[qS];omega)]at e;rw[show i.toNat=l.length from by omega,qQ (qR l.length)]at g;rw[e,g]
def Nt (x:A5 K9.args) (J:awf K9.args x) (R:K9.pre x):Gf x:=by
 obtain⟨a,n,_⟩:=x;have Q:A7 a:=A3 J.1.2;have G:=(show i64.min<=n/\n<=i64.max from J.2.1);rw[Ru,Zh]at G;change List Int at a;change Int at n;have a3:a.length<=17592186044416:=R;have V:=C9 Q;have Y: -9223372036854775808<=n/\n<=9223372036854775807:=G;simp only[Gf,iB,N3];refine⟨fun h=> ?_,fun h=>⟨trivial, ?_⟩⟩
 . have h:=qA h;exact⟨fun _=>⟨by trivial,by trivial⟩,fun g=>by omega⟩
 have h:=qB h;have z:0<=n:=by omega
 rintro⟨r,_⟩ _ o;simp only at o⊢;have A:i64.wrap (Int.tdiv n 32)=((n.toNat/32:Nat):Int):=by
  rw[yP z,wv (by omega)];omega
 have B:(Int.tmod n 32).toNat=n.toNat%32:=by rw[uJ z];omega
 have N:(0:Int)<=Int.tmod n 32:=zE _ z;have D:n.toNat=32*(n.toNat/32)+n.toNat%32:=by omega
 have O:n.toNat%32<=31:=by omega
 have E:Min.min (n.toNat%32) u64.bits=n.toNat%32:=by show Min.min (n.toNat%32) 64= _;omega
 rw[A,B,E];have T:nv r=nv a:=by rw[o,F3]
 have I:A7 r:=o▸J3 _;have a0:r.length<=a.length:=by rw[o];exact V
 have u:=aT (l:=r) I (k:=n.toNat/32) (s:=n.toNat%32);rw[<-D,T]at u;clear A B E;refine⟨by decide,fun g=> ?_,fun g=> ?_⟩
 . have g:=qA g;refine⟨fun c=>by omega,fun _=>⟨?_,by trivial⟩⟩;rw[u,sF (by omega),dH,g4g,O3]
 . have g:=qB g;rw[u];rw[show(((n.toNat/32:Nat):Int)).toNat=n.toNat/32 from qU _,show((r.length:Int)).toNat=r.length from qU _,qQ (qR _)];have f:A7 (r.drop (n.toNat/32)):=fun y hy=>I y (vL hy)
   have a1:(r.drop (n.toNat/32)).length<=r.length:=by rw[sQ];omega
   refine⟨by decide,⟨by omega,by omega,qI _⟩,by decide,⟨by omega,qI _,by omega,by omega⟩, ?_⟩;clear u D;generalize r.drop (n.toNat/32)=t at*;generalize n.toNat%32=s at*;have P:nv t/2^s<4294967296^t.length:=yC (wU _ _) (Fb f);refine⟨fun p=>0<=p.1/\p.1<=(t.length:Int)/\p.2.1.length=t.length/\nv (p.2.1.take p.1.toNat)=nv t/2^s%4294967296^p.1.toNat,fun p=>((t.length:Int)-p.1).toNat,⟨qI _,qF _,by simp,by simp[nv];omega⟩, ?_⟩;rintro⟨i,out,_⟩ ⟨_,a2,_⟩ ⟨j,U,M,w⟩;change Int at i;change List Int at out;simp only at j U M w⊢;have W:=L8 f i.toNat;have X:=L8 f (i.toNat+1);refine⟨fun c=> ?_,fun c=> ?_⟩
   . have c:=qA c;rw[wv (a:=i+1) (by omega)];refine⟨⟨j,c⟩,fun p=>p.1=((dg t i.toNat+dg t (i.toNat+1)*4294967296:Nat):Int),⟨fun d=> ?_,fun d=> ?_⟩, ?_⟩
     . have d:=qA d;refine⟨⟨by omega,d⟩,by decide, ?_⟩;show u64.wrap _= _;rw[Ei f j c,Ei f (by omega) d,show(i+1).toNat=i.toNat+1 from by omega];rw[show Min.min (Int.toNat 32) u64.bits=32 from rfl];rw[V4 (a:=(dg t i.toNat:Int)) (by omega) (by omega),V4 (a:=(dg t (i.toNat+1):Int)) (by omega) (by omega),V4 (a:=(dg t (i.toNat+1):Int)*2^32) (by omega) (by omega)];have:=TZ (v:=(dg t i.toNat:Int)) (b:=(dg t (i.toNat+1):Int)) (k:=32) (by omega) (by omega) (by omega) (by omega) (by omega);rw[show u64.bits=64 from rfl,this,V4 (by omega) (by omega)];omega
     . have d:=qB d;show u64.wrap _= _;rw[Ei f j c,V4 (by omega) (by omega),Nb (i:=i.toNat+1) (by omega)];omega
     rintro⟨a4,_⟩ _ F;simp only at F⊢;refine⟨N,⟨j,by omega⟩,⟨by omega,by omega,by rw[qS];exact M, ?_⟩,by omega⟩;rw[show(i+1).toNat=i.toNat+1 from by omega,R6 (by omega),w,sA,Nat.mod_mul,A4o f _ O];congr 2;rw[F,Be];have:Int.fdiv ((dg t i.toNat+dg t (i.toNat+1)*4294967296:Nat):Int) (2^s)=(((dg t i.toNat+dg t (i.toNat+1)*4294967296)/2^s:Nat):Int):=by
      rw[show((2:Int)^s)=((2^s:Nat):Int)from by rw[xI];rfl,sI _ (qF _)];rfl
     rw[this];generalize (dg t i.toNat+dg t (i.toNat+1)*4294967296)/2^s=Z;omega
   . have c:=qB c;refine⟨trivial, ?_⟩;rintro⟨q,_⟩ _ H;simp only at H⊢;refine⟨fun h=>by omega,fun _=>⟨?_,by trivial⟩⟩;rw[show i.toNat=t.length from by omega,qQ (by omega),tU P]at w;rw[H,w]
def WP:An:= {join:= [(4,⟨[],[],[(0,false,[.val (.int .u32)]),(2,false,vI)],[],[]⟩),(7,⟨[],[],[(0,false,[.val (.int .u32)]),(2,false,vI)],[],[]⟩)]}
def Rb:An:= {}
def AE:An:= {}
def GD:An:= {plan:= [(2,[],[],true,(pZ9 0 3 (pZ9 5 3 (.p 10 (pZ9 12 3 (.p 16 (.p 17 (.e 3 (.p 4 (.e 8 (.p 9 (.p 11 (.e 15 (pZ9 18 3 .done))))))))))))))]}
def CW:An:= {loop:= [(7,⟨[4],[0],[(7,false,vU),(8,false,vU),(9,false,vU),(10,false,vU),(11,false,vU),(12,false,vU),(13,false,vU),(14,false,vU),(15,false,[.val .bool])],[],[]⟩)],plan:= [(9,[],[],true,(pZ9 0 6 .done))]}
def CV:An:= {}
def Co:ByteArray:=ByteArray.mk (([(0:UInt8),1,2,2,3,3,3,3,4,4,4,4,4,4,4,4,5,5,5,5,5,5,5,5,5,5,5,5,5,5,5,5,6,6,6,6,6,6,6,6,6,6,6,6,6,6,6,6,6,6,6,6,6,6,6,6,6,6,6,6,6,6,6,6].append [(7:UInt8),7,7,7,7,7,7,7,7,7,7,7,7,7,7,7,7,7,7,7,7,7,7,7,7,7,7,7,7,7,7,7,7,7,7,7,7,7,7,7,7,7,7,7,7,7,7,7,7,7,7,7,7,7,7,7,7,7,7,7,7,7,7,7]).append ([(8:UInt8),8,8,8,8,8,8,8,8,8,8,8,8,8,8,8,8,8,8,8,8,8,8,8,8,8,8,8,8,8,8,8,8,8,8,8,8,8,8,8,8,8,8,8,8,8,8,8,8,8,8,8,8,8,8,8,8,8,8,8,8,8,8,8].append [(8:UInt8),8,8,8,8,8,8,8,8,8,8,8,8,8,8,8,8,8,8,8,8,8,8,8,8,8,8,8,8,8,8,8,8,8,8,8,8,8,8,8,8,8,8,8,8,8,8,8,8,8,8,8,8,8,8,8,8,8,8,8,8,8,8,8])).toArray
def CE:A5 Fi.args->Prop:=fun(x:D9)=>∃(J:Db->Prop),((iB (decide (65536<=x.1)) ((0:(Ty.int u64).den)<=(16:Int)/\J (Int.fdiv x.1 ((2:Int)^Min.min ((16:Int).toNat) u32.bits),(16:Int),())) (J (x.1,(0:Int),()))))/\∀(p:Db),(Ty.int u32).wf p.1/\(Ty.int i64).wf p.2.1/\True->J p->∃(J:Db->Prop),((iB (decide (256<=p.1)) ((0:(Ty.int u64).den)<=(8:Int)/\J (Int.fdiv p.1 ((2:Int)^Min.min ((8:Int).toNat) u32.bits),i64.wrap (p.2.1+8),())) (J (p.1,p.2.1,()))))/\∀(p:Db),(Ty.int u32).wf p.1/\(Ty.int i64).wf p.2.1/\True->J p->((0:Int)<=IntKind.u8.wrap p.1/\IntKind.u8.wrap p.1<(↑(Co).data.toList.length:Int))/\i64.wrap (p.2.1+i64.wrap (DF (Co) (IntKind.u8.wrap p.1)))=(↑(J8 x.1.toNat):Int)
def Fu:A5 J6.args->Prop:=fun(x:D9)=>True/\Ed fun r=>r.1=(↑(J8 x.1.toNat):Int)->i64.wrap (32-r.1)=(32:Int)-(↑(J8 x.1.toNat):Int)
def Ik:A5 S4.args->Prop:=fun(x:UY)=>let c:=(↑x.2.1.length:Int);let b:=(0:Int);let a:=(x.2.1.length:Int);(iB (decide (x.1<a)) ((b<=x.1/\x.1<a)/\u64.wrap (gx b x.2.1 x.1)=if x.1<c then x.2.1.getD x.1.toNat b else b) (b=if x.1<c then x.2.1.getD x.1.toNat b else b))
def Mp:A5 X3.args->Prop:=fun(x:List Int×Int×Int×Unit)=>let d:=(32:Int);let c:=(2:Int);let b:=(x.1.length:Int);let a:=(0:Int);a<=i64.wrap (x.2.1-1)/\oW fun r=>(r.1=if i64.wrap (x.2.1-1)<b then List.getD x.1 (i64.wrap (x.2.1-1)).toNat a else a)->(0:(Ty.int u64).den)<=d/\a<=i64.wrap (x.2.1-c)/\oW fun e=>(e.1=if i64.wrap (x.2.1-c)<b then List.getD x.1 (i64.wrap (x.2.1-c)).toNat a else a)->(0:(Ty.int i64).den)<=x.2.2.1/\a<=i64.wrap (x.2.1-3)/\oW fun f=>(f.1=if i64.wrap (x.2.1-3)<b then List.getD x.1 (i64.wrap (x.2.1-3)).toNat a else a)->(0:(Ty.int i64).den)<=i64.wrap (d-x.2.2.1)/\u64.wrap (↑(BitVec.ofInt u64.bits (u64.wrap (u64.wrap (↑(BitVec.ofInt u64.bits (u64.wrap (r.1*c^Min.min d.toNat u64.bits)) |||BitVec.ofInt u64.bits e.1).toNat:Int)*c^Min.min x.2.2.1.toNat u64.bits)) |||BitVec.ofInt u64.bits (Int.fdiv f.1 (c^Min.min (i64.wrap (d-x.2.2.1)).toNat u64.bits))).toNat:Int)=(↑(nv x.1*2^x.2.2.1.toNat/(4294967296:Nat)^(x.2.1.toNat-(2:Nat))):Int)
abbrev C0k:=Int×Int×Int×Int×Int×Int×Int×Int×Bool×Unit
def Lb:A5 U9.args->Prop:=fun(x:Et)=>let l:=(17592186044416:Int);let k:=(2:Nat);let j:=(1:Int);let i:=(4294967296:Nat);let f:=(↑(nv x.1):Int);let d:=(↑(nv x.2.1):Int);let c:=(0:Int);let a:=(x.1.length:Int);(c<=i64.wrap (a-j)/\i64.wrap (a-j)<a)/\True/\Ed fun r=>r.1=32-(↑(J8 (gx c x.1 (i64.wrap (a-j))).toNat):Int)->((3:Int)<=a/\a<=a/\a<=l/\c<=r.1/\r.1<=31/\nv x.1*k^Int.toNat r.1<i^a.toNat)/\oW fun m=>m.1=(↑(nv x.1*k^Int.toNat r.1/i^(a.toNat-k)):Int)->((3:Int)<=a/\(x.2.1.length:Int)<=a/\a<=l/\c<=r.1/\r.1<=31/\nv x.2.1*k^Int.toNat r.1<i^a.toNat)/\oW fun n=>n.1=(↑(nv x.2.1*k^Int.toNat r.1/i^(a.toNat-k)):Int)->∃(I:C0k->Prop),∃(b: _->Nat),I (m.1,n.1,c,j,c,c,c,j,false,())/\∀(p:C0k),let h:=(decide (p.2.2.2.2.2.2.2.1<=p.2.1));let g:=(u64.wrap (Int.tdiv p.1 p.2.1)*p.2.2.2.2.1);let e:=(u64.wrap (Int.tdiv p.1 p.2.1)*p.2.2.2.2.2.2.2.1);let a:=(decide (u64.wrap (p.2.2.2.2.2.2.1+p.2.2.2.2.2.2.2.1)<=u64.wrap (p.1-p.2.1)));(Ty.int u64).wf p.1/\(Ty.int u64).wf p.2.1/\(Ty.int u64).wf p.2.2.1/\(Ty.int u64).wf p.2.2.2.1/\(Ty.int u64).wf p.2.2.2.2.1/\(Ty.int u64).wf p.2.2.2.2.2.1/\(Ty.int u64).wf p.2.2.2.2.2.2.1/\(Ty.int u64).wf p.2.2.2.2.2.2.2.1/\Ty.bool.wf p.2.2.2.2.2.2.2.2.1/\True->I p->(iB (K4 h a false) (p.2.1≠c/\p.2.1≠c/\I (p.2.1,Int.tmod p.1 p.2.1,p.2.2.2.1,p.2.2.2.2.1,u64.wrap (p.2.2.2.1+u64.wrap g),p.2.2.2.2.2.2.1,p.2.2.2.2.2.2.2.1,u64.wrap (p.2.2.2.2.2.2.1+u64.wrap e), !p.2.2.2.2.2.2.2.2.1,())/\b (p.2.1,Int.tmod p.1 p.2.1,p.2.2.2.1,p.2.2.2.2.1,u64.wrap (p.2.2.2.1+u64.wrap g),p.2.2.2.2.2.2.1,p.2.2.2.2.2.2.2.1,u64.wrap (p.2.2.2.2.2.2.1+u64.wrap e), !p.2.2.2.2.2.2.2.2.1,())<b p) (p.2.2.2.2.2.1=c\/∃(A':Int),∃(B':Int),(A'=if p.2.2.2.2.2.2.2.2.1=true then p.2.2.1*f-p.2.2.2.2.2.1*d else p.2.2.2.2.2.1*d-p.2.2.1*f)/\(B'=if p.2.2.2.2.2.2.2.2.1=true then p.2.2.2.2.2.2.1*d-p.2.2.2.1*f else p.2.2.2.1*f-p.2.2.2.2.2.2.1*d)/\c<=B'/\B'<=A'/\f=p.2.2.2.2.2.2.1*A'+p.2.2.2.2.2.1*B'/\d=p.2.2.2.1*A'+p.2.2.1*B'/\j<=p.2.2.2.2.2.1/\j<=p.2.2.2.2.2.2.1/\c<=p.2.2.1/\c<=p.2.2.2.1))
abbrev pS:=List Int×Bool×Unit
def Kz:A5 U8.args->Prop:=fun(x:List Int×Int×List Int×Int×Unit)=>True/\N3 fun r=>r.1=nc x.2.1.toNat->(E1 x.1/\E1 r.1)/\N3 fun a=>a.1=nc (nv x.1*nv r.1)->True/\N3 fun r=>r.1=nc x.2.2.2.1.toNat->(E1 x.2.2.1/\E1 r.1)/\N3 fun b=>b.1=nc (nv x.2.2.1*nv r.1)->(E1 a.1/\E1 b.1)/\∀(r:pS),Hd r.1/\True/\True->(nv a.1<nv b.1->r.1= []/\r.2.1=false)/\(nv b.1<=nv a.1->r.1=nc (nv a.1-nv b.1)/\r.2.1=true)->r.1=nc (nv x.1*x.2.1.toNat-nv x.2.2.1*x.2.2.2.1.toNat)
def B7w:∀k:Fin 256,DF Co (k.val:Int)=(J8 k.val:Int):=by decide+kernel
def LU (x:A5 Fi.args) (D:awf Fi.args x) (_:Fi.pre x):CE x:=by
 obtain⟨v,_⟩:=x;change Int at v;have B:=(show u32.min<=v/\v<=u32.max from D.1);rw[PW,PV]at B;simp only[CE,iB];have l:Int.fdiv v (2^Min.min (Int.toNat 16) u32.bits)=v/65536:=by
  rw[show Min.min (Int.toNat 16) u32.bits=16 from rfl,sI _ (by decide)];rfl
 rw[l];refine⟨fun p=>0<=p.1/\p.1<65536/\0<=p.2.1/\p.2.1<=16/\(J8 v.toNat:Int)=J8 p.1.toNat+p.2.1,⟨fun h=> ?_,fun h=> ?_⟩, ?_⟩
 . have h:=qA h;have e:=GL (n:=v.toNat) (k:=16) (by omega);refine⟨by decide,by show(0:Int)<=v/65536;omega,by show v/65536<65536;omega,by show(0:Int)<=16;omega,by show(16:Int)<=16;omega, ?_⟩;show(J8 v.toNat:Int)=J8 (v/65536).toNat+16;rw[e,show(v/65536).toNat=v.toNat/2^16 from by omega];omega
 . have h:=qB h;refine⟨by show(0:Int)<=v;omega,by show v<65536;omega,by show(0:Int)<=0;omega,by show(0:Int)<=16;omega, ?_⟩;show(J8 v.toNat:Int)=J8 v.toNat+0;omega
 rintro⟨w,n,_⟩ _ ⟨i,t,j,y,c⟩;change Int at w n;simp only at i t j y c⊢;have o:Int.fdiv w (2^Min.min (Int.toNat 8) u32.bits)=w/256:=by
  rw[show Min.min (Int.toNat 8) u32.bits=8 from rfl,sI _ (by decide)];rfl
 rw[o,wv (a:=n+8) (by omega)];refine⟨fun p=>0<=p.1/\p.1<256/\0<=p.2.1/\p.2.1<=24/\(J8 v.toNat:Int)=J8 p.1.toNat+p.2.1,⟨fun h=> ?_,fun h=> ?_⟩, ?_⟩
 . have h:=qA h;have e:=GL (n:=w.toNat) (k:=8) (by omega);refine⟨by decide,by show(0:Int)<=w/256;omega,by show w/256<256;omega,by show 0<=n+8;omega,by show n+8<=24;omega, ?_⟩;show(J8 v.toNat:Int)=J8 (w/256).toNat+(n+8);rw[c,e,show(w/256).toNat=w.toNat/2^8 from by omega];omega
 . have h:=qB h;exact⟨i,by show w<256;omega,j,by show n<=24;omega,c⟩
 rintro⟨u,m,_⟩ _ ⟨b,f,r,s,g⟩;change Int at u m;simp only at b f r s g⊢;have E:IntKind.u8.wrap u=u:=IntWalk.u8_in _ ⟨b,by omega⟩;have A:(Co.data.toList.length:Int)=256:=by decide+kernel
 have d:=B7w ⟨u.toNat,by omega⟩;simp only at d;rw[show((u.toNat:Nat):Int)=u from by omega]at d;have H:J8 u.toNat<=8:=by
  rcases sC 8 (J8 u.toNat)with h|h
  . have z:u.toNat≠0:=fun e=>by rw[e,Yw]at h;omega
    have F:=(Yv z).1;have G:2^8<=2^(J8 u.toNat-1):=rZ (by decide) (by omega);omega
  . exact h
 rw[E,d];refine⟨⟨b,by rw[A];exact f⟩, ?_⟩;rw[wv (a:=(J8 u.toNat:Int)) (by omega),wv (by omega),g];omega
def QW {v:Nat} (h:v<4294967296):J8 v<=32:=by
 rcases sC 32 (J8 v)with a|a
 . have b:v≠0:=fun e=>by rw[e,Yw]at a;omega
   have c:=(Yv b).1;have b:2^32<=2^(J8 v-1):=rZ (by decide) (by omega);omega
 . exact a
def Lq (x:A5 J6.args) (c:awf J6.args x) (_:J6.pre x):Fu x:=by
 obtain⟨v,_⟩:=x;change Int at v;have b:=(show u32.min<=v/\v<=u32.max from c.1);rw[PW,PV]at b;simp only[Fu,Ed];refine⟨trivial, ?_⟩;rintro⟨r,_⟩ _ a;simp only at a⊢;have:=QW (v:=v.toNat) (by omega);rw[a,wv (by omega)]
def Te (x:A5 S4.args) (g:awf S4.args x) (f:S4.pre x):Ik x:=by
 obtain⟨i,l,_⟩:=x;have c:A7 l:=A3 g.2.1.2;change Int at i;change List Int at l;have a:0<=i:=f;simp only[Ik,iB];refine⟨fun h=> ?_,fun h=> ?_⟩
 . have h:=qA h;have b:=Sa c a h;rw[qK h, <-S9 (d:=(0:Int)) a h,V4 b.1 (by omega)];exact⟨⟨a,h⟩,rfl⟩
 . have h:=qB h;rw[qH h]
def B2v {l:List Int} (h:A7 l) {i:Int} (a:0<=i):(if i<(l.length:Int)then l.getD i.toNat 0 else 0)=(dg l i.toNat:Int):=by
 split
 . exact V9 h
 . rw[Nb (by omega)];rfl
def Yd (x:A5 X3.args) (V:awf X3.args x) (T:X3.pre x):Mp x:=by
 obtain⟨l,n,s,_⟩:=x;have c:A7 l:=A3 V.1.2;change List Int at l;change Int at n s;obtain⟨a8,a7,a9,Z,a0,j⟩:3<=n/\(l.length:Int)<=n/\n<=17592186044416/\0<=s/\s<=31/\nv l*2^s.toNat<4294967296^n.toNat:=T;simp only[Mp,oW];rw[wv (a:=n-1) (by omega),wv (a:=n-2) (by omega),wv (a:=n-3) (by omega),wv (a:=32-s) (by omega)];refine⟨by omega, ?_⟩;rintro⟨a,_⟩ _ g;refine⟨by decide,by omega, ?_⟩;rintro⟨b,_⟩ _ h;refine⟨Z,by omega, ?_⟩;rintro⟨a1,_⟩ _ i;simp only at g h i⊢;rw[B2v c (by omega)]at g h i;have y:=L8 c (n-1).toNat;have z:=L8 c (n-2).toNat;have D:=L8 c (n-3).toNat;obtain⟨m,rfl⟩:∃m:Nat,n=(m:Int)+3:=⟨(n-3).toNat,by omega⟩;rw[show((m:Int)+3-1).toNat=m+2 from by omega]at g y;rw[show((m:Int)+3-2).toNat=m+1 from by omega]at h z;rw[show((m:Int)+3-3).toNat=m from by omega]at i D;rw[show((m:Int)+3).toNat=m+3 from by omega]at j⊢;rw[show m+3-2=m+1 from by omega];have o:=A1n l (n:=m) (by omega);have O:=S2 c m;have J:0<4294967296^m:=tP (by decide);subst g h i;generalize a3:dg l (m+2)=A at*;generalize a4:dg l (m+1)=B at*;generalize a5:dg l m=C at*;have U:=B4s (a:=nv l) (low:=nv (l.take m)) (lo:=C) (H:=A*4294967296+B) (P:=4294967296^m) (s:=s.toNat) J (by rw[o];grind) O (by omega);rw[sA,U];have u:(A*4294967296+B)*2^s.toNat<18446744073709551616:=by
  have E:(A*4294967296+B)*2^s.toNat*(4294967296^m*4294967296)<=nv l*2^s.toNat:=by
   have:(A*4294967296+B)*(4294967296^m*4294967296)<=nv l:=by rw[o];grind
   have:=rK (2^s.toNat) this;rwa[zO]at this
  have d:4294967296^(m+3)=18446744073709551616*(4294967296^m*4294967296):=by
   rw[sA,sA,sA];grind
  rw[d]at j;exact xC (yC E j)
 have Q:Min.min (Int.toNat s) u64.bits=s.toNat:=by show Min.min (Int.toNat s) 64= _;omega
 have R:Min.min (Int.toNat (32-s)) u64.bits=32-s.toNat:=by show Min.min (Int.toNat (32-s)) 64= _;omega
 rw[Q,R,show Min.min (Int.toNat 32) u64.bits=32 from rfl];have a6:A*4294967296+B<18446744073709551616:=by omega
 have W:(((BitVec.ofInt u64.bits (u64.wrap ((A:Int)*2^32)) |||BitVec.ofInt u64.bits (B:Int)).toNat:Nat):Int)=((A*4294967296+B:Nat):Int):=by
  rw[V4 (a:=(A:Int)*2^32) (by omega) (by omega)];have:=HO (v:=(B:Int)) (b:=(A:Int)) (k:=32) (by omega) (by omega) (by omega) (by omega) (by omega);rw[show u64.bits=64 from rfl,this];omega
 rw[W,V4 (a:=((A*4294967296+B:Nat):Int)) (by omega) (by omega)];have w:((2:Int)^s.toNat)=((2^s.toNat:Nat):Int):=by rw[xI];rfl
 have f:((A*4294967296+B:Nat):Int)*2^s.toNat=(((A*4294967296+B)*2^s.toNat:Nat):Int):=by rw[w,uQ]
 have X:Int.fdiv (C:Int) (2^(32-s.toNat))=((C/2^(32-s.toNat):Nat):Int):=by
  have E:((2:Int)^(32-s.toNat))=((2^(32-s.toNat):Nat):Int):=by rw[xI];rfl
  rw[E,sI _ (qF _)];rfl
 have M:C/2^(32-s.toNat)<2^s.toNat:=by
  rw[tS (tP (by decide)), <-Zu (by omega)];omega
 have I:(0:Int)<=(((A*4294967296+B)*2^s.toNat:Nat):Int):=qF _;rw[X,V4 (a:=((A*4294967296+B:Nat):Int)*2^s.toNat) (by rw[f];omega) (by rw[f];omega)];generalize C/2^(32-s.toNat)=L at*;have N:(L:Int)<2^s.toNat:=by rw[w];omega
 have a2:(2:Nat)^s.toNat<=2^31:=rZ (by decide) (by omega);have Y:=HO (v:=(L:Int)) (b:=((A*4294967296+B:Nat):Int)) (k:=s.toNat) (by omega) N (by omega) (by rw[f];omega) (by omega);rw[show u64.bits=64 from rfl,Y,f,V4 (a:=(L:Int)+(((A*4294967296+B)*2^s.toNat:Nat):Int)) (Int.add_nonneg (qF _) I) ?_]
 . constructor
   . exact Int.sub_nonneg.2 (Int.le_trans a0 (by decide))
   . rw[wB];exact Int.add_comm _ _
 . --the shifted number and the digits behind it are below 2^64
   have d:(18446744073709551616:Nat)=18446744073709551616/2^s.toNat*2^s.toNat:=by
    refine(Nat.div_mul_cancel ?_).symm;exact⟨2^(64-s.toNat),by rw[<-uU,show s.toNat+(64-s.toNat)=64 from by omega]⟩
   have F:A*4294967296+B<18446744073709551616/2^s.toNat:=by
    rw[d]at u;exact xC u
   have r:(A*4294967296+B+1)*2^s.toNat<=18446744073709551616:=by
    rw[d];exact rK _ F
   rw[uZ,xY]at r;have G:L+(A*4294967296+B)*2^s.toNat<18446744073709551616:=rC (by rw[vV];exact Nat.add_lt_add_left M _) r;have t:((L+(A*4294967296+B)*2^s.toNat:Nat):Int)<18446744073709551616:=uB.2 G;rw[wB]at t;exact Int.le_of_lt_add_one t
def Vl (x:A5 U9.args) (O:awf U9.args x) (a9:U9.pre x):Lb x:=by
 obtain⟨a,b,_⟩:=x;have k:A7 a:=A3 O.1.2;have an:A7 b:=A3 O.2.1.2;change List Int at a b;obtain⟨b4,T,J,D,aq⟩:a.length<=17592186044416/\3<=a.length/\Kt a/\nv b<=nv a/\b.length<=a.length:=a9;simp only[Lb,iB,oW,Ed];have W:i64.wrap ((a.length:Int)-1)=(a.length:Int)-1:=wv (by omega);rw[W,Ei k (by omega) (by omega),show((a.length:Int)-1).toNat=a.length-1 from by omega];refine⟨⟨by omega,by omega⟩,trivial, ?_⟩;rintro⟨s,_⟩ _ H;change Int at s;simp only at H⊢;rw[qU]at H;have E:=LR k J;have ar:=L8 k (a.length-1);have ap:=QW (v:=dg a (a.length-1)) (by omega);have ao:=(Yv E).2;have t:=A1c k (n:=a.length-1) (by omega) (s:=s.toNat) (by omega);rw[show a.length-1+1=a.length from by omega]at t;have a8:nv b*2^s.toNat<4294967296^a.length:=yC (rK _ D) t;have ax:=UW k J;rw[qU];refine⟨⟨by omega,qI _,by omega,by omega,by omega,t⟩, ?_⟩;rintro⟨X,_⟩ ⟨B,_⟩ i;refine⟨⟨by omega,by omega,by omega,by omega,by omega,a8⟩, ?_⟩;rintro⟨Y,_⟩ ⟨a7,_⟩ j;change Int at X Y;simp only at i j B a7⊢;have hK:s.toNat<=32*(a.length-2):=by omega
 rw[Jj,A4n hK]at i j;have o:0<2^(32*(a.length-2)-s.toNat):=tP (by decide);have a4:0<X:=by
  rw[i];have ag:=Sg a (n:=a.length-1) (by omega);have Z:2^(32*(a.length-2)-s.toNat)<=nv a:=by
   have ah:2^(32*(a.length-2)-s.toNat)<=4294967296^(a.length-1):=by
    rw[Jj];exact rZ (by decide) (by omega)
   have ai:=rU (4294967296^(a.length-1)) (sW E);omega
  have:=(vJ o).2 (by rw[xY];exact Z);omega
 have a6:Y<=X:=by rw[i,j];exact Int.ofNat_le.2 (Nat.div_le_div_right D)
 have a5:0<=Y:=by rw[j];exact qF _
 have a0:=wT (nv a) (2^(32*(a.length-2)-s.toNat));have aj:=vZ (nv a) o;have a2:=wT (nv b) (2^(32*(a.length-2)-s.toNat));have ak:=vZ (nv b) o;generalize 2^(32*(a.length-2)-s.toNat)=K at*;have am:X<=18446744073709551615:=by have:=B.2;rw[Zx]at this;exact this
 refine⟨fun p=>∃R,Leh X Y R p.1 p.2.1 p.2.2.1 p.2.2.2.1 p.2.2.2.2.1 p.2.2.2.2.2.1 p.2.2.2.2.2.2.1 p.2.2.2.2.2.2.2.1 p.2.2.2.2.2.2.2.2.1,fun p=>p.2.1.toNat,⟨0,Leh.start a5 a6 a4⟩, ?_⟩;rintro⟨x,y,ac,l,f,Q,g,d,ev,_⟩ _ ⟨R,c⟩;change Int at x y ac l f Q g d;change Bool at ev;simp only at c⊢;have au:=c.idX;have av:=c.idY;have b3:=c.yx;have w:=c.y0;have b2:=c.x0;have aa:=c.u10;have u:=c.u20;have N:=c.v10;have ab:=c.v20;have b8:x*1<=x*d:=tY ab (by omega);have ba:0<=y*g:=tL w N;have b7:0<=x*f:=tL (by omega) u;have b9:0<=y*l:=tL w aa;have b6:1*d<=x*d:=sJ (by omega) (by omega);refine⟨fun r=> ?_,fun _=> ?_⟩
 . rw[H8]at r;simp only[qC,rS]at r;obtain⟨c1,A⟩:=r;have z:1<=y:=by omega
   have b5:1*g<=y*g:=sJ z N;rw[V4 (a:=g+d) (by omega) (by omega),V4 (a:=x-y) (by omega) (by omega)]at A;have h:=c.step c1 A;have az:=h.idX;have b0:=h.idY;have I:=h.u20;have b1:=h.v20;have F:0<=x/y:=g0e (by omega) w;have ay:x/y<=x:=Int.ediv_le_self _ (by omega);have G:=h.y0;have ad:1*(g+x/y*d)<=y*(g+x/y*d):=sJ z (by omega);have ae:0<=x%y*d:=tL G (by omega);have T:1*(l+x/y*f)<=y*(l+x/y*f):=sJ z I;have af:0<=x%y*f:=tL G u;have U:0<=x/y*d:=tL F (by omega);have V:0<=x/y*f:=tL F u;rw[uJ (by omega),IntWalk.u64_quo _ _ ⟨by omega,by omega,by omega⟩];rw[V4 (a:=x/y*f) V (by omega),V4 (a:=x/y*d) U (by omega),V4 (a:=l+x/y*f) I (by omega),V4 (a:=g+x/y*d) (by omega) (by omega)];have aw:=zJ x (b:=y) (by omega);exact⟨by omega,by omega,⟨x,h⟩,by omega⟩
 . by_cases M:Q=0
   . exact .inl M
   . right;have a1:(nv a:Int)=X*(K:Int)+((nv a%K:Nat):Int):=by
      rw[i, <-uQ, <-wB,sP,a0]
     have a3:(nv b:Int)=Y*(K:Int)+((nv b%K:Nat):Int):=by
      rw[j, <-uQ, <-wB,sP,a2]
     exact c.apply M (P:=(K:Int)) (by omega) (qF _) (by omega) (qF _) (by omega) a1 a3
def Vk (x:A5 U8.args) (d:awf U8.args x) (l:U8.pre x):Kz x:=by
 obtain⟨a,x,b,y,_⟩:=x;have i:A7 a:=A3 d.1.2;have j:A7 b:=A3 d.2.2.1.2;change List Int at a b;change Int at x y;have n:=(show u64.min<=x/\x<=u64.max from d.2.1);have o:=(show u64.min<=y/\y<=u64.max from d.2.2.2.1);rw[eJ,Zx]at n o;obtain⟨s,t,k⟩:a.length<=8796093022208/\b.length<=8796093022208/\nv b*y.toNat<=nv a*x.toNat:=l;have u:=C9 i;have v:=C9 j;have w:(nc x.toNat).length<=2:=Ea (by omega);have z:(nc y.toNat).length<=2:=Ea (by omega);have A:=Ni (nv a) x.toNat;have B:=Ni (nv b) y.toNat;simp only[Kz,N3];refine⟨trivial, ?_⟩;rintro⟨r,_⟩ _ c;simp only at c⊢;subst c;refine⟨⟨by omega,by omega⟩, ?_⟩;rintro⟨E,_⟩ _ g;refine⟨trivial, ?_⟩;rintro⟨r,_⟩ _ c;simp only at c g⊢;subst c;refine⟨⟨by omega,by omega⟩, ?_⟩;rintro⟨F,_⟩ _ h;simp only at h⊢;rw[F3]at g h;subst g h;refine⟨⟨by omega,by omega⟩, ?_⟩;rintro⟨r,D,_⟩ _ ⟨_,f⟩;simp only at f⊢;rw[F3,F3]at f;exact(f k).1
noncomputable def Np:H1:= []
def Mz:An:= {join:= [(8,⟨[0,1,5],[0,1,2],[(7,false,vU)],[],[]⟩)],loop:= [(4,⟨[0,1,5],[0,1,2],[(7,false,vU),(8,false,vU)],[],[]⟩),(10,⟨[0,1,5,7,84,85],[0,2],[(9,false,vU),(86,false,vI)],[],[(1, .row (.int .u32) 116)]⟩),(23,⟨[0,5,7,134,135],[0,2],[(9,false,vU),(136,false,vI)],[],[(1, .row (.int .u32) 116)]⟩)],plan:= [(2,[3,10],[],true,(pZ9 0 3 (.q 3 (pZ9 4 6 (.q 10 (pZ9 11 3 .done)))))),(3,[5,13],[],true,(pZ9 0 5 (.q 5 (pZ9 6 7 (.q 13 (pZ9 14 4 .done)))))),(4,[9,18],[],true,(pZ9 0 9 (.q 9 (pZ9 10 8 (.q 18 (pZ9 19 4 .done))))))]}
def Ur:An:= {join:= [(12,⟨[4,6,7,8,9,10,35,36],[0],[],[],[(1, .row (.int .u32) 116),(2, .row (.int .u32) 116)]⟩)],loop:= [(8,⟨[4,6,7,8,9,10,35],[0],[(36,false,vI)],[],[(1, .row (.int .u32) 116),(2, .row (.int .u32) 116)]⟩)]}
noncomputable def Vd:H1:= [(126,Aq),(191,J6),(194,P9),(196,K9),(195,Ez (BM ⟨prog,tys⟩ [(53,Np,Mz)] f195.results.toList (f195.body.getD .skip) f195.ntmps))]
abbrev B4q:=Int×List Int×List Int×Unit
def Gg:A5 P4.args->Prop:=fun(x:Et)=>let L:=(63:Int);let D:=(32:Int);let w:=(2:Int);let u:=D.toNat;let t:=(1:Int);let c:=(0:Int);let b:=(x.2.1.length:Int);let q:Prop:=(c<=i64.wrap (b-c-t)/\i64.wrap (b-c-t)<b-c);(c<=i64.wrap (b-t)/\i64.wrap (b-t)<b)/\True/\Ed fun r=>r.1=D-(↑(J8 (gx c x.2.1 (i64.wrap (b-t))).toNat):Int)->(E1 x.2.1/\c<=r.1/\r.1<=31)/\N3 fun Q=>let g:=(List.getD Q.1 (c+i64.wrap (b-c-t)).toNat c);Q.1.length=List.length x.2.1+1/\nv Q.1=nv x.2.1*2^Int.toNat r.1->(c<=c/\c<=b/\b<=(Q.1.length:Int))/\(E1 x.1/\c<=r.1/\r.1<=31)/\N3 fun S=>let n:=(S.1.length:Int);S.1.length=List.length x.1+1/\nv S.1=nv x.1*2^Int.toNat r.1->(c<=i64.wrap (n-b)/\i64.wrap (n-b)<=i64.wrap (n-b)/\(↑(4:Nat):Int)*i64.wrap (n-b)<=(281474976710656:Int)/\i64.wrap (n-b)<=(9223372036854775807:Int))/\∃(I:B4q->Prop),∃(d: _->Nat),I (c,S.1,List.replicate (i64.wrap (n-b)).toNat c,())/\∀(p:B4q),let M:Prop:=(p.1<i64.wrap (n-b));let G:=(p.2.1.length:Int);let a:=(i64.wrap (i64.wrap (n-b)-t)-p.1);let A:Prop:=(c<=i64.wrap a/\i64.wrap a<(p.2.2.1.length:Int));let s:=(i64.wrap a+(b-c));let i:=(u64.wrap (↑(BitVec.ofInt u64.bits (u64.wrap (u64.wrap (List.getD p.2.1 s.toNat c)*w^Min.min u u64.bits)) |||BitVec.ofInt u64.bits (u64.wrap (List.getD p.2.1 (i64.wrap a+i64.wrap (b-c-t)).toNat c))).toNat:Int));let e:=(i64.wrap (i64.wrap a+b)+t);let m:Prop:=(c<=b-c/\b-c<i64.wrap e-i64.wrap a);(Ty.int i64).wf p.1/\Hd p.2.1/\Hd p.2.2.1/\True->I p->(iB (decide M) (∃(J:Et->Prop),((c<=i64.wrap a/\i64.wrap a<=i64.wrap e/\i64.wrap e<=G)/\m/\(0:(Ty.int u64).den)<=D/\(c<=i64.wrap (b-c-t)/\i64.wrap (b-c-t)<i64.wrap e-i64.wrap a)/\q/\u64.wrap g≠c/\q/\u64.wrap g≠c/\∃(J_1:D9->Prop),(∃(I:Db->Prop),∃(d: _->Nat),I (u64.wrap (i.tdiv (u64.wrap g)),i.tmod (u64.wrap g),())/\∀(N:Db),let z:=(u64.wrap (N.1-t),u64.wrap (N.2.1+u64.wrap g),());let y:Prop:=((u64.wrap (N.2.1+u64.wrap g)).fdiv (w^Min.min u u64.bits)≠c);let k:Prop:=(Int.fdiv N.1 (w^Min.min u u64.bits)≠c);let h:=(decide (u64.wrap (↑(BitVec.ofInt u64.bits (u64.wrap (N.2.1*w^Min.min u u64.bits)) |||BitVec.ofInt u64.bits (u64.wrap (List.getD p.2.1 (i64.wrap a+i64.wrap (b-c-w)).toNat c))).toNat:Int)<u64.wrap (N.1*u64.wrap (List.getD Q.1 (c+i64.wrap (b-c-w)).toNat c))));(Ty.int u64).wf N.1/\(Ty.int u64).wf N.2.1/\True->I N->(0:(Ty.int u64).den)<=D/\(decide k=false->c<=i64.wrap (b-c-w)/\i64.wrap (b-c-w)<b-c)/\(decide k=false->(0:(Ty.int u64).den)<=D)/\(decide k=false->c<=i64.wrap (b-c-w)/\i64.wrap (b-c-w)<i64.wrap e-i64.wrap a)/\(iB (K4 (decide k) true h) (q/\(0:(Ty.int u64).den)<=D/\(iB (decide y) (J_1 (u64.wrap (N.1-t),())) (I z/\d z<d N))) (J_1 (N.1,()))))/\∀(N:D9),(Ty.int u64).wf N.1/\True->J_1 N->∃(I:Qo->Prop),∃(d: _->Nat),I (c,c,p.2.1,())/\∀(O:Qo),let H:=(i64.wrap a+O.2.1);let B:Prop:=(c<=O.2.1/\O.2.1<i64.wrap e-i64.wrap a);let v:=(u64.wrap (u64.wrap (N.1*u64.wrap (List.getD Q.1 (c+O.2.1).toNat c))+O.1));let l:=(u64.wrap (u64.wrap (List.getD O.2.2.1 H.toNat c)-u64.wrap (u32.wrap v)));let j:=(u64.wrap (u64.wrap (List.getD O.2.2.1 s.toNat c)-O.1));let E:Prop:=(j.fdiv (w^Min.min L.toNat u64.bits)=c);let f:=(u64.wrap (v.fdiv (w^Min.min u u64.bits)+l.fdiv (w^Min.min L.toNat u64.bits)),i64.wrap (O.2.1+t),List.set O.2.2.1 H.toNat (u32.wrap l),());(Ty.int u64).wf O.1/\(Ty.int i64).wf O.2.1/\Hd O.2.2.1/\True->I O->(iB (decide (O.2.1<b-c)) ((c<=O.2.1/\O.2.1<b-c)/\B/\B/\(0:(Ty.int u64).den)<=D/\(0:(Ty.int u64).den)<=L/\I f/\d f<d O) (m/\m/\(0:(Ty.int u64).den)<=L/\(iB (decide E) (A/\J (List.set O.2.2.1 s.toNat (u32.wrap j),List.set p.2.2.1 (i64.wrap a).toNat (u32.wrap N.1),())) (∃(I:Qo->Prop),∃(d: _->Nat),I (c,c,List.set O.2.2.1 s.toNat (u32.wrap j),())/\∀(P:Qo),let K:=(i64.wrap a+P.2.1);let C:Prop:=(c<=P.2.1/\P.2.1<i64.wrap e-i64.wrap a);let o:=(u64.wrap (P.1+u64.wrap (u64.wrap (List.getD P.2.2.1 K.toNat c)+u64.wrap (List.getD Q.1 (c+P.2.1).toNat c))));let f:=(o.fdiv (w^Min.min u u64.bits),i64.wrap (P.2.1+t),List.set P.2.2.1 K.toNat (u32.wrap o),());(Ty.int u64).wf P.1/\(Ty.int i64).wf P.2.1/\Hd P.2.2.1/\True->I P->(iB (decide (P.2.1<b-c)) ((c<=P.2.1/\P.2.1<b-c)/\C/\C/\(0:(Ty.int u64).den)<=D/\I f/\d f<d P) (m/\m/\A/\J (List.set P.2.2.1 s.toNat (u32.wrap (List.getD P.2.2.1 s.toNat c+u32.wrap P.1)),List.set p.2.2.1 (i64.wrap a).toNat (u32.wrap (u64.wrap (N.1-t))),()))))))))/\∀(N:Et),let F:=(i64.wrap (p.1+t),N.1,N.2.1,());Hd N.1/\Hd N.2.1/\True->J N->I F/\d F<d p) ((c<=c/\c<=b/\b<=G)/\E1 (List.drop c.toNat (List.take b.toNat p.2.1))/\∀(R:pS),Hd R.1/\True/\True->(r.1<c->R.1= []/\R.2.1=false)/\(c<=r.1->R.1=nc (nv (List.drop c.toNat (List.take b.toNat p.2.1))/(2:Nat)^Int.toNat r.1)/\R.2.1=true)->True/\N3 fun r=>r.1=nc (nv p.2.2.1)->r.1=nc (nv x.1/nv x.2.1)/\R.1=nc (nv x.1%nv x.2.1)))
def A6s {a b:List Int} {N D S:Nat} (g:A7 a) (h:A7 b) (f:b.length=N+2) (c:dg b (N+1)≠0) (d:a.length+1=D+(N+2)):nv a*2^S<nv b*2^S*4294967296^D:=by
 have d:0<2^S:=tP (by decide);have f:=Sg b (n:=N+1) (by omega);have f:4294967296^(N+1)<=nv b:=by
  have:=rU (4294967296^(N+1)) (sW c);omega
 have c:=Fb g;rw[show a.length=(N+1)+D from by omega,uU]at c;have g:nv a<nv b*4294967296^D:=rC c (rK _ f);have c:=wY g d;rw[zO]at c;exact c
def B6g {A B S q r:Nat} (d:0<B) (c:A*2^S=q*(B*2^S)+r) (f:r<B*2^S):q=A/B/\r/2^S=A%B:=by
 have a:0<2^S:=tP (by decide);have b:q=A/B:=by
  rw[<-zX A B a,c,sP q,g2i (g3d d a),uG f,sS]
 refine⟨b, ?_⟩;have d:=wT A B;have f:r=(A%B)*2^S:=by
  have:A*2^S=(B*(A/B)+A%B)*2^S:=by rw[d]
  rw[this,b]at c;grind
 rw[f,g3x _ a]
def B7x {v:List Int} (d:A7 v) {n:Nat} (b:4294967296^n<=nv v) (c:nv v<4294967296^(n+1)):dg v n≠0:=by
 have a:0<4294967296^n:=tP (by decide);rw[KE d,tU (by rw[tS a,sP, <-sA];exact c)];have:=(vJ a).2 (by rw[xY];exact b);omega
def A3h {u:List Int} (b:A7 u) {m i:Nat} (h:nv u<4294967296^m) (a:m<=i):dg u i=0:=by
 rw[KE b,uG (rC h (rZ (by decide) a))]
def bA {x y:Nat} (c:x<=4294967295) (d:y<=4294967295):u64.wrap (((BitVec.ofInt 64 (u64.wrap ((x:Int)*2^32)) |||BitVec.ofInt 64 (y:Int)).toNat:Nat):Int)=((x*4294967296+y:Nat):Int):=by
 rw[V4 (a:=(x:Int)*2^32) (by omega) (by omega)];have:=HO (v:=(y:Int)) (b:=(x:Int)) (k:=32) (by omega) (by omega) (by omega) (by omega) (by omega);rw[this,V4 (by omega) (by omega)];omega
def B2i {v:Int} :Int.fdiv v (2^32)=v/4294967296:=by
 rw[sI _ (by decide)];rfl
def B9a {v:Int} :Int.fdiv v (2^63)=v/9223372036854775808:=by
 rw[sI _ (by decide)];rfl
def ZU {d x:Nat} (a:d<=4294967295) (b:x<=4294967295):d*x<=18446744065119617025:=qX (uX a b) (by decide)
def B0n {d v2 r a:Nat} (b:v2<=4294967295):K4 (decide ((d:Int)/4294967296≠0)) true (decide (((r*4294967296+a:Nat):Int)<u64.wrap ((d:Int)*(v2:Int))))=decide (4294967296<=d\/r*4294967296+a<d*v2):=by
 rw[L6];rcases sC d 4294967296 with h|h
 . have a:=ZU (d:=d) (x:=v2) (by omega) b;rw[<-uQ,V4 (by omega) (by omega)];have a:decide ((d:Int)/4294967296≠0)=false:=rG (by omega);rw[a,wL,wK];omega
 . have a:decide ((d:Int)/4294967296≠0)=true:=rL (by omega);rw[a,g0n];exact(rL (.inl h)).symm
def B0i {d x c y:Nat} (i:d<=4294967295) (j:x<=4294967295) (h:c<=d) (n:y<=4294967295):∃b f:Nat,
 u64.wrap (Int.fdiv (u64.wrap (u64.wrap ((d:Int)*(x:Int))+(c:Int))) (2^32)+Int.fdiv (u64.wrap ((y:Int)-u64.wrap (u32.wrap (u64.wrap (u64.wrap ((d:Int)*(x:Int))+(c:Int)))))) (2^63))=(b:Int)/\
 u32.wrap (u64.wrap ((y:Int)-u64.wrap (u32.wrap (u64.wrap (u64.wrap ((d:Int)*(x:Int))+(c:Int))))))=(f:Int)/\b<=d/\y+4294967296*b=f+(d*x+c):=by
 have l:=ZU i j;obtain⟨k,g⟩:=A6d (D:=d) (v:=x) (c:=c) (t:=y) (by omega) (by omega) h;rw[<-uQ,V4 (a:=((d*x:Nat):Int)) (by omega) (by omega)];generalize d*x=p at*;rw[V4 (a:=(p:Int)+(c:Int)) (by omega) (by omega),Be,V4 (a:=((p:Int)+(c:Int))%4294967296) (by omega) (by omega),B2i,B9a,Bf ((y:Int)-_),Be];refine⟨(p+c)/4294967296+(if y<(p+c)%4294967296 then 1 else 0),if y<(p+c)%4294967296 then y+4294967296-(p+c)%4294967296 else y-(p+c)%4294967296, ?_, ?_,g, ?_⟩
 . rw[V4 (by omega) (by omega)];split<;>omega
 . split<;>omega
 . split<;>omega
def A8j {U P V d:Nat} (a:0<P) (b:0<V) (h:P*(d*V)<=U):d<=U/P/V:=by
 rw[vJ b,vJ a,sP];exact h
def B7k {U P V d:Nat} (a:0<P) (b:0<V) (h:U<P*(d*V)):U/P/V<d:=by
 rw[tS b,tS a,sP];exact h
def YV {U0 U W V P d q a:Nat} (g:U0=q*V+U) (f:W+P*(d*V)=U) (i:a=q+P*d) (b:0<P) (c:0<V) (k:U/P/V=d):U0=a*V+W/\W<V*P:=by
 refine⟨by subst i;rw[g, <-f];grind, ?_⟩;have j:¬(P*((d+1)*V)<=U):=fun h=>by have:=A8j b c h;omega
 have e:P*((d+1)*V)=P*(d*V)+V*P:=by grind
 omega
def B5j {q:List Int} (f:A7 q) {Q j d:Nat} (a:nv q=Q*4294967296^(j+1)) (b:j<q.length):nv (q.set j (d:Int))=nv q+4294967296^j*d/\nv (q.set j (d:Int))=(Q*4294967296+d)*4294967296^j:=by
 have c:0<4294967296^j:=tP (by decide);have h:=Ia (l:=q) (k:=j) (v:=(d:Int)) b;rw[qU]at h;have b:dg q j=0:=by
  rw[KE f,a,sA,sP (4294967296^j), <-sO,g3x _ c,Nat.mul_mod_left]
 rw[b,wM,sS]at h;refine⟨h, ?_⟩;rw[h,a,sA];grind
def A5t {x c y:Nat} (g:x<=4294967295) (f:c<=1) (h:y<=4294967295):∃b d:Nat,
 Int.fdiv (u64.wrap ((c:Int)+u64.wrap ((y:Int)+(x:Int)))) (2^32)=(b:Int)/\
 u32.wrap (u64.wrap ((c:Int)+u64.wrap ((y:Int)+(x:Int))))=(d:Int)/\b<=1/\d+4294967296*b=c+(y+x):=by
 rw[V4 (a:=(y:Int)+(x:Int)) (by omega) (by omega),V4 (a:=(c:Int)+((y:Int)+(x:Int))) (by omega) (by omega),B2i,Be];exact⟨(c+(y+x))/4294967296,(c+(y+x))%4294967296,by omega,by omega,by omega,by omega⟩
def Nu (x:A5 P4.args) (bt:awf P4.args x) (cl:P4.pre x):Gg x:=by
 obtain⟨a,b,_⟩:=x;have cc:A7 a:=A3 bt.1.2;have I:A7 b:=A3 bt.2.1.2;change List Int at a b;obtain⟨dr,da,dh,bo⟩:a.length<=17592186044416/\2<=b.length/\b.length<=a.length/\Kt b:=cl;obtain⟨N,bf⟩:∃N,b.length=N+2:=⟨b.length-2,by omega⟩;have a8:=LR I bo;rw[show b.length-1=N+1 from by omega]at a8;simp only[Gg,iB,N3,Ed,Int.sub_zero,Int.zero_add];rw[wv (a:=(b.length:Int)-1) (by omega),wv (a:=(b.length:Int)-2) (by omega),Ei I (by omega) (by omega),show((b.length:Int)-1).toNat=N+1 from by omega,show((b.length:Int)-2).toNat=N from by omega];refine⟨⟨by omega,by omega⟩,trivial, ?_⟩;rintro⟨s,_⟩ _ bm;change Int at s;simp only at bm⊢;rw[qU]at bm;have dj:=L8 I (N+1);have df:=QW (v:=dg b (N+1)) (by omega);have de:=(Yv a8).2;refine⟨⟨by show b.length<= _;omega,by omega,by omega⟩, ?_⟩;rintro⟨v,_⟩ ⟨ct,_⟩ ⟨bs,R⟩;refine⟨⟨qI _,by omega,by simp only at bs⊢;omega⟩,⟨by show a.length<= _;omega,by omega,by omega⟩, ?_⟩;rintro⟨f,_⟩ ⟨cr,_⟩ ⟨co,aw⟩;have t:A7 v:=A3 ct.2;have dq:A7 f:=A3 cr.2;change List Int at v f;simp only at bs R co aw⊢;have Z:nv v<4294967296^(N+2):=by
  rw[R];exact A1c I (n:=N+1) (by omega) (s:=s.toNat) (by omega)
 have bg:4294967296^(N+1)<=nv v:=by
  have z:=Sg b (n:=N+1) (by omega);have be:4294967296^(N+1)<=nv b:=by
   have:=rU (4294967296^(N+1)) (sW a8);omega
  rw[R];exact qX be (Nat.le_mul_of_pos_right _ (tP (by decide)))
 have bp:=B7x t bg Z;have a0:0<nv v:=rC (tP (by decide)) bg;obtain⟨D,db⟩:∃D,f.length=D+(N+2):=⟨f.length-(N+2),by omega⟩;have bn:=A6s (S:=s.toNat) cc I bf a8 (D:=D) (by omega);rw[<-aw, <-R]at bn;rw[wv (a:=(f.length:Int)-(b.length:Int)) (by omega),show(f.length:Int)-(b.length:Int)=(D:Int)from by omega];have dc:1<=D:=by omega
 refine⟨⟨by omega,qI _,by omega,by omega⟩, ?_⟩;refine⟨fun p=>0<=p.1/\p.1<=(D:Int)/\p.2.1.length=f.length/\p.2.2.1.length=D/\nv f=nv p.2.2.1*nv v+nv p.2.1/\nv p.2.1<nv v*4294967296^((D:Int)-p.1).toNat/\∃Q,nv p.2.2.1=Q*4294967296^((D:Int)-p.1).toNat,fun p=>((D:Int)-p.1).toNat,⟨qI _,qF _,rfl,by simp, ?_, ?_,0, ?_⟩, ?_⟩
 . show nv f=nv (List.replicate _ 0)*nv v+nv f;rw[Ox];omega
 . show nv f<nv v*4294967296^((D:Int)-0).toNat;rw[show((D:Int)-0).toNat=D from by omega];exact bn
 . show nv (List.replicate _ 0)= _;rw[Ox];omega
 rintro⟨k,u,q,_⟩ ⟨_,cs,cq,_⟩ ⟨cz,d0,c4,b3,a9,J,Q,a7⟩;change Int at k;have F:A7 u:=A3 cs.2;have bl:A7 q:=A3 cq.2;change List Int at u q;simp only at cz d0 c4 b3 a9 J a7⊢;refine⟨fun a1=> ?_,fun a1=> ?_⟩
 . have a1:=qA a1;obtain⟨j,cf⟩:∃j:Nat,(D:Int)-1-k=(j:Int):=⟨((D:Int)-1-k).toNat,by omega⟩;rw[show((D:Int)-k).toNat=j+1 from by omega]at J a7;rw[wv (a:=(D:Int)-1) (by omega),cf,wv (a:=(j:Int)) (by omega),wv (a:=(j:Int)+(b.length:Int)) (by omega),wv (a:=(j:Int)+(b.length:Int)+1) (by omega),wv (a:=k+1) (by omega)];rw[show((j:Int)+(b.length:Int)).toNat=j+N+2 from by omega,show((j:Int)+((b.length:Int)-1)).toNat=j+N+1 from by omega,show((j:Int)+((b.length:Int)-2)).toNat=j+N from by omega];have dn:j+1<=D:=by omega
   have a4:=B8u F t (j:=j) (n:=N) (by omega) Z bp (by omega) J;have dv:=L8 t (N+1);have d4:=L8 t N;have d6:=L8 F (j+N+2);have d7:=L8 F (j+N+1);have d8:=L8 F (j+N);have Y:0<4294967296^j:=tP (by decide);refine⟨fun p=>p.1.length=f.length/\p.2.1.length=D/\nv f=nv p.2.1*nv v+nv p.1/\nv p.1<nv v*4294967296^j/\∃Q,nv p.2.1=Q*4294967296^j, ?_, ?_⟩
   . rw[V9 t,V9 t,V9 F,V9 F,V9 F];rw[V4 (a:=(dg v (N+1):Int)) (by omega) (by omega),V4 (a:=(dg v N:Int)) (by omega) (by omega),V4 (a:=(dg u (j+N+2):Int)) (by omega) (by omega),V4 (a:=(dg u (j+N+1):Int)) (by omega) (by omega),V4 (a:=(dg u (j+N):Int)) (by omega) (by omega)];rw[show Min.min (Int.toNat 32) u64.bits=32 from rfl,show Min.min (Int.toNat 63) u64.bits=63 from rfl,show u64.bits=64 from rfl,bA d6 d7];refine⟨⟨by omega,by omega,by omega⟩,⟨by omega,by omega⟩,by decide,⟨by omega,by omega⟩,⟨by omega,by omega⟩,by omega,⟨by omega,by omega⟩,by omega, ?_⟩;have an:=a4.est;have aa:= @WM.near _ _ _ _ _ _ _ a4;have am:= @WM.dec _ _ _ _ _ _ _ a4;have aq:= @WM.out _ _ _ _ _ _ _ a4;generalize c9:nv u/4294967296^j/nv v=QS at an aa am aq⊢;refine⟨fun p=>QS<=p.1.toNat/\p.1.toNat<=QS+1/\0<=p.1/\p.1<4294967296, ?_, ?_⟩
     . refine⟨fun p=>∃d r:Nat,p.1=(d:Int)/\p.2.1=(r:Int)/\dg u (j+N+2)*4294967296+dg u (j+N+1)=d*dg v (N+1)+r/\QS<=d/\r<4294967296,fun p=>p.1.toNat, ?_, ?_⟩
       . have bq:0<dg v (N+1):=sW bp;have cg:=(vJ bq).2 an;have o:=vZ (dg u (j+N+2)*4294967296+dg u (j+N+1)) bq;have cd:=wT (dg u (j+N+2)*4294967296+dg u (j+N+1)) (dg v (N+1));have dk:=wU (dg u (j+N+2)*4294967296+dg u (j+N+1)) (dg v (N+1));have dd:dg u (j+N+2)*4294967296+dg u (j+N+1)<=18446744073709551615:=by omega
         refine⟨(dg u (j+N+2)*4294967296+dg u (j+N+1))/dg v (N+1),(dg u (j+N+2)*4294967296+dg u (j+N+1))%dg v (N+1), ?_,rfl, ?_,cg,by omega⟩
         . show u64.wrap (Int.tdiv _ _)= _;have e:Int.tdiv ((dg u (j+N+2)*4294967296+dg u (j+N+1):Nat):Int) ((dg v (N+1):Nat):Int)=(((dg u (j+N+2)*4294967296+dg u (j+N+1))/dg v (N+1):Nat):Int):=rfl;rw[e];generalize (dg u (j+N+2)*4294967296+dg u (j+N+1))/dg v (N+1)=b9 at*;exact V4 (by omega) (by omega)
         . have:=cd.symm;rw[sP (dg v (N+1))]at this;exact this
       . rintro⟨ai,d3,_⟩ ⟨bj,_⟩ ⟨d,r,z,G,ar,cm,dp⟩;change Int at ai d3;simp only at z G bj⊢;subst z G;have di:(d:Int)<=18446744073709551615:=by have:=bj.2;rw[Zx]at this;exact this
         rw[B2i,B2i,bA (x:=r) (by omega) d8,B0n d4];refine⟨by decide,fun _=>⟨by omega,by omega⟩,fun _=>by decide,fun _=>⟨by omega,by omega⟩,fun E=> ?_,fun E=> ?_⟩
         . have E:=qA E;have dm:=am ar cm E;rw[V4 (a:=(r:Int)+(dg v (N+1):Int)) (by omega) (by omega),V4 (a:=(d:Int)-1) (by omega) (by omega)];obtain⟨e,rfl⟩:∃e,d=e+1:=⟨d-1,by omega⟩;have au:dg u (j+N+2)*4294967296+dg u (j+N+1)=e*dg v (N+1)+(r+dg v (N+1)):=by rw[ar,uZ,xY];omega
           refine⟨⟨by omega,by omega⟩,by decide,fun X=> ?_,fun X=> ?_⟩
           . have X:=qA X;obtain⟨d1,d2⟩:=aq au (by omega) (by omega);have c3:=aa au d1 d2;have bc:(((e+1:Nat):Int)-1).toNat=e:=by omega
             refine⟨?_, ?_, ?_, ?_⟩
             . show _ <=(((e+1:Nat):Int)-1).toNat;rw[bc];omega
             . show(((e+1:Nat):Int)-1).toNat<= _;rw[bc];exact c3
             . show(0:Int)<=((e+1:Nat):Int)-1;omega
             . show((e+1:Nat):Int)-1< _;omega
           . have X:(((r:Int)+(dg v (N+1):Int))/4294967296)=0:=g2t (qB X);refine⟨⟨e,r+dg v (N+1),by omega,by omega,au,by omega,by omega⟩,by omega⟩
         . have E:=qB E;have c3:=aa ar (by omega) (by omega);exact⟨by show _ <=(d:Int).toNat;omega,by show(d:Int).toNat<= _;omega,qF _,by show(d:Int)< _;omega⟩
     . rintro⟨ai,_⟩ _ ⟨ba,ah,bb,c5⟩;change Int at ai;simp only at ba ah bb c5⊢;obtain⟨d,rfl⟩:=uM bb;rw[qU]at ba ah;clear an aa am aq;refine⟨fun p=>∃c i:Nat,p.1=(c:Int)/\p.2.1=(i:Int)/\i<=N+2/\c<=d/\p.2.2.1.length=f.length/\nv p.2.2.1+4294967296^j*(d*nv (v.take i))=nv u+4294967296^(j+i)*c/\∀m,j+i<=m->dg p.2.2.1 m=dg u m,fun p=>((N:Int)+2-p.2.1).toNat,⟨0,0,rfl,rfl,by omega,by omega,c4,by simp[nv],fun _ _=>rfl⟩, ?_⟩;rintro⟨ag,ax,w,_⟩ ⟨_,_,cu,_⟩ ⟨c,i,z,G,ao,E,ad,a5,hK⟩;change Int at ag ax;have ab:A7 w:=A3 cu.2;change List Int at w;simp only at z G ao E ad a5 hK⊢;subst z G;refine⟨fun g=> ?_,fun g=> ?_⟩
       . have g:(i:Int)<(b.length:Int):=qA g;have b7:=L8 t i;have ae:=L8 ab (j+i);rw[show((i:Int)).toNat=i from qU _,show((j:Int)+(i:Int)).toNat=j+i from by omega,V9 t,V9 ab,V4 (a:=(dg v i:Int)) (by omega) (by omega),V4 (a:=(dg w (j+i):Int)) (by omega) (by omega),wv (a:=(i:Int)+1) (by omega)];obtain⟨af,b4,az,b0,b1,b2⟩:=B0i (d:=d) (x:=dg v i) (c:=c) (y:=dg w (j+i)) (by omega) b7 E ae;rw[az,b0];refine⟨⟨by omega,g⟩,⟨by omega,by omega⟩,⟨by omega,by omega⟩,by decide,by decide,⟨af,i+1,rfl,by omega,by omega,b1,by rw[qS];exact ad, ?_, ?_⟩,by omega⟩
         . have O:=Ia (l:=w) (k:=j+i) (v:=(b4:Int)) (by omega);rw[qU]at O;rw[I0,show j+(i+1)=(j+i)+1 from by omega,sA _ (j+i)];exact A4t a5 O b2 (uU ..)
         . intro m o;rw[Wb (by omega),qH (by omega)];exact hK m (by omega)
       . have g:=qB g;have ap:i=N+2:=by omega
         subst ap;rw[Hi t,tU Z]at a5;have av:=hK (j+N+2) (by omega);rw[V9 ab,av,V4 (a:=(dg u (j+N+2):Int)) (by omega) (by omega),B9a,show((j:Int)).toNat=j from qU _];have ci:nv u<4294967296^(j+N+3):=by
          refine rC J ?_;have e:4294967296^(j+N+3)=4294967296^(N+2)*4294967296^(j+1):=by rw[<-uU];congr 1;omega
          rw[e];exact rK _ (vP Z)
         rw[show j+(N+2)=j+N+2 from by omega]at a5;refine⟨⟨by omega,by omega⟩,⟨by omega,by omega⟩,by decide,fun H=> ?_,fun H=> ?_⟩
         . have H:=qA H;have bi:c<=dg u (j+N+2):=by rw[Bf]at H;omega
           rw[V4 (a:=(dg u (j+N+2):Int)-(c:Int)) (by omega) (by omega),w32 (a:=(dg u (j+N+2):Int)-(c:Int)) (by omega) (by omega),w32 (a:=(d:Int)) (by omega) (by omega)];have O:=Ia (l:=w) (k:=j+N+2) (v:=(dg u (j+N+2):Int)-(c:Int)) (by omega);rw[av,show((dg u (j+N+2):Int)-(c:Int)).toNat=dg u (j+N+2)-c from by omega,Nat.mul_sub]at O;have bh:=rU (4294967296^(j+N+2)) bi;have ak:nv (w.set (j+N+2) ((dg u (j+N+2):Int)-(c:Int)))+4294967296^j*(d*nv v)=nv u:=by omega
           have ce:=A8j Y a0 (U:=nv u) (d:=d) (by omega);obtain⟨b5,b6⟩:=B5j bl (d:=d) a7 (by omega);obtain⟨T,W⟩:=YV a9 ak b5 Y a0 (by omega);exact⟨⟨by omega,by omega⟩,by show(List.set _ _ _).length= _;rw[qS];exact ad,by show(List.set _ _ _).length= _;rw[qS];exact b3,T,W,_,b6⟩
         . have H:=qB H;have bi:dg u (j+N+2)<c:=by rw[Bf]at H;omega
           have c7:u32.wrap (u64.wrap ((dg u (j+N+2):Int)-(c:Int)))=((dg u (j+N+2)+4294967296-c:Nat):Int):=by
            rw[Bf,Be];omega
           rw[c7];have O:=Ia (l:=w) (k:=j+N+2) (v:=((dg u (j+N+2)+4294967296-c:Nat):Int)) (by omega);rw[av,qU,Nat.mul_sub,sX]at O;have bh:=rU (4294967296^(j+N+2)) (show c<=dg u (j+N+2)+4294967296 by omega);rw[sX]at bh;have d5:A7 (w.set (j+N+2) ((dg u (j+N+2)+4294967296-c:Nat):Int)):=ZO ab (by show 0<= _ /\ _ <= _;omega);have bv:∀m,j+N+3<=m->dg (w.set (j+N+2) ((dg u (j+N+2)+4294967296-c:Nat):Int)) m=0:=fun m o=>by
            rw[Wb (by omega),qH (by omega),hK m (by omega)];exact A3h F ci o
           have ch:(w.set (j+N+2) ((dg u (j+N+2)+4294967296-c:Nat):Int)).length=f.length:=by rw[qS];exact ad
           generalize w.set (j+N+2) ((dg u (j+N+2)+4294967296-c:Nat):Int)=ac at*;have cb:nv ac+4294967296^j*(d*nv v)=nv u+4294967296^(j+N+2)*4294967296:=by omega
           have cp:nv ac<4294967296^(j+N+2)*4294967296:=by
            have be:=S2 d5 (j+N+3);rw[MQ bv, <-B9s (j+N)]at be;exact be
           have ce:=B7k Y a0 (U:=nv u) (d:=d) (by omega);obtain⟨e,rfl⟩:∃e,d=e+1:=⟨d-1,by omega⟩;refine⟨fun p=>∃c i:Nat,p.1=(c:Int)/\p.2.1=(i:Int)/\i<=N+2/\c<=1/\p.2.2.1.length=f.length/\nv p.2.2.1+4294967296^(j+i)*c=nv ac+4294967296^j*nv (v.take i)/\∀m,j+i<=m->dg p.2.2.1 m=dg ac m,fun p=>((N:Int)+2-p.2.1).toNat,⟨0,0,rfl,rfl,by omega,by omega,ch,by simp[nv],fun _ _=>rfl⟩, ?_⟩;rintro⟨ag,ax,y,_⟩ ⟨_,_,cv,_⟩ ⟨h,i,z,G,ao,bk,b8,a6,aj⟩;change Int at ag ax;have a3:A7 y:=A3 cv.2;change List Int at y;simp only at z G ao bk b8 a6 aj⊢;subst z G;refine⟨fun g=> ?_,fun g=> ?_⟩
           . have g:(i:Int)<(b.length:Int):=qA g;have b7:=L8 t i;have ae:=L8 a3 (j+i);rw[show((i:Int)).toNat=i from qU _,show((j:Int)+(i:Int)).toNat=j+i from by omega,V9 t,V9 a3,V4 (a:=(dg v i:Int)) (by omega) (by omega),V4 (a:=(dg y (j+i):Int)) (by omega) (by omega),wv (a:=(i:Int)+1) (by omega)];obtain⟨af,b4,az,b0,b1,b2⟩:=A5t (x:=dg v i) (c:=h) (y:=dg y (j+i)) b7 bk ae;rw[az,b0];refine⟨⟨by omega,g⟩,⟨by omega,by omega⟩,⟨by omega,by omega⟩,by decide,⟨af,i+1,rfl,by omega,by omega,b1,by rw[qS];exact b8, ?_, ?_⟩,by omega⟩
             . have a2:=Ia (l:=y) (k:=j+i) (v:=(b4:Int)) (by omega);rw[qU]at a2;rw[I0,show j+(i+1)=(j+i)+1 from by omega,sA _ (j+i)];exact A2f a6 a2 b2 (uU ..)
             . intro m o;rw[Wb (by omega),qH (by omega)];exact aj m (by omega)
           . have g:=qB g;have ap:i=N+2:=by omega
             subst ap;rw[Hi t,tU Z,show j+(N+2)=j+N+2 from by omega]at a6;have ae:=L8 a3 (j+N+2);have c8:u32.wrap ((dg y (j+N+2):Int)+u32.wrap (h:Int))=(((dg y (j+N+2)+h)%4294967296:Nat):Int):=by
              rw[w32 (a:=(h:Int)) (by omega) (by omega),Be];omega
             have c6:u32.wrap (u64.wrap (((e+1:Nat):Int)-1))=(e:Int):=by
              rw[V4 (by omega) (by omega),w32 (by omega) (by omega)];omega
             rw[V9 a3,c8,c6];have a2:=Ia (l:=y) (k:=j+N+2) (v:=(((dg y (j+N+2)+h)%4294967296:Nat):Int)) (by omega);rw[qU]at a2;obtain⟨ay,cj,ck⟩:∃ay,dg y (j+N+2)+h=(dg y (j+N+2)+h)%4294967296+4294967296*ay/\ay<=1:=⟨(dg y (j+N+2)+h)/4294967296,by omega,by omega⟩;have d9:A7 (y.set (j+N+2) (((dg y (j+N+2)+h)%4294967296:Nat):Int)):=ZO a3 (by show 0<= _ /\ _ <= _;omega);have cw:∀m,j+N+3<=m->dg (y.set (j+N+2) (((dg y (j+N+2)+h)%4294967296:Nat):Int)) m=0:=fun m o=>by
              rw[Wb (by omega),qH (by omega),aj m (by omega)];exact bv m o
             have cx:(y.set (j+N+2) (((dg y (j+N+2)+h)%4294967296:Nat):Int)).length=f.length:=by rw[qS];exact b8
             generalize y.set (j+N+2) (((dg y (j+N+2)+h)%4294967296:Nat):Int)=b9 at*;have cy:nv b9<4294967296^(j+N+2)*4294967296:=by
              have be:=S2 d9 (j+N+3);rw[MQ cw, <-B9s (j+N)]at be;exact be
             obtain⟨ca,ak⟩:=A5w (U:=nv u) (P:=4294967296^j) (V:=nv v) (e:=e) (M:=4294967296^(j+N+2)) Y a0 cb cp (by rw[c9];exact ah) a6 a2 cj ck cy;obtain⟨b5,b6⟩:=B5j bl (d:=e) a7 (by omega);obtain⟨T,W⟩:=YV a9 ak b5 Y a0 ca;exact⟨⟨by omega,by omega⟩,⟨by omega,by omega⟩,⟨by omega,by omega⟩,cx,by show(List.set _ _ _).length= _;rw[qS];exact b3,T,W,_,b6⟩
   . rintro⟨du,dt,_⟩ _ ⟨bw,bx,bz,c0,Q',c2⟩;simp only at bw bx bz c0 c2⊢;rw[show((D:Int)-(k+1)).toNat=j from by omega];exact⟨⟨by omega,by omega,bw,bx,bz,c0,Q',c2⟩,by omega⟩
 . have a1:=qB a1;rw[show((D:Int)-k).toNat=0 from by omega,g0o,wZ]at J;have cn:0<=s:=by omega
   obtain⟨T,W⟩:=B6g (A:=nv a) (B:=nv b) (S:=s.toNat) (q:=nv q) (r:=nv u) (sW (UW I bo)) (by rw[<-aw, <-R];exact a9) (by rw[<-R];exact J);refine⟨⟨qI _,by omega,by omega⟩, ?_, ?_⟩
   . show(List.drop _ (List.take _ _)).length<= _;rw[sQ,qY];omega
   rintro⟨m,ds,_⟩ _ o;refine⟨trivial, ?_⟩;rintro⟨b9,_⟩ _ bu;simp only at o bu⊢;have o:=(o.2 cn).1;rw[show(Int.toNat 0)=0 from rfl,tZ,show((b.length:Int)).toNat=b.length from qU _,Hi F,bf,tU (by omega),W]at o;exact⟨by rw[bu,T],o⟩
def GB:An:= {plan:= [(8,[],[],true,(pZ9 0 3 (pZ9 4 3 (.e 3 (.e 7 (pZ9 8 3 .done))))))]}
def QJ:An:= {join:= [(4,⟨[],[],[(0,false,[.val (.sl (.int .u32))]),(1,false,[.val (.sl (.int .u32))])],[],[]⟩)],loop:= [(7,⟨[],[],[(5,false,vU),(6,false,vU)],[],[]⟩),(4,⟨[],[],[(0,false,[.val (.sl (.int .u32))]),(1,false,[.val (.sl (.int .u32))])],[],[]⟩)],plan:= [(8,[],[],true,(pZ9 0 6 .done)),(15,[2,5,9,12],[],true,(.p 0 (.p 1 (.q 2 (.p 3 (.p 4 (.q 5 (.p 7 (.p 8 (.q 9 (.p 10 (.p 11 (.q 12 (.e 6 (.e 13 (.p 14 (.p 15 .done))))))))))))))))),(16,[2,5,9,12],[],true,(.p 0 (.p 1 (.q 2 (.p 3 (.p 4 (.q 5 (.p 7 (.p 8 (.q 9 (.p 10 (.p 11 (.q 12 (.e 6 (.e 13 (.p 14 (.p 15 .done)))))))))))))))))]}
def Mn:A5 X1.args->Prop:=fun(x:Et)=>let e:=(0:Nat);let d:=(nv x.1%nv x.2.1);let c:=(nv x.1/nv x.2.1);let b:=(0:Int);True/\N3 fun r=>let f:Prop:=((r.1.length:Int)<=(2:Int));r.1=nc (nv x.1)->True/\N3 fun h=>let a:=(h.1.length:Int);h.1=nc (nv x.2.1)->(iB (decide (a=b)) ((nv x.2.1=e->Lk Int= []/\Lk Int= []/\false=false)/\(nv x.2.1≠e->Lk Int=nc c/\Lk Int=nc d/\false=true)) (True/\Ed fun k=>k.1=Bm (nv r.1) (nv h.1)->(iB (decide (k.1<b)) (Fx r.1/\N3 fun g=>g.1=nc (nv r.1)->(nv x.2.1=e->Lk Int= []/\g.1= []/\true=false)/\(nv x.2.1≠e->Lk Int=nc c/\g.1=nc d/\true=true)) ((iB (decide f) (List.length r.1<=2/\oW fun g=>g.1=(↑(nv r.1):Int)->List.length h.1<=2/\oW fun r=>r.1=(↑(nv h.1):Int)->r.1≠b/\r.1≠b/\True/\N3 fun i=>i.1=nc (u64.wrap (Int.tdiv g.1 r.1)).toNat->True/\N3 fun j=>j.1=nc (Int.tmod g.1 r.1).toNat->(nv x.2.1=e->i.1= []/\j.1= []/\true=false)/\(nv x.2.1≠e->i.1=nc c/\j.1=nc d/\true=true)) ((iB (decide (a=(1:Int))) ((b<=b/\b<a)/\(E1 r.1/\gx b h.1 b≠b)/\∀(g:Et),Hd g.1/\Hd g.2.1/\True->g.1=nc (nv r.1/(gx b h.1 b).toNat)/\g.2.1=nc (nv r.1%(gx b h.1 b).toNat)->(nv x.2.1=e->g.1= []/\g.2.1= []/\true=false)/\(nv x.2.1≠e->g.1=nc c/\g.2.1=nc d/\true=true)) ((E1 r.1/\(2:Nat)<=List.length h.1/\List.length h.1<=List.length r.1/\Kt h.1)/\∀(g:Et),Hd g.1/\Hd g.2.1/\True->g.1=nc (nv r.1/nv h.1)/\g.2.1=nc (nv r.1%nv h.1)->(nv x.2.1=e->g.1= []/\g.2.1= []/\true=false)/\(nv x.2.1≠e->g.1=nc c/\g.2.1=nc d/\true=true)))))))))
abbrev B0q:=List Int×List Int×Bool×Unit
def Xy:A5 Dl.args->Prop:=fun(x:Et)=>let e:=(nv x.2.1);let b:=(0:Int);True/\N3 fun r=>r.1=nc (nv x.1)->True/\N3 fun j=>j.1=nc e->∃(J:Et->Prop),(True/\Ed fun h=>h.1=Bm (nv r.1) (nv j.1)->(iB (decide (h.1<b)) (J (j.1,r)) (J (r.1,j))))/\∀(p:Et),(Ty.int u32).sl.wf p.1/\(Ty.int u32).sl.wf p.2.1/\True->J p->∃(I:Et->Prop),∃(a: _->Nat),I (p.1,p.2.1,())/\∀(p:Et),let g:=(↑(nv p.2.1):Int);let d:=(p.2.1.length:Int);let c:Prop:=((p.1.length:Int)<=(2:Int));(Ty.int u32).sl.wf p.1/\(Ty.int u32).sl.wf p.2.1/\True->I p->(iB (decide (b<d)) ((iB (decide c) (List.length p.1<=2/\oW fun r=>r.1=(↑(nv p.1):Int)->List.length p.2.1<=2/\oW fun h=>h.1=g->∃(I:Db->Prop),∃(a: _->Nat),I (r.1,h)/\∀(p:Db),let c:=(p.2.1,Int.tmod p.1 p.2.1,());(Ty.int u64).wf p.1/\(Ty.int u64).wf p.2.1/\True->I p->(iB (decide (p.2.1≠b)) (p.2.1≠b/\I c/\a c<a p) (True/\N3 fun r=>r.1=nc p.1.toNat->r.1=nc ((nv x.1).gcd e)))) ((E1 p.1/\(3:Nat)<=List.length p.1/\Kt p.1/\nv p.2.1<=nv p.1/\List.length p.2.1<=List.length p.1)/\∀(r:(Int×Int×Int×Int×Bool)×Unit),(FR r.1.1/\FR r.1.2.1/\FR r.1.2.2.1/\FR r.1.2.2.2.1/\True)/\True->B6y (↑(nv p.1):Int) g r.1.1 r.1.2.1 r.1.2.2.1 r.1.2.2.2.1 r.1.2.2.2.2->(iB (decide (r.1.2.2.1=b)) (E1 p.1/\∀(r:B0q),let f:=(p.2.1,r.2.1,());Hd r.1/\Hd r.2.1/\True/\True->(nv p.2.1=0->r.1= []/\r.2.1= []/\r.2.2.1=false)/\(nv p.2.1≠0->r.1=nc (nv p.1/nv p.2.1)/\r.2.1=nc (nv p.1%nv p.2.1)/\r.2.2.1=true)->I f/\a f<a p) ((iB r.1.2.2.2.2 ((T3 p.1/\T3 p.2.1/\nv p.2.1*Int.toNat r.1.2.2.1<=nv p.1*Int.toNat r.1.1)/\N3 fun h=>h.1=nc (nv p.1*Int.toNat r.1.1-nv p.2.1*Int.toNat r.1.2.2.1)->(T3 p.2.1/\T3 p.1/\nv p.1*Int.toNat r.1.2.1<=nv p.2.1*Int.toNat r.1.2.2.2.1)/\N3 fun i=>i.1=nc (nv p.2.1*Int.toNat r.1.2.2.2.1-nv p.1*Int.toNat r.1.2.1)->I (h.1,i)/\a (h.1,i)<a p) ((T3 p.2.1/\T3 p.1/\nv p.1*Int.toNat r.1.1<=nv p.2.1*Int.toNat r.1.2.2.1)/\N3 fun h=>h.1=nc (nv p.2.1*Int.toNat r.1.2.2.1-nv p.1*Int.toNat r.1.1)->(T3 p.1/\T3 p.2.1/\nv p.2.1*Int.toNat r.1.2.2.2.1<=nv p.1*Int.toNat r.1.2.1)/\N3 fun i=>i.1=nc (nv p.1*Int.toNat r.1.2.1-nv p.2.1*Int.toNat r.1.2.2.2.1)->I (h.1,i)/\a (h.1,i)<a p))))))) (Fx p.1/\N3 fun r=>r.1=nc (nv p.1)->r.1=nc ((nv x.1).gcd e)))
def Xx (x:A5 X1.args) (I:awf X1.args x) (R:X1.pre x):Mn x:=by
 obtain⟨a,b,_⟩:=x;have O:A7 a:=A3 I.1.2;have Y:A7 b:=A3 I.2.1.2;change List Int at a b;have B:a.length<=17592186044416:=R;have W:=C9 O;simp only[Mn,iB,N3,oW,Ed];refine⟨trivial, ?_⟩;rintro⟨y,_⟩ _ r;refine⟨trivial, ?_⟩;rintro⟨s,_⟩ _ j;simp only at r j⊢;have t:nv y=nv a:=by rw[r,F3]
 have u:nv s=nv b:=by rw[j,F3]
 have A:y.length<=a.length:=by rw[r];exact W
 have a1:A7 y:=r▸J3 _;have T:A7 s:=j▸J3 _;refine⟨fun h=> ?_,fun h=> ?_⟩
 . have h:=qA h;have c:nv b=0:=by rw[<-u,qO (l:=s) (by omega)];rfl
   exact⟨fun _=>⟨by trivial,by trivial,by trivial⟩,fun f=>absurd c f⟩
 have h:=qB h;have o:nv b≠0:=fun c=>h (by rw[j,c,O3];rfl)
 refine⟨trivial, ?_⟩;rintro⟨X,_⟩ _ g;simp only at g⊢;rw[t,u]at g;refine⟨fun h=> ?_,fun h=> ?_⟩
 . have h:=qA h;have E:nv a<nv b:=by
    rcases sC (nv a) (nv b)with f|f
    . exact f
    . unfold Bm at g;rw[qH (by omega)]at g;split at g<;>omega
   refine⟨qX A (qX B (by decide)), ?_⟩;rintro⟨a3,_⟩ _ H;simp only at H⊢;refine⟨fun c=>absurd c o,fun _=>⟨?_, ?_,by trivial⟩⟩
   . rw[uG E,O3]
   . rw[tU E,H,t]
 have h:=qB h;have P:nv b<=nv a:=by
  rcases sC (nv a) (nv b)with f|f
  . rw[Lx f]at g;omega
  . exact f
 have U:s.length<=y.length:=by rw[r,j];exact I9 P
 refine⟨fun k=> ?_,fun k=> ?_⟩
 . have k:=qA k;refine⟨by omega, ?_⟩;rintro⟨x,_⟩ ⟨J,_⟩ v;refine⟨by omega, ?_⟩;rintro⟨D,_⟩ ⟨V,_⟩ w;change Int at x D;simp only at J V v w⊢;rw[t]at v;rw[u]at w;have a2:x<=18446744073709551615:=by have:=J.2;rw[Zx]at this;exact this
   have M:Int.tdiv x D=((nv a/nv b:Nat):Int):=by rw[v,w];rfl
   have N:Int.tmod x D=((nv a%nv b:Nat):Int):=by rw[v,w];rfl
   have a0:nv a/nv b<=nv a:=wU _ _;refine⟨by omega,by omega,trivial, ?_⟩;rintro⟨q,_⟩ _ G;refine⟨trivial, ?_⟩;rintro⟨m,_⟩ _ F;simp only at G F⊢;refine⟨fun c=>absurd c o,fun _=>⟨?_, ?_,by trivial⟩⟩
   . rw[G,M];generalize nv a/nv b=Q at*;rw[V4 (by omega) (by omega)];rfl
   . rw[F,N];rfl
 have k:=qB k;refine⟨fun n=> ?_,fun n=> ?_⟩
 . have n:=qA n;have e:(gx (0:Int) s (0:Int)).toNat=nv b:=by
    rw[<-u];obtain⟨z,rfl⟩:∃z,s= [z]:=g2a.1 (by omega);show z.toNat=z.toNat+4294967296*0;omega
   have Z:=Sa T (i:=0) (qI _) (by omega);refine⟨⟨qI _,by omega⟩,⟨qX A B,by omega⟩, ?_⟩;rintro⟨q,m,_⟩ _ d;simp only at d⊢;rw[e,t]at d;exact⟨fun c=>absurd c o,fun _=>⟨d.1,d.2,by trivial⟩⟩
 have n:=qB n;refine⟨⟨qX A B,by omega,U,by rw[j];exact ZV o⟩, ?_⟩;rintro⟨q,m,_⟩ _ d;simp only at d⊢;rw[t,u]at d;exact⟨fun c=>absurd c o,fun _=>⟨d.1,d.2,by trivial⟩⟩
structure fA (A B A' B':Nat):Prop where
 g:Nat.gcd A' B'=Nat.gcd A B
 le:B'<=A'
 lt:A'+B'<A+B
 top:A'<=A
def A3e {A B:Nat} (h:B<=A) (a:0<B):fA A B B (A%B) where
 g:=by rw[wX A B,wX B];exact(g3c B A).symm
 le:=vP (vZ _ a)
 lt:=by have:=vZ A a;omega
 top:=h
def A3m {A B:Nat} {u0 u1 v0 v1:Int} {ev:Bool} (I:0<B) (h:B6y A B u0 u1 v0 v1 ev) (r:v0≠0):
 (ev=true->B*v0.toNat<=A*u0.toNat/\A*u1.toNat<=B*v1.toNat/\fA A B (A*u0.toNat-B*v0.toNat) (B*v1.toNat-A*u1.toNat))/\
 (ev=false->A*u0.toNat<=B*v0.toNat/\B*v1.toNat<=A*u1.toNat/\fA A B (B*v0.toNat-A*u0.toNat) (A*u1.toNat-B*v1.toNat)):=by
 rcases h with h| ⟨A',B',d,f,k,n,u,iB,v,w,z,D⟩
 . exact absurd h r
 have o:=A7m (A:=A) (B:=B) (A':=A') (B':=B') (u0:=u0) (u1:=u1) (v0:=v0) (v1:=v1) (s:=if ev then u0 else -u0) (t:=if ev then -v0 else v0) (p:=if ev then -u1 else u1) (q:=if ev then v1 else -v1) u iB (by rw[d];cases ev<;>simp<;>grind) (by rw[f];cases ev<;>simp<;>grind);obtain⟨U0,rfl⟩:=uM z;obtain⟨U1,rfl⟩:=uM D;obtain⟨V0,rfl⟩:=uM (show(0:Int)<=v0 by omega);obtain⟨V1,rfl⟩:=uM (show(0:Int)<=v1 by omega);obtain⟨b,rfl⟩:=uM k;obtain⟨a,rfl⟩:=uM (Int.le_trans k n);simp only[qU];have J:(1:Int)*(a:Int)<=(V1:Int)*a:=sJ w (by omega);have M:(1:Int)*(b:Int)<=(V0:Int)*b:=sJ v (by omega);have c:∀x y:Nat,((x*y:Nat):Int)=(y:Int)*(x:Int):=fun x y=>by rw[uQ,g1z]
 have E:=c A U0;have F:=c B V0;have G:=c A U1;have H:=c B V1;have l:fA A B a b:=⟨o.symm,by omega,by omega,by omega⟩;refine⟨fun g=> ?_,fun g=> ?_⟩
 . subst g;simp only[wA]at d f;have i:A*U0-B*V0=a:=by omega
   have j:B*V1-A*U1=b:=by omega
   refine⟨by omega,by omega, ?_⟩;rw[i,j];exact l
 . subst g;simp only[vW,yR]at d f;have i:B*V0-A*U0=a:=by omega
   have j:A*U1-B*V1=b:=by omega
   refine⟨by omega,by omega, ?_⟩;rw[i,j];exact l
def A7n {x y:Int} (d:0<=x) (f:0<y):Nat.gcd y.toNat (Int.tmod x y).toNat=Nat.gcd x.toNat y.toNat/\(Int.tmod x y).toNat<y.toNat:=by
 obtain⟨a,rfl⟩:=uM d;obtain⟨b,rfl⟩:=uM (wW f);have e:Int.tmod (a:Int) (b:Int)=((a%b:Nat):Int):=rfl;simp only[e,qU];have c:0<b:=by omega
 exact⟨by rw[wX a b,wX b];exact(g3c b a).symm,vZ _ c⟩
structure A5o (G:Nat) (a b:List Int):Prop where
 ea:a=nc (nv a)
 eb:b=nc (nv b)
 le:nv b<=nv a
 g:Nat.gcd (nv a) (nv b)=G
 len:a.length<=8796093022208
def A5o.step {G:Nat} {a b c d:List Int} {A' B':Nat} (h:A5o G a b) (s:fA (nv a) (nv b) A' B') (i:c=nc A') (j:d=nc B'):A5o G c d/\nv c+nv d<nv a+nv b:=by
 have f:nv c=A':=by rw[i,F3]
 have c:nv d=B':=by rw[j,F3]
 refine⟨⟨by rw[f];exact i,by rw[c];exact j,by rw[f,c];exact s.le,by rw[f,c,s.g];exact h.g, ?_⟩,by rw[f,c];exact s.lt⟩;have:=I9 s.top;rw[<-h.ea]at this;rw[i];exact qX this h.len
def IP (x:A5 Dl.args) (J:awf Dl.args x) (k:Dl.pre x):Xy x:=by
 obtain⟨c,d,_⟩:=x;have U:A7 c:=A3 J.1.2;have V:A7 d:=A3 J.2.1.2;change List Int at c d;obtain⟨ah,ai⟩:c.length<=8796093022208/\d.length<=8796093022208:=k;have aj:=C9 U;have ak:=C9 V;simp only[Xy,iB,N3,oW,Ed];refine⟨trivial, ?_⟩;rintro⟨a3,_⟩ _ v;refine⟨trivial, ?_⟩;rintro⟨a4,_⟩ _ w;simp only at v w⊢;have n:nv a3=nv c:=by rw[v,F3]
 have o:nv a4=nv d:=by rw[w,F3]
 refine⟨fun p=>A5o (Nat.gcd (nv c) (nv d)) p.1 p.2.1,⟨trivial, ?_⟩, ?_⟩
 . rintro⟨ad,_⟩ _ r;simp only at r⊢;rw[n,o]at r;refine⟨fun t=> ?_,fun t=> ?_⟩
   . have t:=qA t;refine⟨by rw[o];exact w,by rw[n];exact v, ?_,by rw[n,o,wX],by rw[w];omega⟩;rw[n,o];rcases sC (nv c) (nv d)with f|f
     . omega
     . unfold Bm at r;rw[qH (by omega)]at r;split at r<;>omega
   . have t:=qB t;refine⟨by rw[n];exact v,by rw[o];exact w, ?_,by rw[n,o],by rw[v];omega⟩;rw[n,o];rcases sC (nv c) (nv d)with f|f
     . rw[Lx f]at r;omega
     . exact f
 rintro⟨ab,ac,_⟩ _ F;simp only at F⊢;refine⟨fun p=>A5o (Nat.gcd (nv c) (nv d)) p.1 p.2.1,fun p=>nv p.1+nv p.2.1,F, ?_⟩;rintro⟨s,h,_⟩ ⟨a1,a2,_⟩ a;have ae:A7 s:=A3 a1.2;have af:A7 h:=A3 a2.2;change List Int at s h;simp only at a⊢;have ag:=a.len;have Z:h.length<=s.length:=by rw[a.ea,a.eb];exact I9 a.le
 refine⟨fun j=> ?_,fun j=> ?_⟩
 . have j:=qA j;have G:0<nv h:=by
    rcases vC (nv h)with f|f
    . have:=a.eb;rw[f,O3]at this;rw[this]at j;exact absurd j (by simp)
    . exact f
   have T:nv s≠0:=by have:=a.le;omega
   refine⟨fun u=> ?_,fun u=> ?_⟩
   . have u:=qA u;refine⟨by omega, ?_⟩;rintro⟨x,_⟩ _ M;refine⟨by omega, ?_⟩;rintro⟨O,_⟩ _ N;simp only at M N⊢;refine⟨fun p=>0<=p.1/\0<=p.2.1/\Nat.gcd p.1.toNat p.2.1.toNat=Nat.gcd (nv c) (nv d),fun p=>p.2.1.toNat,⟨by show(0:Int)<=x;omega,by show(0:Int)<=O;omega, ?_⟩, ?_⟩
     . show Nat.gcd x.toNat O.toNat= _;rw[M,N,qU,qU];exact a.g
     rintro⟨X,Y,_⟩ _ ⟨E,P,z⟩;change Int at X Y;simp only at E P z⊢;refine⟨fun i=> ?_,fun i=> ?_⟩
     . have i:=qA i;obtain⟨Q,R⟩:=A7n E (show 0<Y by omega);exact⟨i,⟨P,zE _ E,by rw[Q];exact z⟩,R⟩
     . have i:Y=0:=g2t (qB i);refine⟨trivial, ?_⟩;rintro⟨q,_⟩ _ b;simp only at b⊢;rw[i]at z;rw[b, <-z];exact tF nc (g0y _).symm
   . have u:=qB u;refine⟨⟨by omega,by omega,by rw[a.ea];exact ZV T,a.le,Z⟩, ?_⟩;rintro⟨⟨a5,a6,a7,a8,ev⟩,_⟩ _ H;change Int at a5 a6 a7 a8;change Bool at ev;simp only at H⊢;refine⟨fun y=> ?_,fun y=> ?_⟩
     . refine⟨by omega, ?_⟩;rintro⟨q,m,am,_⟩ _ I;simp only at I⊢;obtain⟨_,a0,_⟩:=I.2 (by omega);exact a.step (A3e a.le G) a.eb a0
     . have y:=qB y;obtain⟨a9,aa⟩:=A3m G H y;refine⟨fun B=> ?_,fun B=> ?_⟩
       . obtain⟨c1,A,D⟩:=a9 B;refine⟨⟨by omega,by omega,c1⟩, ?_⟩;rintro⟨p,_⟩ _ k;refine⟨⟨by omega,by omega,A⟩, ?_⟩;rintro⟨q,_⟩ _ b;simp only at k b⊢;exact a.step D k b
       . obtain⟨c1,A,D⟩:=aa B;refine⟨⟨by omega,by omega,c1⟩, ?_⟩;rintro⟨p,_⟩ _ k;refine⟨⟨by omega,by omega,A⟩, ?_⟩;rintro⟨q,_⟩ _ b;simp only at k b⊢;exact a.step D k b
 . have j:=qB j;refine⟨by show s.length<=35184372088832;omega, ?_⟩;rintro⟨q,_⟩ _ b;simp only at b⊢;have W:nv h=0:=by rw[qO (l:=h) (by omega)];rfl
   have:=a.g;rw[W,g0y]at this;rw[b,this]
def FY:An:= {}
def CS:An:= {}
def NU:An:= {}
def NT:An:= {plan:= [(1,[1,3],[6],true,(.p 0 (.q 1 (.p 2 (.q 3 (.e 4 (.e 5 (.e 6 .done))))))))]}
def QF:An:= {plan:= [(1,[1,4],[7],true,(.p 0 (.q 1 (.p 2 (.p 3 (.q 4 (.e 5 (.e 6 (.e 7 .done)))))))))]}
def QD:An:= {plan:= [(2,[1,3,5],[8],true,(.p 0 (.q 1 (.p 2 (.q 3 (.p 4 (.q 5 (.e 6 (.e 7 (.e 8 .done))))))))))]}
def QE:An:= {plan:= [(1,[1,3,6,8],[11],true,(.p 0 (.q 1 (.p 2 (.q 3 (.p 4 (.p 5 (.q 6 (.p 7 (.q 8 (.e 9 (.e 10 (.e 11 .done)))))))))))))]}
def CR:An:= {plan:= [(1,[0,2],[],true,(.q 0 (.q 2 (.e 1 (.e 3 (.p 4 (.p 5 .done)))))))]}
def Mk:A5 W8.args->Prop:=fun(x:Bool×List Int×Unit)=>(K4 x.1 (decide ((0:Int)<(x.2.1.length:Int))) false,x.2.1)=(x.1&&decide (x.2.1≠ []),x.2.1)
def F7 (P:(Bool×List Int)×Unit->Prop):Prop:=∀r:(Bool×List Int)×Unit,lT r.1/\True->P r
def Kx:A5 U6.args->Prop:=fun(x:D9)=>(iB (decide (x.1<0)) (True/\N3 fun r=>r.1=nc (u64.wrap (-u64.wrap x.1)).toNat->True/\F7 fun a=>a.1=(true&&decide (r.1≠ []),r.1)->a.1=ic x.1) (True/\N3 fun r=>r.1=nc (u64.wrap x.1).toNat->True/\F7 fun a=>a.1=(false&&decide (r.1≠ []),r.1)->a.1=ic x.1))
abbrev pR:=(Bool×List Int)×Unit
def Tw:A5 Bz.args->Prop:=fun(x:pR)=>True/\Ed fun r=>r.1=Bm (nv x.1.2) (nv [])->(iB (decide (r.1=0)) ((0:Int)=(iv x.1).sign) ((iB x.1.1 ((-1:Int)=(iv x.1).sign) ((1:Int)=(iv x.1).sign))))
def Tv:A5 Bw.args->Prop:=fun(x:pR)=>Fx x.1.2/\N3 fun r=>r.1=nc (nv x.1.2)->True/\F7 fun a=>a.1=(x.1.1&&decide (r.1≠ []),r.1)->a.1=ic (iv x.1)
def Xq:A5 Dh.args->Prop:=fun(x:pR)=>Fx x.1.2/\N3 fun r=>r.1=nc (nv x.1.2)->True/\F7 fun a=>a.1=(!x.1.1&&decide (r.1≠ []),r.1)->a.1=ic (-iv x.1)
abbrev ty9:=(Bool×List Int)×(Bool×List Int)×Unit
def Xo:A5 Df.args->Prop:=fun(x:ty9)=>let b:Prop:=(E1 x.1.2/\E1 x.2.1.2);let a:=(iv x.1+iv x.2.1);(iB ((x.1.1==x.2.1.1)) (b/\N3 fun r=>r.1=nc (nv x.1.2+nv x.2.1.2)->True/\F7 fun c=>c.1=(x.1.1&&decide (r.1≠ []),r.1)->c.1=ic a) (b/\∀(r:pS),Hd r.1/\True/\True->(nv x.1.2<nv x.2.1.2->r.1= []/\r.2.1=false)/\(nv x.2.1.2<=nv x.1.2->r.1=nc (nv x.1.2-nv x.2.1.2)/\r.2.1=true)->(iB r.2.1 (True/\F7 fun c=>c.1=(x.1.1&&decide (r.1≠ []),r.1)->c.1=ic a) ((E1 x.2.1.2/\E1 x.1.2)/\∀(r:pS),Hd r.1/\True/\True->(nv x.2.1.2<nv x.1.2->r.1= []/\r.2.1=false)/\(nv x.1.2<=nv x.2.1.2->r.1=nc (nv x.2.1.2-nv x.1.2)/\r.2.1=true)->True/\F7 fun c=>c.1=(x.2.1.1&&decide (r.1≠ []),r.1)->c.1=ic a))))
def Xp:A5 Dg.args->Prop:=fun(x:ty9)=>(E1 x.1.2/\E1 x.2.1.2)/\N3 fun r=>r.1=nc (nv x.1.2*nv x.2.1.2)->True/\F7 fun a=>a.1=(x.1.1 !=x.2.1.1&&decide (r.1≠ []),r.1)->a.1=ic (iv x.1*iv x.2.1)
def Kw:A5 U5.args->Prop:=fun(x:ty9)=>let b:=(iv x.1);let a:=(iv x.2.1);True/\Ed fun r=>r.1=b.sign->True/\Ed fun c=>c.1=a.sign->(iB (decide (r.1<c.1)) ((-1:Int)=N9 b a) ((iB (decide (c.1<r.1)) ((1:Int)=N9 b a) ((iB (decide (r.1<0)) (True/\Ed fun r=>r.1=Bm (nv x.2.1.2) (nv x.1.2)->r.1=N9 b a) (True/\Ed fun r=>r.1=Bm (nv x.1.2) (nv x.2.1.2)->r.1=N9 b a))))))
def Xr (x:A5 W8.args) (a:awf W8.args x) (_:W8.pre x):Mk x:=by
 obtain⟨b,l,_⟩:=x;change Bool at b;change List Int at l;simp only[Mk,H8];cases l<;>simp
def Vi (x:A5 U6.args) (d:awf U6.args x) (_:U6.pre x):Kx x:=by
 obtain⟨v,_⟩:=x;change Int at v;have c:i64.min<=v/\v<=i64.max:=d.1;rw[Ru,Zh]at c;simp only[Kx,iB,N3,F7];refine⟨fun h=>⟨trivial, ?_⟩,fun h=>⟨trivial, ?_⟩⟩
 . rintro⟨r,_⟩ _ a;refine⟨trivial, ?_⟩;rintro⟨s,_⟩ _ b;simp only at a b⊢;have h:=qA h;have e:(u64.wrap (-u64.wrap v)).toNat=v.natAbs:=by rw[Bf,Bf];omega
   rw[e]at a;subst b a;unfold ic;rw[rL h,xO,rL (by rw[g3r,Wl];omega)]
 . rintro⟨r,_⟩ _ a;refine⟨trivial, ?_⟩;rintro⟨s,_⟩ _ b;simp only at a b⊢;have h:=qB h;have e:(u64.wrap v).toNat=v.natAbs:=by rw[Bf];omega
   rw[e]at a;subst b a;unfold ic;rw[rG h,g0q]
def FB (x:A5 Bz.args) (f:awf Bz.args x) (_:Bz.pre x):Tw x:=by
 obtain⟨⟨d,l⟩,_⟩:=x;change Bool at d;change List Int at l;simp only[Tw,iB,Ed];refine⟨trivial, ?_⟩;rintro⟨r,_⟩ _ a;simp only at a⊢;rw[dH]at a;refine⟨fun h=> ?_,fun h=>⟨fun c=> ?_,fun c=> ?_⟩⟩
 . have h:=qA h;have b:nv l=0:=TD.1 (a▸h);unfold iv;simp only[b];split<;>rfl
 . have h:=qB h;have b:nv l≠0:=fun e=>h (by rw[a,e];rfl)
   unfold iv;simp only[c,wA];rw[Int.sign_neg,uR (by omega)]
 . have h:=qB h;have b:nv l≠0:=fun e=>h (by rw[a,e];rfl)
   unfold iv;simp only[c];exact(uR (by simp;omega)).symm
def UQ {neg:Bool} {m:Nat} {v:Int} (h:v=if neg=true then -(m:Int)else(m:Int)):(neg&&decide (nc m≠ []),nc m)=ic v:=by
 have e:ic (iv (neg,nc m))=(neg&&decide (m≠0),nc m):=A7s;have a:iv (neg,nc m)=v:=by rw[h];unfold iv;simp only[F3]
 rw[a]at e;rw[e];have:decide (nc m≠ [])=decide (m≠0):=wK.2 (g4u Wl);rw[this]
def FA (x:A5 Bw.args) (f:awf Bw.args x) (d:Bw.pre x):Tv x:=by
 obtain⟨⟨c,l⟩,_⟩:=x;change Bool at c;change List Int at l;simp only[Tv,N3,F7];refine⟨d, ?_⟩;rintro⟨r,_⟩ _ a;refine⟨trivial, ?_⟩;rintro⟨z,_⟩ _ b;simp only at a b⊢;subst a;rw[b];exact UQ rfl
def II (x:A5 Df.args) (s:awf Df.args x) (o:Df.pre x):Xo x:=by
 obtain⟨⟨b,l⟩,⟨g,k⟩,_⟩:=x;change Bool at b g;change List Int at l k;obtain⟨j,i⟩:E1 l/\E1 k:=o;simp only[Xo,iB,N3,F7];refine⟨fun h=> ?_,fun h=> ?_⟩
 . refine⟨⟨j,i⟩, ?_⟩;rintro⟨r,_⟩ _ c;refine⟨trivial, ?_⟩;rintro⟨z,_⟩ _ a;simp only at c a⊢;have h:b=g:=by simpa using h
   subst c h;rw[a];refine UQ ?_;unfold iv;cases b<;>simp<;>omega
 . have h:g= !b:=by cases b<;>cases g<;>simp_all
   subst h;refine⟨⟨j,i⟩, ?_⟩;rintro⟨r,t,_⟩ _ c;simp only at c⊢;refine⟨fun f=>⟨trivial, ?_⟩,fun f=>⟨⟨i,j⟩, ?_⟩⟩
   . rintro⟨z,_⟩ _ a;simp only at a⊢;rcases sC (nv l) (nv k)with d|d
     . rw[(c.1 d).2]at f;exact absurd f (by decide)
     . rw[(c.2 d).1]at a;rw[a];refine UQ ?_;unfold iv;cases b<;>simp<;>omega
   . rintro⟨v,u,_⟩ _ n;refine⟨trivial, ?_⟩;rintro⟨z,_⟩ _ a;simp only at n a⊢;rcases sC (nv l) (nv k)with d|d
     . rw[(n.2 (by omega)).1]at a;rw[a];refine UQ ?_;unfold iv;cases b<;>simp<;>omega
     . rw[(c.2 d).2]at f;exact absurd f (by decide)
def IJ (x:A5 Dg.args) (i:awf Dg.args x) (h:Dg.pre x):Xp x:=by
 obtain⟨⟨b,l⟩,⟨c,k⟩,_⟩:=x;change Bool at b c;change List Int at l k;obtain⟨g,f⟩:E1 l/\E1 k:=h;simp only[Xp,N3,F7];refine⟨⟨g,f⟩, ?_⟩;rintro⟨r,_⟩ _ a;refine⟨trivial, ?_⟩;rintro⟨z,_⟩ _ d;simp only at a d⊢;subst a;rw[d];refine UQ ?_;unfold iv;cases b<;>cases c<;>simp<;>grind
def AG:An:= {}
def GF:An:= {plan:= [(3,[1],[4],false,(.p 0 (.q 1 (.p 2 (.or 3 (.e 4 (.p 5 .done)) (.e 4 (.e 3 (.p 5 .done))))))))]}
def JW:An:= {}
def GG:An:= {}
def Vt:An:= {join:= [(4,⟨[0,1,4],[0],[(5,false,vU)],[],[]⟩)],loop:= [(5,⟨[0,1,4,5],[0],[(6,false,vU),(7,false,vU)],[],[]⟩)],plan:= [(6,[],[],true,(pZ9 0 6 .done)),(7,[],[13],true,(pZ9 0 5 (pZ9 7 4 (.e 5 (.p 6 (.e 11 (.p 12 (.e 13 .done))))))))]}
def CZ:An:= {join:= [(8,⟨[2,4],[1],[(1,false,[.val (.sl (.int .u32))])],[(0,29,[.val .bool, .val (.sl (.int .u32))])],[]⟩)]}
def JV:An:= {}
def Im:A5 O1.args->Prop:=fun(x:D9)=>True/\F7 fun r=>r.1=ic x.1->(r.1,[(1:Int)])=ri x.1
def Mr:A5 X8.args->Prop:=fun(x:H5)=>let d:=(1:Int);let c:=(0:Nat);let b:Prop:=(nv x.1.2=c->x.1.1=zi/\x.1.2= [d]);let a:Prop:=(nv x.1.2≠c->x.1.1=x.1.1/\x.1.2=x.1.2);True/\Ed fun r=>r.1=Bm (nv x.1.2) (nv [])->(iB (decide (r.1=0)) ((nv x.1.2=c->(false,[])=zi/\ [d]= [d])/\(nv x.1.2≠c->(false,[])=x.1.1/\ [d]=x.1.2)) ((b/\a)/\b/\a))
abbrev eG:=(Bool×List Int)×List Int×Unit
def Qx:A5 Ak.args->Prop:=fun(x:H5)=>True/\∀(r:eG),lT r.1/\Hd r.2.1/\True->(nv x.1.2=0->r.1=zi/\r.2.1= [(1:Int)])/\(nv x.1.2≠0->r.1=x.1.1/\r.2.1=x.1.2)->True/\Ed fun a=>a.1=(iv r.1).sign->a.1=(rv x.1).num.sign
def Ms:A5 X9.args->Prop:=fun(x:H5)=>let e:=(0:Int);let c:Prop:=(¬J0 x.1->true=false);let b:=(18446744073709551616:Nat);True/\∀(r:A4z),FR r.1/\True/\True->(nv x.1.1.2<b->r.1=(↑(nv x.1.1.2):Int)/\r.2.1=true)/\(b<=nv x.1.1.2->r.2.1=false)->True/\∀(f:A4z),let d:=(decide (2147483648<=f.1));let a:=(K4 (K4 (!r.2.1) true !f.2.1) true (decide (2147483648<=r.1)));FR f.1/\True/\True->(nv x.1.2<b->f.1=(↑(nv x.1.2):Int)/\f.2.1=true)/\(b<=nv x.1.2->f.2.1=false)->(iB (K4 a true d) ((J0 x.1->e=Ov x.1/\e=Li x.1/\false=true)/\(¬J0 x.1->false=false)) ((iB (decide (f.1=e)) ((J0 x.1->e=Ov x.1/\(1:Int)=Li x.1/\true=true)/\c) ((iB x.1.1.1 ((J0 x.1->i64.wrap (-i64.wrap r.1)=Ov x.1/\i64.wrap f.1=Li x.1/\true=true)/\c) ((J0 x.1->i64.wrap r.1=Ov x.1/\i64.wrap f.1=Li x.1/\true=true)/\c))))))
def Hw:A5 R0.args->Prop:=fun(x:Db)=>let a:=(0:Int);∃(J:D9->Prop),((iB (decide (x.1<a)) (J (u64.wrap (-u64.wrap x.1),())) (J (u64.wrap x.1,()))))/\∀(p:D9),(Ty.int u64).wf p.1/\True->J p->∃(I:Db->Prop),∃(d: _->Nat),I (u64.wrap x.2.1,p)/\∀(c:Db),let b:=(c.2.1,Int.tmod c.1 c.2.1,());(Ty.int u64).wf c.1/\(Ty.int u64).wf c.2.1/\True->I c->(iB (decide (c.2.1≠a)) (c.2.1≠a/\I b/\d b<d c) (c.1≠a/\c.1≠a/\True/\N3 fun r=>r.1=nc (u64.wrap (Int.tdiv p.1 c.1)).toNat->True/\N3 fun d=>d.1=nc (u64.wrap ((u64.wrap x.2.1).tdiv c.1)).toNat->((decide (x.1<a),r.1),d.1)=rc (mkRat x.1 x.2.1.toNat)))
abbrev C0w:=List Int×Bool×List Int×Unit
def Le:A5 V3.args->Prop:=fun(x:eG)=>let g:=(0:Nat);let f:=(nv x.2.1);let c:=(1:Int);let b:=(0:Int);Fx x.1.2/\F7 fun r=>let d:=(r.1.2.length:Int);r.1=ic (iv x.1)->Fx x.2.1/\N3 fun k=>k.1=nc f->(iB (decide (d=b)) (((false,[]),[c])=rc (mkRat (iv x.1) f)) ((T3 r.1.2/\T3 k.1)/\N3 fun h=>let e:=(decide (gx b h.1 b≠c));let a:=(h.1.length:Int);h.1=nc ((nv r.1.2).gcd (nv k.1))->∃(J:C0w->Prop),((decide (a≠c)=false->b<=b/\b<a)/\(iB (K4 (decide (a≠c)) true e) (E1 r.1.2/\∀(i:B0q),Hd i.1/\Hd i.2.1/\True/\True->(nv h.1=g->i.1= []/\i.2.1= []/\i.2.2.1=false)/\(nv h.1≠g->i.1=nc (nv r.1.2/nv h.1)/\i.2.1=nc (nv r.1.2%nv h.1)/\i.2.2.1=true)->E1 k.1/\∀(j:B0q),Hd j.1/\Hd j.2.1/\True/\True->(nv h.1=g->j.1= []/\j.2.1= []/\j.2.2.1=false)/\(nv h.1≠g->j.1=nc (nv k.1/nv h.1)/\j.2.1=nc (nv k.1%nv h.1)/\j.2.2.1=true)->J (j.1,r.1.1,i.1,())) (J (k.1,r.1.1,r.1.2,()))))/\∀(p:C0w),(Ty.int u32).sl.wf p.1/\Ty.bool.wf p.2.1/\(Ty.int u32).sl.wf p.2.2.1/\True->J p->((p.2.1,p.2.2.1),p.1)=rc (mkRat (iv x.1) f)))
def I5 (P:QQ×Unit->Prop):Prop:=∀r:QQ×Unit,FP r.1/\True->P r
def Qw:A5 T6.args->Prop:=fun(x:H5)=>True/\∀(r:lC),R2 r.1/\R2 r.2.1/\True/\True->(J0 x.1->r.1=Ov x.1/\r.2.1=Li x.1/\r.2.2.1=true)/\(¬J0 x.1->r.2.2.1=false)->(iB r.2.2.1 (0<r.2.1/\I5 fun a=>a.1=rc (mkRat r.1 r.2.1.toNat)->a.1=rc (rv x.1)) (True/\∀(r:eG),lT r.1/\Hd r.2.1/\True->(nv x.1.2=0->r.1=zi/\r.2.1= [(1:Int)])/\(nv x.1.2≠0->r.1=x.1.1/\r.2.1=x.1.2)->(nv r.2.1≠0/\T3 r.1.2/\T3 r.2.1)/\I5 fun a=>a.1=rc (mkRat (iv r.1) (nv r.2.1))->a.1=rc (rv x.1)))
def Tg (x:A5 O1.args) (b:awf O1.args x) (_:O1.pre x):Im x:=by
 obtain⟨v,_⟩:=x;simp only[Im,F7];refine⟨trivial, ?_⟩;rintro⟨r,_⟩ _ a;simp only at a⊢;rw[a];rfl
def Yk (x:A5 X8.args) (d:awf X8.args x) (_:X8.pre x):Mr x:=by
 obtain⟨⟨c,l⟩,_⟩:=x;change List Int at l;simp only[Mr,iB,Ed];refine⟨trivial, ?_⟩;rintro⟨r,_⟩ _ b;simp only at b⊢;rw[dH]at b;refine⟨fun h=> ?_,fun h=> ?_⟩
 . have a:nv l=0:=TD.1 (b▸qA h);exact⟨fun _=>⟨rfl,by trivial⟩,fun h=>absurd a h⟩
 . have a:nv l≠0:=fun e=>(qB h) (by rw[b,e];rfl)
   exact⟨⟨fun h=>absurd h a,fun _=>⟨by trivial,by trivial⟩⟩,fun h=>absurd h a,fun _=>⟨by trivial,by trivial⟩⟩
def BF (x:A5 Ak.args) (g:awf Ak.args x) (_:Ak.pre x):Qx x:=by
 obtain⟨⟨d,l⟩,_⟩:=x;change List Int at l;simp only[Qx,Ed];refine⟨trivial, ?_⟩;rintro⟨r,f,_⟩ _ ⟨a,b⟩;refine⟨trivial, ?_⟩;rintro⟨s,_⟩ _ c;simp only at a b c⊢;rw[c, <-B3t];unfold B7p;split
 . rename_i h;rw[(a h).1];rfl
 . rename_i h;rw[(b h).1]
def Yl (x:A5 X9.args) (O:awf X9.args x) (_:X9.pre x):Ms x:=by
 obtain⟨⟨⟨g,a⟩,l⟩,_⟩:=x;change Bool at g;change List Int at a l;simp only[Ms,iB];refine⟨trivial, ?_⟩;rintro⟨u,f,_⟩ _ ⟨k,y⟩;refine⟨trivial, ?_⟩;rintro⟨v,d,_⟩ _ ⟨n,z⟩;change Int at u v;change Bool at f d;simp only at k y n z⊢;have r:K4 (K4 (K4 (!f) true !d) true (decide (2147483648<=u))) true (decide (2147483648<=v))=(!f|| !d||decide (2147483648<=u) ||decide (2147483648<=v)):=by simp only[L6]
 rw[r];have G:(!f|| !d||decide (2147483648<=u) ||decide (2147483648<=v))=false->J0 ((g,a),l)/\u=(nv a:Int)/\v=(nv l:Int):=fun h=>by
  simp only[rD,g0r,rP]at h;obtain⟨⟨⟨t,w⟩,M⟩,N⟩:=h;have D:nv a<18446744073709551616:=by
   rcases sC (nv a) 18446744073709551616 with h|h
   . exact h
   . rw[y h]at t;cases t
  have E:nv l<18446744073709551616:=by
   rcases sC (nv l) 18446744073709551616 with h|h
   . exact h
   . rw[z h]at w;cases w
  have I:=(k D).1;have J:=(n E).1;exact⟨⟨by show nv a< _;omega,by show nv l< _;omega⟩,I,J⟩
 have H:J0 ((g,a),l)->(!f|| !d||decide (2147483648<=u) ||decide (2147483648<=v))=false:=fun h=>by
  obtain⟨i,j⟩:=h;change nv a< _ at i;change nv l< _ at j;obtain⟨D,t⟩:=k (by omega);obtain⟨E,w⟩:=n (by omega);simp only[rD,g0r,rP];exact⟨⟨⟨t,w⟩,by omega⟩,by omega⟩
 refine⟨fun h=>⟨fun r=> ?_,fun _=>trivial⟩,fun h=> ?_⟩
 . rw[H r]at h;cases h
 . obtain⟨A,F,B⟩:=G h;have s:=A;obtain⟨i,j⟩:=A;change nv a< _ at i;change nv l< _ at j;refine⟨fun c=> ?_,fun c=>⟨fun o=> ?_,fun o=> ?_⟩⟩
   . have c:=qA c;have b:nv l=0:=by omega
     exact⟨fun _=>⟨by unfold Ov;rw[qK b],by unfold Li;rw[qK b],trivial⟩,fun h=>absurd s h⟩
   . have c:=qB c;have b:nv l≠0:=by omega
     refine⟨fun _=>⟨?_, ?_,trivial⟩,fun h=>absurd s h⟩
     . unfold Ov;rw[qH b,wv (a:=u) (by omega),wv (by omega)];unfold iv;simp only[o,wA];omega
     . unfold Li;rw[qH b,wv (by omega)];exact B
   . have c:=qB c;have b:nv l≠0:=by omega
     refine⟨fun _=>⟨?_, ?_,trivial⟩,fun h=>absurd s h⟩
     . unfold Ov;rw[qH b,wv (a:=u) (by omega)];unfold iv;simp only[o];simpa using F
     . unfold Li;rw[qH b,wv (by omega)];exact B
def Qy (x:A5 R0.args) (A:awf R0.args x) (F:R0.pre x):Hw x:=by
 obtain⟨n,d,_⟩:=x;change Int at n d;have I:0<d:=F;have c:=(show i64.min<=n/\n<=i64.max from A.1);have r:=(show i64.min<=d/\d<=i64.max from A.2.1);rw[Ru,Zh]at c r;obtain⟨Q,R⟩:=c;have J:=r.2;have P:i64.min= -9223372036854775808:=Ru;simp only[Hw,iB,N3];refine⟨fun p=>p.1=(n.natAbs:Int),⟨fun h=> ?_,fun h=> ?_⟩, ?_⟩
 . have h:=qA h;show u64.wrap (-u64.wrap n)= _;rw[Bf,Bf];omega
 . have h:=qB h;show u64.wrap n= _;rw[Bf];omega
 rintro⟨U,_⟩ _ z;simp only at z⊢;subst z;have o:u64.wrap d=d:=V4 (by omega) (by omega);refine⟨fun p=>0<=p.1/\0<=p.2.1/\(p.1≠0\/p.2.1≠0)/\p.1.toNat.gcd p.2.1.toNat=d.toNat.gcd n.natAbs,fun p=>p.2.1.toNat, ?_, ?_⟩
 . refine⟨by omega,by show(0:Int)<=(n.natAbs:Int);omega, .inl (by omega), ?_⟩;rw[o];rfl
 rintro⟨g,t,_⟩ _ ⟨j,a,D,k⟩;change Int at g t;simp only at j a D k⊢;refine⟨fun h=> ?_,fun h=> ?_⟩
 . have h:=qA h;have e:Int.tmod g t=g%t:=uJ j;have i:=g2e g h;have M:=zJ g (b:=t) (by omega);rw[e];refine⟨h,⟨a,i, .inl h, ?_⟩,by omega⟩;rw[<-k,Int.toNat_emod j a,wX t.toNat, <-g3c,wX]
 . have h:t=0:=by simpa using h
   subst h;have u:g≠0:=by omega
   refine⟨u,u,trivial, ?_⟩;rintro⟨T,_⟩ _ y;refine⟨trivial, ?_⟩;rintro⟨q,_⟩ _ w;simp only at y w⊢;have N:g.toNat=d.toNat.gcd n.natAbs:=by rw[<-k];simp
   have O:0<g:=by omega
   have v:g=((d.toNat.gcd n.natAbs:Nat):Int):=by omega
   obtain⟨c,E⟩:=Lw (x:=n) (d:=d.toNat) (by omega);have B:(u64.wrap (Int.tdiv (n.natAbs:Int) g)).toNat=n.natAbs/d.toNat.gcd n.natAbs:=by
    rw[IntWalk.u64_quo _ _ ⟨by omega,by omega,by omega⟩,v, <-g4h,qU]
   have i:(u64.wrap (Int.tdiv d g)).toNat=d.toNat/d.toNat.gcd n.natAbs:=by
    rw[IntWalk.u64_quo _ _ ⟨by omega,by omega,by omega⟩,v]
    conv=>lhs;rw[show d=((d.toNat:Nat):Int)from by omega]
    rw[<-g4h,qU];simp only[qU]
   rw[y,w,o,B,i];unfold rc;rw[c,E];unfold ic;have s:((d.toNat.gcd n.natAbs:Nat):Int)∣n:=yA.2 (yO ..);have l:0<d.toNat.gcd n.natAbs:=by omega
   generalize d.toNat.gcd n.natAbs=G at s l;obtain⟨f,rfl⟩:=s;rw[xP _ (by omega)];have H:(G:Int)*f<0↔f<0:=by
    constructor
    . intro h;rcases g4b f 0 with a|a
      . exact a
      . have:=tL (wW (uB.2 l)) a;omega
    . intro h;exact yU (by omega) h
   rw[vF,uI,xX _ l];simp only[H]
def Sf (x:C7):mkRat (Ov x) (Li x).toNat=rv x:=by
 unfold Ov Li rv;split
 . rename_i h;rw[h,yQ];rfl
 . rename_i h;rw[qU]
def A9h (x:C7):0<Li x:=by
 unfold Li;split
 . decide
 . omega
def Vo (x:A5 V3.args) (w:awf V3.args x) (H:V3.pre x):Le x:=by
 obtain⟨⟨b,l⟩,k,_⟩:=x;have G:A7 l:=A3 w.1.2.2;have F:A7 k:=A3 w.2.1.2;change Bool at b;change List Int at l k;obtain⟨j,V,U⟩:nv k≠0/\l.length<=8796093022208/\k.length<=8796093022208:=H;simp only[Le,iB,N3,F7];have N:=C9 G;have M:=C9 F;refine⟨by show l.length<=35184372088832;omega, ?_⟩;rintro⟨⟨y,r⟩,_⟩ _ f;refine⟨by show k.length<=35184372088832;omega, ?_⟩;rintro⟨d,_⟩ _ c;simp only at f c⊢;have I:y=decide (iv (b,l)<0):=tF (·.1) f;have v:r=nc (iv (b,l)).natAbs:=tF (·.2) f;have A:(iv (b,l)).natAbs=nv l:=I8 _;have i:nv r=(iv (b,l)).natAbs:=by rw[v,F3]
 have o:nv d=nv k:=by rw[c,F3]
 have T:r.length<=l.length:=by rw[v,A];exact N
 have Q:d.length<=k.length:=by rw[c];exact M
 refine⟨fun h=> ?_,fun h=> ?_⟩
 . have h:=qA h;have B:r= []:=qO (by omega);rw[B,dH]at i;have:iv (b,l)=0:=Int.natAbs_eq_zero.1 i.symm;rw[this,Rat.zero_mkRat,A1q]
 have h:=qB h;refine⟨⟨by omega,by omega⟩, ?_⟩;rintro⟨g,_⟩ _ n;simp only at n⊢;rw[i,o]at n;have R:Nat.gcd (iv (b,l)).natAbs (nv k)≠0:=Nat.ne_of_gt (g1i _ (sW j));have s:nv g=Nat.gcd (iv (b,l)).natAbs (nv k):=by rw[n,F3]
 refine⟨fun p=>((p.2.1,p.2.2.1),p.1)=rc (mkRat (iv (b,l)) (nv k)),⟨fun a=> ?_,fun a=> ?_,fun a=> ?_⟩, ?_⟩
 . have a:=qB a;exact⟨qI _,by omega⟩
 . refine⟨by show r.length<= _;omega, ?_⟩;rintro⟨q,m,X,_⟩ _ t;refine⟨by show d.length<= _;omega, ?_⟩;rintro⟨Z,W,Y,_⟩ _ u;simp only at t u⊢;rw[dW j,(t.2 (by omega)).1,(u.2 (by omega)).1,i,o,s,I]
 . have a:g.length=1/\gx 0 g 0=1:=by
    rw[L6]at a;simp only[rD,rP]at a;omega
   obtain⟨z,rfl⟩:∃z,g= [z]:=g2a.1 a.1;have J:z=1:=a.2;subst J;have D:Nat.gcd (iv (b,l)).natAbs (nv k)=1:=by rw[<-s];rfl
   rw[B3p j D];show((y,r),d)= _;rw[c, <-f]
 . rintro⟨O,a0,P,_⟩ _ E;exact E
def BE (x:A5 T6.args) (v:awf T6.args x) (n:T6.pre x):Qw x:=by
 obtain⟨q,_⟩:=x;change C7 at q;obtain⟨i,j⟩:q.1.2.length<=2199023255552/\q.2.length<=2199023255552:=n;simp only[Qw,iB,I5];refine⟨trivial, ?_⟩;rintro⟨s,f,z,_⟩ _ ⟨c,d⟩;change Int at s f;simp only at c d⊢;refine⟨fun h=> ?_,fun h=>⟨trivial, ?_⟩⟩
 . have o:J0 q:=qM fun hn=>by rw[d hn]at h;cases h
   obtain⟨rfl,rfl,_⟩:=c o;refine⟨A9h q, ?_⟩;rintro⟨u,_⟩ _ a;simp only at a⊢;rw[a,Sf]
 . rintro⟨t,g,_⟩ _ b;simp only at b⊢;obtain⟨l,r⟩:=Jy b;obtain⟨w,y⟩:=Gq (k:=2199023255552) b i j (by decide);refine⟨⟨l,by show t.2.length<= _;omega,by show g.length<= _;omega⟩, ?_⟩;rintro⟨u,_⟩ _ a;simp only at a⊢;rw[a,r]
def NZ:An:= {plan:= [(13,[0,4],[10],true,(.q 0 (.p 1 (.p 2 (.q 4 (.p 5 (.p 6 (.or 3 (.or 7 (.or 8 (.e 9 (.e 10 .done)) (.e 9 (.e 8 (.e 10 .done)))) (.e 9 (.e 7 (.e 8 (.e 10 .done))))) (.e 9 (.e 3 (.e 7 (.e 8 (.e 10 .done))))))))))))),(14,[0],[5],true,(.q 0 (.p 1 (.p 2 (.e 3 (.e 4 (.e 5 .done)))))))]}
def OE:An:= {}
def OC:An:= {}
def OD:An:= {}
def AF:An:= {plan:= [(1,[0,2],[],true,(.q 0 (.q 2 (.e 1 (.e 3 (.p 4 (.p 5 .done))))))),(10,[0,4],[],true,(.q 0 (.p 1 (.p 2 (.q 4 (.p 5 (.p 6 (.e 3 (.e 7 (.e 8 (.p 9 .done)))))))))))]}
def OB:An:= {}
def OA:An:= {}
def Uc:A5 Cd.args->Prop:=fun(x:V8)=>let g:=(0:Int);let e:=(0:Nat);let a:=(rv x.1+rv x.2.1);True/\Ed fun r=>r.1=(rv x.1).num.sign->(iB (decide (r.1=g)) (E7 x.2.1/\I5 fun r=>r.1=rc (rv x.2.1)->r.1=rc a) (True/\Ed fun r=>r.1=(rv x.2.1).num.sign->(iB (decide (r.1=g)) (E7 x.1/\I5 fun r=>r.1=rc (rv x.1)->r.1=rc a) (True/\∀(r:lC),R2 r.1/\R2 r.2.1/\True/\True->(J0 x.1->r.1=Ov x.1/\r.2.1=Li x.1/\r.2.2.1=true)/\(¬J0 x.1->r.2.2.1=false)->True/\∀(q:lC),R2 q.1/\R2 q.2.1/\True/\True->(J0 x.2.1->q.1=Ov x.2.1/\q.2.1=Li x.2.1/\q.2.2.1=true)/\(¬J0 x.2.1->q.2.2.1=false)->(iB (K4 r.2.2.1 q.2.2.1 false) (g<i64.wrap (r.2.1*q.2.1)/\I5 fun m=>m.1=rc (mkRat (i64.wrap (i64.wrap (r.1*q.2.1)+i64.wrap (q.1*r.2.1))) (i64.wrap (r.2.1*q.2.1)).toNat)->m.1=rc a) (True/\∀(r:eG),lT r.1/\Hd r.2.1/\True->(nv x.1.2=e->r.1=zi/\r.2.1= [(1:Int)])/\(nv x.1.2≠e->r.1=x.1.1/\r.2.1=x.1.2)->True/\∀(m:eG),let j:Prop:=(E1 r.1.2/\E1 m.2.1);let h:=(iv r.1*iv (false,m.2.1));let f:Prop:=(E1 m.1.2/\E1 r.2.1);let d:=(iv m.1*iv (false,r.2.1));let c:=(nv r.2.1*nv m.2.1);let b:Prop:=(E1 r.2.1/\E1 m.2.1);lT m.1/\Hd m.2.1/\True->(nv x.2.1.2=e->m.1=zi/\m.2.1= [(1:Int)])/\(nv x.2.1.2≠e->m.1=x.2.1.1/\m.2.1=x.2.1.2)->True/\Ed fun s=>s.1=Bm (nv r.2.1) (nv m.2.1)->(iB (decide (s.1=g)) ((E1 r.1.2/\E1 m.1.2)/\F7 fun p=>p.1=ic (iv r.1+iv m.1)->(nv r.2.1≠e/\T3 p.1.2/\T3 r.2.1)/\I5 fun o=>o.1=rc (mkRat (iv p.1) (nv r.2.1))->o.1=rc a) ((j/\F7 fun p=>p.1=ic h->(f/\F7 fun o=>let k:=(iv p.1+iv o.1);let i:Prop:=(E1 p.1.2/\E1 o.1.2);o.1=ic d->(i/\F7 fun n=>n.1=ic k->b/\N3 fun l=>l.1=nc c->(nv l.1≠e/\T3 n.1.2/\T3 l.1)/\I5 fun r=>r.1=rc (mkRat (iv n.1) (nv l.1))->r.1=rc a)/\i/\F7 fun n=>n.1=ic k->b/\N3 fun l=>l.1=nc c->(nv l.1≠e/\T3 n.1.2/\T3 l.1)/\I5 fun r=>r.1=rc (mkRat (iv n.1) (nv l.1))->r.1=rc a)/\f/\F7 fun o=>o.1=ic d->(E1 p.1.2/\E1 o.1.2)/\F7 fun n=>n.1=ic (iv p.1+iv o.1)->b/\N3 fun l=>l.1=nc c->(nv l.1≠e/\T3 n.1.2/\T3 l.1)/\I5 fun r=>r.1=rc (mkRat (iv n.1) (nv l.1))->r.1=rc a)/\j/\F7 fun p=>p.1=ic h->f/\F7 fun o=>o.1=ic d->(E1 p.1.2/\E1 o.1.2)/\F7 fun n=>n.1=ic (iv p.1+iv o.1)->b/\N3 fun l=>l.1=nc c->(nv l.1≠e/\T3 n.1.2/\T3 l.1)/\I5 fun r=>r.1=rc (mkRat (iv n.1) (nv l.1))->r.1=rc a))))))))
def Uh:A5 Ce.args->Prop:=fun(x:V8)=>let a:=((!x.2.1.1.1,x.2.1.1.2),x.2.1.2);(E7 x.1/\E7 a)/\I5 fun r=>r.1=rc (rv x.1+rv a)->r.1=rc (rv x.1-rv x.2.1)
def Uf:A5 X7.args->Prop:=fun(x:V8)=>let b:=(rv x.1*rv x.2.1);let a:=(0:Nat);True/\∀(r:lC),R2 r.1/\R2 r.2.1/\True/\True->(J0 x.1->r.1=Ov x.1/\r.2.1=Li x.1/\r.2.2.1=true)/\(¬J0 x.1->r.2.2.1=false)->True/\∀(d:lC),R2 d.1/\R2 d.2.1/\True/\True->(J0 x.2.1->d.1=Ov x.2.1/\d.2.1=Li x.2.1/\d.2.2.1=true)/\(¬J0 x.2.1->d.2.2.1=false)->(iB (K4 r.2.2.1 d.2.2.1 false) ((0:Int)<i64.wrap (r.2.1*d.2.1)/\I5 fun c=>c.1=rc (mkRat (i64.wrap (r.1*d.1)) (i64.wrap (r.2.1*d.2.1)).toNat)->c.1=rc b) (True/\∀(r:eG),lT r.1/\Hd r.2.1/\True->(nv x.1.2=a->r.1=zi/\r.2.1= [(1:Int)])/\(nv x.1.2≠a->r.1=x.1.1/\r.2.1=x.1.2)->True/\∀(c:eG),lT c.1/\Hd c.2.1/\True->(nv x.2.1.2=a->c.1=zi/\c.2.1= [(1:Int)])/\(nv x.2.1.2≠a->c.1=x.2.1.1/\c.2.1=x.2.1.2)->(E1 r.1.2/\E1 c.1.2)/\F7 fun f=>f.1=ic (iv r.1*iv c.1)->(E1 r.2.1/\E1 c.2.1)/\N3 fun e=>e.1=nc (nv r.2.1*nv c.2.1)->(nv e.1≠a/\T3 f.1.2/\T3 e.1)/\I5 fun r=>r.1=rc (mkRat (iv f.1) (nv e.1))->r.1=rc b))
def Ug:A5 S6.args->Prop:=fun(x:H5)=>E7 x.1/\I5 fun r=>r.1=rc (rv x.1)->Fx r.1.1.2/\F7 fun a=>a.1=ic (-iv r.1.1)->(a.1,r.1.2)=rc (-rv x.1)
def Il:A5 S5.args->Prop:=fun(x:V8)=>let c:=(0:Nat);let b:=(rv x.1);let a:=(rv x.2.1);True/\Ed fun r=>r.1=b.num.sign->True/\Ed fun f=>f.1=a.num.sign->(iB (decide (r.1≠f.1)) (True/\Ed fun e=>e.1=N9 r.1 f.1->e.1=QZ b a) (True/\∀(r:lC),R2 r.1/\R2 r.2.1/\True/\True->(J0 x.1->r.1=Ov x.1/\r.2.1=Li x.1/\r.2.2.1=true)/\(¬J0 x.1->r.2.2.1=false)->True/\∀(e:lC),R2 e.1/\R2 e.2.1/\True/\True->(J0 x.2.1->e.1=Ov x.2.1/\e.2.1=Li x.2.1/\e.2.2.1=true)/\(¬J0 x.2.1->e.2.2.1=false)->(iB (K4 r.2.2.1 e.2.2.1 false) (True/\Ed fun d=>d.1=N9 (i64.wrap (r.1*e.2.1)) (i64.wrap (e.1*r.2.1))->d.1=QZ b a) (True/\∀(r:eG),lT r.1/\Hd r.2.1/\True->(nv x.1.2=c->r.1=zi/\r.2.1= [(1:Int)])/\(nv x.1.2≠c->r.1=x.1.1/\r.2.1=x.1.2)->True/\∀(d:eG),lT d.1/\Hd d.2.1/\True->(nv x.2.1.2=c->d.1=zi/\d.2.1= [(1:Int)])/\(nv x.2.1.2≠c->d.1=x.2.1.1/\d.2.1=x.2.1.2)->(E1 r.1.2/\E1 d.2.1)/\F7 fun g=>g.1=ic (iv r.1*iv (false,d.2.1))->(E1 d.1.2/\E1 r.2.1)/\F7 fun h=>h.1=ic (iv d.1*iv (false,r.2.1))->True/\Ed fun r=>r.1=N9 (iv g.1) (iv h.1)->r.1=QZ b a))))
def Ue:A5 X6.args->Prop:=fun(x:H5)=>let a:=(rv x.1);True/\Ed fun r=>r.1=a.num.sign->(iB (decide (r.1=0)) ((rv x.1=(0:Rat)->false=false)/\(rv x.1≠(0:Rat)->dQ=rc a⁻¹/\false=true)) (E7 x.1/\I5 fun r=>r.1=rc a->(rv x.1=(0:Rat)->true=false)/\(rv x.1≠(0:Rat)->((r.1.1.1,r.1.2),r.1.1.2)=rc a⁻¹/\true=true)))
def Ud:A5 X5.args->Prop:=fun(x:V8)=>let b:=(rv x.1/rv x.2.1);let a:=((x.2.1.1.1,x.2.1.2),x.2.1.1.2);True/\Ed fun r=>r.1=(rv x.2.1).num.sign->(iB (decide (r.1=0)) ((rv x.2.1=(0:Rat)->false=false)/\(rv x.2.1≠(0:Rat)->dQ=rc b/\false=true)) ((E7 x.1/\E7 a)/\I5 fun r=>r.1=rc (rv x.1*rv a)->(rv x.2.1=(0:Rat)->true=false)/\(rv x.2.1≠(0:Rat)->r.1=rc b/\true=true)))
def BV {q:Rat} (h:q.num.sign=0):q=0:=zI.1 (xG.1 h)
def Jf {x:C7} (h:J0 x): -2147483647<=Ov x/\Ov x<=2147483647/\0<Li x/\Li x<=2147483647:=by
 obtain⟨a,b⟩:=h;have:=I8 x.1;unfold Ov Li;split
 . omega
 . omega
def Ot {a b M N:Int} (f: -M<=a) (d:a<=M) (c:0<=b) (g:b<=N): -(M*N)<=a*b/\a*b<=M*N:=by
 have h:0<=M:=by omega
 have i:M*b<=M*N:=tY g h;have g:a*b<=M*b:=sJ d c;have d: -M*b<=a*b:=sJ f c;rw[Int.neg_mul]at d;omega
def A4p {a b c d:Int} (h: -2147483647<=a/\a<=2147483647) (i: -2147483647<=b/\b<=2147483647) (g:0<c/\c<=2147483647) (f:0<d/\d<=2147483647):
 i64.wrap (c*d)=c*d/\0<c*d/\i64.wrap (i64.wrap (a*d)+i64.wrap (b*c))=a*d+b*c:=by
 have k:=Ot h.1 h.2 (wW f.1) f.2;have l:=Ot i.1 i.2 (wW g.1) g.2;have n:=Ot (a:=c) (b:=d) (M:=2147483647) (by omega) g.2 (wW f.1) f.2;have j:0<c*d:=Int.mul_pos g.1 f.1;rw[wv (a:=c*d) (by omega),wv (a:=a*d) (by omega),wv (a:=b*c) (by omega),wv (by omega)];exact⟨rfl,j,rfl⟩
def FG (x:A5 Cd.args) (o:awf Cd.args x) (a8:Cd.pre x):Uc x:=by
 obtain⟨p,q,_⟩:=x;have ax:A7 p.1.2:=A3 o.1.1.2.2;have ay:A7 p.2:=A3 o.1.2.2;have az:A7 q.1.2:=A3 o.2.1.1.2.2;have b0:A7 q.2:=A3 o.2.1.2.2;change C7 at p q;obtain⟨a9,aa⟩:E7 p/\E7 q:=a8;obtain⟨N,O⟩:=a9;obtain⟨P,Q⟩:=aa;simp only[Uc,iB,N3,Ed,F7,I5];refine⟨trivial, ?_⟩;rintro⟨b1,_⟩ _ R;simp only at R⊢;refine⟨fun h=>⟨⟨P,Q⟩, ?_⟩,fun h=>⟨trivial, ?_⟩⟩
 . rintro⟨r,_⟩ _ f;simp only at f⊢;rw[R]at h;rw[f,BV (qA h),sU]
 rintro⟨b2,_⟩ _ T;simp only at T⊢;refine⟨fun h=>⟨⟨N,O⟩, ?_⟩,fun h=>⟨trivial, ?_⟩⟩
 . rintro⟨r,_⟩ _ f;simp only at f⊢;rw[T]at h;rw[f,BV (qA h),rJ]
 rintro⟨F,E,aq,_⟩ _ ⟨B,D⟩;refine⟨trivial, ?_⟩;rintro⟨I,bd,ar,_⟩ _ ⟨G,H⟩;change Int at F E I bd;simp only at B D G H⊢;refine⟨fun h=> ?_,fun _=>⟨trivial, ?_⟩⟩
 . rw[H8,qC]at h;have X:J0 p:=qM fun hn=>by have:=D hn;rw[this]at h;exact absurd h.1 (by decide)
   have Y:J0 q:=qM fun hn=>by have:=H hn;rw[this]at h;exact absurd h.2 (by decide)
   obtain⟨a1,a3,_⟩:=B X;obtain⟨a2,a4,_⟩:=G Y;obtain⟨Z,a0,b3,b4⟩:=Jf X;obtain⟨b5,b6,b7,b8⟩:=Jf Y;obtain⟨am,an,ao⟩:=A4p (a:=F) (b:=I) (c:=E) (d:=bd) (by omega) (by omega) (by omega) (by omega);rw[am,ao];refine⟨an, ?_⟩;rintro⟨r,_⟩ _ f;simp only at f⊢;rw[f, <-Sf p, <-Sf q, <-a1, <-a3, <-a2, <-a4,KS (by omega) (by omega),uE (by omega),uE (by omega),g3o (by omega) (by omega)]
 . rintro⟨n,d,_⟩ ⟨ae,ab,_⟩ w;refine⟨trivial, ?_⟩;rintro⟨m,e,_⟩ ⟨ad,ac,_⟩ z;have W:A7 n.2:=A3 ae.2.2;have U:A7 d:=A3 ab.2;have V:A7 m.2:=A3 ad.2.2;have le:A7 e:=A3 ac.2;refine⟨trivial, ?_⟩;rintro⟨c,_⟩ _ M;change Iq at n m;change List Int at d e;simp only at w z M⊢;obtain⟨j,a5⟩:=Jy w;obtain⟨J,a6⟩:=Jy z;obtain⟨aj,au⟩:=Gq (k:=2199023255552) w N O (by decide);obtain⟨ai,av⟩:=Gq (k:=2199023255552) z P Q (by decide);rw[a5,a6];refine⟨fun h=> ?_,fun h=> ?_⟩
   . have h:=qA h;have a7:nv d=nv e:=TD.1 (M▸h);refine⟨⟨by show n.2.length<= _;omega,by show m.2.length<= _;omega⟩, ?_⟩;rintro⟨u,_⟩ _ g;simp only at g⊢;have af:=SE (x:=n) (y:=m) W V aj ai;refine⟨⟨j,by show u.2.length<= _;rw[g];omega,by show d.length<= _;omega⟩, ?_⟩;rintro⟨r,_⟩ _ f;simp only at f⊢;rw[f,g,J4, <-a7,nX j]
   . --the general case:the same four times
     have Z:=DK (x:=n) (y:=(false,e)) W le;have a0:=DK (x:=m) (y:=(false,d)) V U;have t:E1 n.2/\E1 e:=⟨by show n.2.length<= _;omega,by show e.length<= _;omega⟩;have l:E1 m.2/\E1 d:=⟨by show m.2.length<= _;omega,by show d.length<= _;omega⟩;have fin:∀u v:Iq,u=ic (iv n*iv (false,e))->v=ic (iv m*iv (false,d))->(E1 u.2/\E1 v.2)/\∀(r_6:(Bool×List Int)×Unit),lT r_6.1/\True->r_6.1=ic (iv u+iv v)->(E1 d/\E1 e)/\∀(r_7:List Int×Unit),Hd r_7.1/\True->r_7.1=nc (nv d*nv e)->(nv r_7.1≠(0:Nat)/\T3 r_6.1.2/\T3 r_7.1)/\∀(r:QQ×Unit),FP r.1/\True->r.1=rc (mkRat (iv r_6.1) (nv r_7.1))->r.1=rc (mkRat (iv n) (nv d)+mkRat (iv m) (nv e)):=by
      intro u v g i;have ag:u.2.length<=4398046511104:=by
       rw[g];refine qX Z ?_;show n.2.length+e.length<= _;omega
      have ah:v.2.length<=4398046511104:=by
       rw[i];refine qX a0 ?_;show m.2.length+d.length<= _;omega
      refine⟨⟨by show u.2.length<= _;omega,by show v.2.length<= _;omega⟩, ?_⟩;rintro⟨ak,_⟩ _ A;refine⟨⟨l.2,t.2⟩, ?_⟩;rintro⟨ap,_⟩ _ s;simp only at A s⊢;have af:=SE (x:=u) (y:=v) (by rw[g];exact iX _) (by rw[i];exact iX _) ag ah;have aw:=DW U le;refine⟨⟨by rw[s,F3];exact zH j J,by show ak.2.length<= _;rw[A];omega,by show ap.length<= _;rw[s];omega⟩, ?_⟩;rintro⟨r,_⟩ _ f;simp only at f⊢;rw[f,A,s,F3,J4,g,i,J4,J4,Hy,Hy,KS j J]
     exact⟨⟨t,fun u _ g=>⟨⟨l,fun v _ i=>⟨fin _ _ g i,fin _ _ g i⟩⟩,l,fun v _ i=>fin _ _ g i⟩⟩,t,fun u _ g=>⟨l,fun v _ i=>fin _ _ g i⟩⟩
def fL:An:= {loop:= [(2,⟨[0],[],[(3,false,vI)],[],[]⟩)]}
def bH:An:= {loop:= [(4,⟨[0,1],[],[(5,false,vI)],[],[]⟩)],plan:= [(6,[3,7],[],true,(pZ9 0 3 (.q 3 (pZ9 4 3 (.q 7 (.p 8 .done))))))]}
def GE:An:= {}
def lZ:An:= {join:= [(8,⟨[0,1,5,7],[0],[(6,false,vU)],[],[]⟩),(10,⟨[0,1,5,7],[0],[(6,false,vU)],[],[]⟩)],loop:= [(4,⟨[0,1,5],[],[(6,false,vU),(7,false,vI)],[],[(0, .row (.int .u32) 116)]⟩)]}
def mC:An:= {join:= [(12,⟨[0,1,6,8],[0],[(9,false,vU)],[],[]⟩),(17,⟨[0,1,6,8,9],[0],[(7,false,vU),(10,false,vU)],[],[]⟩)],loop:= [(7,⟨[0,1,6],[],[(7,false,vU),(8,false,vI)],[],[(0, .row (.int .u32) 116)]⟩)]}
def QN:An:= {loop:= [(7,⟨[0,1],[],[(5,false,vI)],[],[]⟩)],plan:= [(9,[3,7],[],true,(pZ9 0 3 (.q 3 (pZ9 4 3 (.q 7 (.p 8 .done)))))),(11,[3,7],[],true,(pZ9 0 3 (.q 3 (pZ9 4 3 (.q 7 (.p 8 .done))))))]}
def mB:An:= {loop:= [(7,⟨[0,1,5,6],[],[(7,false,vU),(8,false,vI)],[],[(0, .row (.int .u32) 116)]⟩),(3,⟨[0,1,5],[],[(6,false,vI)],[],[(0, .row (.int .u32) 116)]⟩)],plan:= [(9,[6,11,16],[],true,(pZ9 0 6 (.q 6 (pZ9 7 4 (.q 11 (pZ9 12 4 (.q 16 (pZ9 17 5 .done))))))))]}
def WT:An:= {loop:= [(6,⟨[0],[],[(4,false,vU),(5,false,vI)],[],[]⟩)]}
def NC:A5 Kf.args->Prop:=fun(x:AW)=>let f:=(1:Int);let c:=(x.1.length:Int);let a:=(0:Int);let g:=a.toNat;∃(I:D9->Prop),∃(b: _->Nat),I (c,())/\∀(p:D9),let e:=p.1.toNat;let d:=(i64.wrap (p.1-f),());let h:=(decide (gx a x.1 (i64.wrap (p.1-f))=a));(Ty.int i64).wf p.1/\True->I p->(decide (a<p.1)=true->a<=i64.wrap (p.1-f)/\i64.wrap (p.1-f)<c)/\(iB (K4 (decide (a<p.1)) h false) (I d/\b d<b p) ((a<=a/\a<=p.1/\p.1<=c)/\(((0:Nat)+(List.drop g (List.take e x.1)).length)*(4:Nat)<=(140737488355328:Nat)/\(0:Nat)+(List.drop g (List.take e x.1)).length<=9223372036854775807)/\List.drop g (List.take e x.1)=nc (nv x.1)))
def IU:A5 Hm.args->Prop:=fun(x:Et)=>let f:Prop:=(x.1=x.2.1);let e:=(0:Int);let b:=(x.2.1.length:Int);let a:=(x.1.length:Int);(iB (decide (a≠b)) (false=decide f) (∃(I:D9->Prop),∃(c: _->Nat),I (e,())/\∀(p:D9),let d:=(i64.wrap (p.1+1),());let g:Prop:=(gx e x.1 p.1≠gx e x.2.1 p.1);(Ty.int i64).wf p.1/\True->I p->(iB (decide (p.1<a)) ((e<=p.1/\p.1<a)/\(e<=p.1/\p.1<b)/\(iB (decide g) (false=decide f) (I d/\c d<c p))) (true=decide f))))
def Mq:A5 X4.args->Prop:=fun(x:D9)=>let a:=((32:Int).toNat);(0:(Ty.int u64).den)<=(32:Int)/\Fx [u32.wrap x.1,u32.wrap (Int.fdiv x.1 ((2:Int)^Min.min a u64.bits))]/\N3 fun r=>r.1=nc (nv [u32.wrap x.1,u32.wrap (Int.fdiv x.1 ((2:Int)^Min.min a u64.bits))])->r.1=nc x.1.toNat
def VE:A5 Pq.args->Prop:=fun(x:Et)=>let f:=(1:Int);let e:=(0:Int);let b:=(x.1.length:Int);let a:=(x.2.1.length:Int);(e<=i64.wrap (Max.max b a+f)/\i64.wrap (Max.max b a+f)<=i64.wrap (Max.max b a+f)/\(↑(4:Nat):Int)*i64.wrap (Max.max b a+f)<=(281474976710656:Int)/\i64.wrap (Max.max b a+f)<=(9223372036854775807:Int))/\∃(I:Qo->Prop),∃(i: _->Nat),I (e,e,List.replicate (i64.wrap (Max.max b a+f)).toNat e,())/\∀(p:Qo),let d:=(p.2.2.1.length:Int);(Ty.int u64).wf p.1/\(Ty.int i64).wf p.2.1/\Hd p.2.2.1/\True->I p->(iB (decide (p.2.1<d)) (∃(J:D9->Prop),((iB (decide (p.2.1<b)) ((e<=p.2.1/\p.2.1<b)/\J (u64.wrap (p.1+u64.wrap (gx e x.1 p.2.1)),())) (J (p.1,()))))/\∀(g:D9),(Ty.int u64).wf g.1/\True->J g->∃(J:D9->Prop),((iB (decide (p.2.1<a)) ((e<=p.2.1/\p.2.1<a)/\J (u64.wrap (g.1+u64.wrap (gx e x.2.1 p.2.1)),())) (J g)))/\∀(h:D9),let c:=(Int.fdiv h.1 ((2:Int)^Min.min ((32:Int).toNat) u64.bits),i64.wrap (p.2.1+f),List.set p.2.2.1 p.2.1.toNat (u32.wrap h.1),());(Ty.int u64).wf h.1/\True->J h->(e<=p.2.1/\p.2.1<d)/\(0:(Ty.int u64).den)<=(32:Int)/\I c/\i c<i p) (Fx p.2.2.1/\N3 fun r=>r.1=nc (nv p.2.2.1)->r.1=nc (nv x.1+nv x.2.1)))
def VI:A5 Pt.args->Prop:=fun(x:Et)=>let f:=(nv x.1-nv x.2.1);let c:=(0:Int);(E1 x.1/\E1 x.2.1)/\Ed fun r=>r.1=Bm (nv x.1) (nv x.2.1)->(iB (decide (r.1<c)) ((nv x.1<nv x.2.1->Lk Int= []/\false=false)/\(nv x.2.1<=nv x.1->Lk Int=nc f/\false=true)) (Fx x.1/\N3 fun r=>let a:=(r.1.length:Int);r.1=nc (nv x.1)->Fx x.2.1/\N3 fun j=>let e:=(j.1.length:Int);j.1=nc (nv x.2.1)->(c<=a/\a<=a/\(↑(4:Nat):Int)*a<=(281474976710656:Int)/\a<=(9223372036854775807:Int))/\∃(I:Qo->Prop),∃(g: _->Nat),I (c,c,List.replicate a.toNat c,())/\∀(p:Qo),let d:=(gx c r.1 p.2.1);(Ty.int u64).wf p.1/\(Ty.int i64).wf p.2.1/\Hd p.2.2.1/\True->I p->(iB (decide (p.2.1<a)) (∃(J:D9->Prop),((iB (decide (p.2.1<e)) ((c<=p.2.1/\p.2.1<e)/\J (u64.wrap (p.1+u64.wrap (gx c j.1 p.2.1)),())) (J (p.1,()))))/\∀(i:D9),let k:Prop:=(u64.wrap d<i.1);(Ty.int u64).wf i.1/\True->J i->(c<=p.2.1/\p.2.1<a)/\∃(J:Db->Prop),((iB (decide k) (J ((1:Int),u64.wrap (u64.wrap d+(4294967296:Int)),())) (J (c,u64.wrap d,()))))/\∀(h:Db),let b:=(h.1,i64.wrap (p.2.1+1),List.set p.2.2.1 p.2.1.toNat (u32.wrap (u64.wrap (h.2.1-i.1))),());(Ty.int u64).wf h.1/\(Ty.int u64).wf h.2.1/\True->J h->(c<=p.2.1/\p.2.1<(p.2.2.1.length:Int))/\I b/\g b<g p) (Fx p.2.2.1/\N3 fun r=>r.1=nc (nv p.2.2.1)->(nv x.1<nv x.2.1->r.1= []/\true=false)/\(nv x.2.1<=nv x.1->r.1=nc f/\true=true)))))
def Ye:A5 Dp.args->Prop:=fun(x:Et)=>let i:=(1:Int);let e:=(nv x.1);let d:=(nv x.2.1);let c:=(0:Int);Fx x.1/\N3 fun r=>let a:=(r.1.length:Int);r.1=nc e->Fx x.2.1/\N3 fun j=>let b:=(j.1.length:Int);j.1=nc d->(iB (decide (a≠b)) ((iB (decide (a<b)) ((-1:Int)=Bm e d) (i=Bm e d))) (∃(I:D9->Prop),∃(g: _->Nat),I (i64.wrap (a-i),())/\∀(p:D9),let k:Prop:=(gx c j.1 p.1<gx c r.1 p.1);let h:Prop:=(gx c r.1 p.1<gx c j.1 p.1);let f:=(i64.wrap (p.1-i),());(Ty.int i64).wf p.1/\True->I p->(iB (decide (c<=p.1)) ((c<=p.1/\p.1<a)/\(c<=p.1/\p.1<b)/\(iB (decide h) ((-1:Int)=Bm e d) ((c<=p.1/\p.1<a)/\(c<=p.1/\p.1<b)/\(iB (decide k) (i=Bm e d) (I f/\g f<g p))))) (c=Bm e d))))
def VH:A5 Ps.args->Prop:=fun(x:Et)=>let g:=(0:Int);let c:=(x.1.length:Int);let b:=(x.2.1.length:Int);(g<=i64.wrap (c+b)/\i64.wrap (c+b)<=i64.wrap (c+b)/\(↑(4:Nat):Int)*i64.wrap (c+b)<=(281474976710656:Int)/\i64.wrap (c+b)<=(9223372036854775807:Int))/\∃(I:UY->Prop),∃(k: _->Nat),I (g,List.replicate (i64.wrap (c+b)).toNat g,())/\∀(p:UY),(Ty.int i64).wf p.1/\Hd p.2.1/\True->I p->(iB (decide (p.1<c)) (∃(I_1:Qo->Prop),∃(l: _->Nat),I_1 (g,g,p.2.1,())/\∀(j:Qo),let i:=(i64.wrap (p.1+j.2.1));let h:=(j.2.2.1.length:Int);let f:=(i64.wrap (p.1+1),List.set j.2.2.1 (i64.wrap (p.1+b)).toNat (u32.wrap j.1),());let e:Prop:=(g<=i64.wrap (p.1+j.2.1)/\i64.wrap (p.1+j.2.1)<h);let a:=(u64.wrap (j.1+u64.wrap (u64.wrap (List.getD j.2.2.1 i.toNat g)+u64.wrap (u64.wrap (gx g x.1 p.1)*u64.wrap (gx g x.2.1 j.2.1)))));let d:=(a.fdiv ((2:Int)^Min.min ((32:Int).toNat) u64.bits),i64.wrap (j.2.1+1),List.set j.2.2.1 i.toNat (u32.wrap a),());(Ty.int u64).wf j.1/\(Ty.int i64).wf j.2.1/\Hd j.2.2.1/\True->I_1 j->(iB (decide (j.2.1<b)) (e/\(g<=p.1/\p.1<c)/\(g<=j.2.1/\j.2.1<b)/\e/\(0:(Ty.int u64).den)<=(32:Int)/\I_1 d/\l d<l j) ((g<=i64.wrap (p.1+b)/\i64.wrap (p.1+b)<h)/\I f/\k f<k p))) (Fx p.2.1/\N3 fun r=>r.1=nc (nv p.2.1)->r.1=nc (nv x.1*nv x.2.1)))
def CJ:A5 Fp.args->Prop:=fun(x:AW)=>let d:=(0:Int);let c:=(18446744073709551616:Nat);Fx x.1/\N3 fun r=>let b:=(r.1.length:Int);r.1=nc (nv x.1)->(iB (decide ((2:Int)<b)) ((nv x.1<c->d=(↑(nv x.1):Int)/\false=true)/\(c<=nv x.1->false=false)) (∃(I:Db->Prop),∃(f: _->Nat),I (d,i64.wrap (b-(1:Int)),())/\∀(p:Db),let a:=(u64.wrap (↑(BitVec.ofInt u64.bits (u64.wrap (p.1*2^Min.min ((32:Int).toNat) u64.bits)) |||BitVec.ofInt u64.bits (u64.wrap (gx d r.1 p.2.1))).toNat:Int),i64.wrap (p.2.1-1),());(Ty.int u64).wf p.1/\(Ty.int i64).wf p.2.1/\True->I p->(iB (decide (d<=p.2.1)) ((0:(Ty.int u64).den)<=(32:Int)/\(d<=p.2.1/\p.2.1<b)/\I a/\f a<f p) ((nv x.1<c->p.1=(↑(nv x.1):Int)/\true=true)/\(c<=nv x.1->true=false)))))
end Go.Proofs.YtljgpjhcieidbaaGreat
