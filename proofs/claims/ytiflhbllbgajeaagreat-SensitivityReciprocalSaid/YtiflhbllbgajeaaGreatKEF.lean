/- Part. -/
import Derived.Test.YtiflhbllbgajeaaGreatRows
import Derived.Test.YtiflhbllbgajeaaGreatKEE
set_option linter.all false
namespace Go.Proofs.YtiflhbllbgajeaaGreat
open Go.Proofs.Tryz
open Go.Vc Go.Gw
open Go.IntKind (i64 u64 u32)
abbrev K9 (a:Int):Prop:=i64.min<=a/\a<=i64.max
abbrev HO (a:Int):Prop:=u64.min<=a/\a<=u64.max
abbrev Ix (l:List Int):Prop:=List.length l<=(9223372036854775807:Nat)/\∀(x:Int),x∈l->u32.min<=x/\x<=u32.max
abbrev RB (l:List Int):Prop:=List.length l<=(9223372036854775807:Nat)/\∀(x:Int),x∈l->i64.min<=x/\x<=i64.max
abbrev lA (z:Bool×List Int):Prop:=True/\Ix z.2
abbrev Xz (q:(Bool×List Int)×List Int):Prop:=lA q.1/\Ix q.2
abbrev WfE (e:Int×(Bool×List Int)×List Int):Prop:=K9 e.1/\lA e.2.1/\Ix e.2.2
abbrev OW (l:List (Int×(Bool×List Int)×List Int)):Prop:=List.length l<=(9223372036854775807:Nat)/\∀(x:Int×(Bool×List Int)×List Int),x∈l->WfE x
abbrev QQ:=(Bool×List Int)×List Int
abbrev EE:=Int×(Bool×List Int)×List Int
abbrev dQ:QQ:=((false,[]),[])
abbrev E9:EE:=((0:Int),(false,[]),[])
abbrev MM:=Int×Int×List (List EE)
abbrev WfL (l:List QQ):Prop:=List.length l<=9223372036854775807/\∀(x:QQ),x∈l->Xz x
abbrev Rb (l:List (List EE)):Prop:=List.length l<=9223372036854775807/\∀(x:List EE),x∈l->x.length<=9223372036854775807/\∀(y:EE),y∈x->WfE y
abbrev WfM (m:MM):Prop:=K9 m.1/\K9 m.2.1/\Rb m.2.2
abbrev tQ:Ty:=(.pair (.pair .bool (.sl (.int .u32))) (.sl (.int .u32)))
abbrev tE:Ty:=(.pair (.int .i64) tQ)
abbrev tM:Ty:=(.pair (.int .i64) (.pair (.int .i64) (.sl (.sl tE))))
def tys:List (Nat×TI):= [(2,{ty:=(.int .i64),agg:=false}),
 (3,{ty:=(.int .i64),agg:=false}),
 (4,{ty:= .bool,agg:=false}),
 (5,{ty:=(.int .u8),agg:=false}),
 (9,{ty:= .str,agg:=false}),
 (22,{ty:=(.sl (.int .i64)),agg:=false,elem:=3,bytes:=8}),
 (23,{ty:=(.sl (.pair (.int .i64) (.pair (.int .i64) (.pair tQ tQ)))),agg:=false,elem:=45,bytes:=128}),
 (25,{ty:=(.pair (.int .i64) (.sl (.pair (.int .i64) (.pair (.int .i64) (.pair tQ tQ))))),agg:=true,fields:= [(0,1,false),(1,1,false)]}),
 (27,{ty:=(.sl (.sl tE)),agg:=false,elem:=79,bytes:=24}),
 (29,{ty:=tM,agg:=true,fields:= [(0,1,false),(1,1,false),(2,1,false)]}),
 (31,{ty:=(.pair (.sl (.int .i64)) (.pair tM tM)),agg:=true,fields:= [(0,1,false),(1,3,true),(4,3,true)]}),
 (37,{ty:=(.sl (.pair (.int .i64) (.int .i64))),agg:=false,elem:=74,bytes:=16}),
 (39,{ty:=(.sl (.int .u32)),agg:=false,elem:=103,bytes:=4}),
 (41,{ty:=(.pair .bool (.sl (.int .u32))),agg:=true,fields:= [(0,1,false),(1,1,false)]}),
 (43,{ty:=tQ,agg:=true,fields:= [(0,2,true),(2,1,false)]}),
 (45,{ty:=(.pair (.int .i64) (.pair (.int .i64) (.pair tQ tQ))),agg:=true,fields:= [(0,1,false),(1,1,false),(2,3,true),(5,3,true)]}),
 (46,{ty:=(.sl tQ),agg:=false,elem:=43,bytes:=56}),
 (53,{ty:=(.sl (.sl tQ)),agg:=false,elem:=46,bytes:=24}),
 (74,{ty:=(.pair (.int .i64) (.int .i64)),agg:=true,elem:=3,arr:=2}),
 (79,{ty:=(.sl tE),agg:=false,elem:=106,bytes:=64}),
 (98,{ty:=(.pair (.sl (.int .i64)) (.int .i64)),agg:=true,fields:= [(0,1,false),(1,1,false)]}),
 (103,{ty:=(.int .u32),agg:=false}),
 (106,{ty:=tE,agg:=true,fields:= [(0,1,false),(1,3,true)]}),
 (109,{ty:=(.sl (.int .i64)),agg:=false,elem:=3,bytes:=8}),
 (114,{ty:=(.pair (.sl (.int .i64)) (.pair (.sl (.int .i64)) (.pair tM tM))),agg:=true,fields:= [(0,1,false),(1,1,false),(2,3,true),(5,3,true)]}),
 (124,{ty:=(.int .u64),agg:=false}),
 (144,{ty:=(.mp false (.int .i64) false (.sl (.int .i64))),agg:=false,elem:=22,key:=3}),
 (148,{ty:=(.ptr (.pair (.sl (.sl tE)) (.pair (.sl (.sl tE)) (.pair (.sl (.mp false (.int .i64) false .bool)) (.sl (.int .i64)))))),agg:=false}),
 (153,{ty:=(.sl (.mp false (.int .i64) false .bool)),agg:=false,elem:=174,bytes:=8}),
 (155,{ty:=(.pair (.sl (.sl tE)) (.pair (.sl (.sl tE)) (.pair (.sl (.mp false (.int .i64) false .bool)) (.sl (.int .i64))))),agg:=true,fields:= [(0,1,false),(1,1,false),(2,1,false),(3,1,false)]}),
 (165,{ty:=(.int .u64),agg:=false}),
 (174,{ty:=(.mp false (.int .i64) false .bool),agg:=false,elem:=4,key:=3}),
 (183,{ty:=(.pair (.int .u64) (.pair (.int .u64) (.pair (.int .u64) (.pair (.int .u64) .bool)))),agg:=true,fields:= [(0,1,false),(1,1,false),(2,1,false),(3,1,false),(4,1,false)]}),
 (201,{ty:=(.sl .bool),agg:=false,elem:=4,bytes:=1})]
def A5:H1 prog tys=true:=by kernel_rfl
def B4j:List (Nat×TI):= [(2,{ty:=(.int .i64),agg:=false}),
 (3,{ty:=(.int .i64),agg:=false}),
 (4,{ty:= .bool,agg:=false}),
 (5,{ty:=(.int .u8),agg:=false}),
 (9,{ty:= .str,agg:=false}),
 (22,{ty:=(.sl (.int .i64)),agg:=false,elem:=3,bytes:=8}),
 (23,{ty:=(.sl (.pair (.int .i64) (.pair (.int .i64) (.pair tQ tQ)))),agg:=false,elem:=45,bytes:=128}),
 (25,{ty:=(.pair (.int .i64) (.sl (.pair (.int .i64) (.pair (.int .i64) (.pair tQ tQ))))),agg:=true,fields:= [(0,1,false),(1,1,false)]}),
 (27,{ty:=(.sl (.sl tE)),agg:=false,elem:=79,bytes:=24,rows:=true}),
 (29,{ty:=tM,agg:=true,fields:= [(0,1,false),(1,1,false),(2,1,false)]}),
 (31,{ty:=(.pair (.sl (.int .i64)) (.pair tM tM)),agg:=true,fields:= [(0,1,false),(1,3,true),(4,3,true)]}),
 (37,{ty:=(.sl (.pair (.int .i64) (.int .i64))),agg:=false,elem:=74,bytes:=16}),
 (39,{ty:=(.sl (.int .u32)),agg:=false,elem:=103,bytes:=4}),
 (41,{ty:=(.pair .bool (.sl (.int .u32))),agg:=true,fields:= [(0,1,false),(1,1,false)]}),
 (43,{ty:=tQ,agg:=true,fields:= [(0,2,true),(2,1,false)]}),
 (45,{ty:=(.pair (.int .i64) (.pair (.int .i64) (.pair tQ tQ))),agg:=true,fields:= [(0,1,false),(1,1,false),(2,3,true),(5,3,true)]}),
 (46,{ty:=(.sl tQ),agg:=false,elem:=43,bytes:=56}),
 (53,{ty:=(.sl (.sl tQ)),agg:=false,elem:=46,bytes:=24,rows:=true}),
 (74,{ty:=(.pair (.int .i64) (.int .i64)),agg:=true,elem:=3,arr:=2}),
 (79,{ty:=(.sl tE),agg:=false,elem:=106,bytes:=64}),
 (98,{ty:=(.pair (.sl (.int .i64)) (.int .i64)),agg:=true,fields:= [(0,1,false),(1,1,false)]}),
 (103,{ty:=(.int .u32),agg:=false}),
 (106,{ty:=tE,agg:=true,fields:= [(0,1,false),(1,3,true)]}),
 (109,{ty:=(.sl (.int .i64)),agg:=false,elem:=3,bytes:=8}),
 (114,{ty:=(.pair (.sl (.int .i64)) (.pair (.sl (.int .i64)) (.pair tM tM))),agg:=true,fields:= [(0,1,false),(1,1,false),(2,3,true),(5,3,true)]}),
 (124,{ty:=(.int .u64),agg:=false}),
 (144,{ty:=(.mp false (.int .i64) false (.sl (.int .i64))),agg:=false,elem:=22,key:=3,rows:=true}),
 (148,{ty:=(.ptr (.pair (.sl (.sl tE)) (.pair (.sl (.sl tE)) (.pair (.sl (.mp false (.int .i64) false .bool)) (.sl (.int .i64)))))),agg:=false}),
 (153,{ty:=(.sl (.mp false (.int .i64) false .bool)),agg:=false,elem:=174,bytes:=8}),
 (155,{ty:=(.pair (.sl (.sl tE)) (.pair (.sl (.sl tE)) (.pair (.sl (.mp false (.int .i64) false .bool)) (.sl (.int .i64))))),agg:=true,fields:= [(0,1,false),(1,1,false),(2,1,false),(3,1,false)]}),
 (165,{ty:=(.int .u64),agg:=false}),
 (174,{ty:=(.mp false (.int .i64) false .bool),agg:=false,elem:=4,key:=3}),
 (183,{ty:=(.pair (.int .u64) (.pair (.int .u64) (.pair (.int .u64) (.pair (.int .u64) .bool)))),agg:=true,fields:= [(0,1,false),(1,1,false),(2,1,false),(3,1,false),(4,1,false)]}),
 (201,{ty:=(.sl .bool),agg:=false,elem:=4,bytes:=1})]
def QW:H1 prog B4j=true:=by kernel_rfl
def PZ:List (Nat×TI):= [(2,{ty:=(.int .i64),agg:=false}),
 (3,{ty:=(.int .i64),agg:=false}),
 (4,{ty:= .bool,agg:=false}),
 (5,{ty:=(.int .u8),agg:=false}),
 (9,{ty:= .str,agg:=false}),
 (22,{ty:=(.sl (.int .i64)),agg:=false,elem:=3,bytes:=8}),
 (23,{ty:=(.sl (.pair (.int .i64) (.pair (.int .i64) (.pair tQ tQ)))),agg:=false,elem:=45,bytes:=128}),
 (25,{ty:=(.pair (.int .i64) (.sl (.pair (.int .i64) (.pair (.int .i64) (.pair tQ tQ))))),agg:=true,fields:= [(0,1,false),(1,1,false)]}),
 (27,{ty:=(.sl (.sl tE)),agg:=false,elem:=79,bytes:=24,nest:= [14]}),
 (29,{ty:=tM,agg:=true,fields:= [(0,1,false),(1,1,false),(2,1,false)]}),
 (31,{ty:=(.pair (.sl (.int .i64)) (.pair tM tM)),agg:=true,fields:= [(0,1,false),(1,3,true),(4,3,true)]}),
 (37,{ty:=(.sl (.pair (.int .i64) (.int .i64))),agg:=false,elem:=74,bytes:=16}),
 (39,{ty:=(.sl (.int .u32)),agg:=false,elem:=103,bytes:=4}),
 (41,{ty:=(.pair .bool (.sl (.int .u32))),agg:=true,fields:= [(0,1,false),(1,1,false)]}),
 (43,{ty:=tQ,agg:=true,fields:= [(0,2,true),(2,1,false)]}),
 (45,{ty:=(.pair (.int .i64) (.pair (.int .i64) (.pair tQ tQ))),agg:=true,fields:= [(0,1,false),(1,1,false),(2,3,true),(5,3,true)]}),
 (46,{ty:=(.sl tQ),agg:=false,elem:=43,bytes:=56}),
 (53,{ty:=(.sl (.sl tQ)),agg:=false,elem:=46,bytes:=24}),
 (74,{ty:=(.pair (.int .i64) (.int .i64)),agg:=true,elem:=3,arr:=2}),
 (79,{ty:=(.sl tE),agg:=false,elem:=106,bytes:=64}),
 (98,{ty:=(.pair (.sl (.int .i64)) (.int .i64)),agg:=true,fields:= [(0,1,false),(1,1,false)]}),
 (103,{ty:=(.int .u32),agg:=false}),
 (106,{ty:=tE,agg:=true,fields:= [(0,1,false),(1,3,true)]}),
 (109,{ty:=(.sl (.int .i64)),agg:=false,elem:=3,bytes:=8}),
 (114,{ty:=(.pair (.sl (.int .i64)) (.pair (.sl (.int .i64)) (.pair tM tM))),agg:=true,fields:= [(0,1,false),(1,1,false),(2,3,true),(5,3,true)]}),
 (124,{ty:=(.int .u64),agg:=false}),
 (144,{ty:=(.mp false (.int .i64) false (.sl (.int .i64))),agg:=false,elem:=22,key:=3}),
 (148,{ty:=(.ptr (.pair (.sl (.sl tE)) (.pair (.sl (.sl tE)) (.pair (.sl (.mp false (.int .i64) false .bool)) (.sl (.int .i64)))))),agg:=false}),
 (153,{ty:=(.sl (.mp false (.int .i64) false .bool)),agg:=false,elem:=174,bytes:=8,nest:= [17]}),
 (155,{ty:=(.pair (.sl (.sl tE)) (.pair (.sl (.sl tE)) (.pair (.sl (.mp false (.int .i64) false .bool)) (.sl (.int .i64))))),agg:=true,fields:= [(0,1,false),(1,1,false),(2,1,false),(3,1,false)]}),
 (165,{ty:=(.int .u64),agg:=false}),
 (174,{ty:=(.mp false (.int .i64) false .bool),agg:=false,elem:=4,key:=3,nest:= [44,66]}),
 (183,{ty:=(.pair (.int .u64) (.pair (.int .u64) (.pair (.int .u64) (.pair (.int .u64) .bool)))),agg:=true,fields:= [(0,1,false),(1,1,false),(2,1,false),(3,1,false),(4,1,false)]}),
 (201,{ty:=(.sl .bool),agg:=false,elem:=4,bytes:=1})]
def CV:H1 prog PZ=true:=by kernel_rfl
abbrev C5:=Int×Unit
abbrev G5:=QQ×Unit
def Mw:A7:= {args:= [.val true tQ],res:= [.val false (.int .i64)],shared:=false,pre:=fun(x:G5)=>E3 x.1,post:=fun(x:G5) (r:C5)=>r.1=(rv x.1).num.sign}
abbrev Am (a:List AM) (r:List RT) (p:A2 a->Prop) (q:A2 a->Bf r->Prop):A7:= {args:=a,res:=r,shared:=true,pre:=p,post:=q}
abbrev mkM (a:List AM) (r:List RT) (p:A2 a->Prop) (q:A2 a->Bf r->Prop) (m:A2 a->Bf r->Nt a->Prop):A7:= {args:=a,res:=r,shared:=true,pre:=p,post:=q,mpost:=m}
def Bt:A7:=Am [.val false (.int .i64)] [.val true tQ] (fun(x:C5)=>True) (fun(x:C5) (r:G5)=>r.1=ri x.1)
abbrev X9:=Bool×Unit
abbrev Ed:=QQ×QQ×Unit
def Jh:A7:= {args:= [.val true tQ, .val true tQ],res:= [.val false .bool],shared:=false,pre:=fun(x:Ed)=>True,post:=fun(x:Ed) (r:X9)=>r.1=decide (x.1=x.2.1)}
def Sq:A7:=Am [.val true tQ, .val true tQ] [.val true tQ] (fun(x:Ed)=>E3 x.1/\E3 x.2.1) (fun(x:Ed) (r:G5)=>r.1=rc (rv x.1*rv x.2.1))
def Ll:A7:=Am [.val true tQ] [.val true tQ] (fun(x:G5)=>E3 x.1) (fun(x:G5) (r:G5)=>r.1=rc (-(rv x.1)))
def Sp:A7:=Am [.val true tQ, .val true tQ] [.val true tQ] (fun(x:Ed)=>E3 x.1/\E3 x.2.1) (fun(x:Ed) (r:G5)=>r.1=rc (rv x.1+rv x.2.1))
def Ik:A7:=Am [] [.val true tQ] (fun(x:Unit)=>True) (fun(x:Unit) (r:G5)=>r.1=rc 0)
abbrev Ce:=Int×Int×Unit
def Sr:A7:=Am [.val false (.int .i64), .val false (.int .i64)] [.val true tQ] (fun(x:Ce)=>True) (fun(x:Ce) (r:G5)=>r.1=rc (Rat.divInt x.1 x.2.1))
def Ad:A7:=Am [.val true tQ, .val true tQ] [.val true tQ] (fun(x:Ed)=>E3 x.1/\E3 x.2.1) (fun(x:Ed) (r:G5)=>r.1=rc (rv x.1-rv x.2.1))
abbrev HM:=(Bool×(List Int))×Unit
def Mt:A7:= {args:= [.val true (.pair .bool (.sl (.int .u32)))],res:= [.val false (.int .i64)],shared:=false,pre:=fun(x:HM)=>Hg x.1.2,post:=fun(x:HM) (r:C5)=>r.1=(iv x.1).sign}
def Mv:A7:=Am [.val true tQ] [.val true tQ] (fun(x:G5)=>E3 x.1) (fun(x:G5) (r:G5)=>r.1=rc (rv x.1))
abbrev bH:=(Bool×(List Int))×(Bool×(List Int))×Unit
def Mu:A7:=Am [.val true (.pair .bool (.sl (.int .u32))), .val true (.pair .bool (.sl (.int .u32)))] [.val true tQ] (fun(x:bH)=>V6 x.1.2/\V6 x.2.1.2) (fun(x:bH) (r:G5)=>r.1=rc (Ea x.1 x.2.1))
def Es:A7:=Am [.val false (.int .i64)] [.val true (.pair .bool (.sl (.int .u32)))] (fun(x:C5)=>True) (fun(x:C5) (r:HM)=>r.1=ic x.1)
def Jg:A7:= {args:= [.val true (.pair .bool (.sl (.int .u32))), .val true (.pair .bool (.sl (.int .u32)))],res:= [.val false .bool],shared:=false,pre:=fun(x:bH)=>True,post:=fun(x:bH) (r:X9)=>r.1=decide (x.1=x.2.1)}
abbrev Dx:=(List Int)×(List Int)×Unit
def Jf:A7:= {args:= [.val false (.sl (.int .u32)), .val false (.sl (.int .u32))],res:= [.val false .bool],shared:=false,pre:=fun(x:Dx)=>True,post:=fun(x:Dx) (r:X9)=>r.1=decide (x.1=x.2.1)}
def Sm:A7:=Am [.val true (.pair .bool (.sl (.int .u32))), .val true (.pair .bool (.sl (.int .u32)))] [.val true (.pair .bool (.sl (.int .u32)))] (fun(x:bH)=>D6 x.1.2/\D6 x.2.1.2) (fun(x:bH) (r:HM)=>r.1=ic (iv x.1*iv x.2.1))
def Ss:A7:=Am [.val true tQ] [.val true (.pair .bool (.sl (.int .u32)))] (fun(x:G5)=>E3 x.1) (fun(x:G5) (r:HM)=>r.1=ic ((rv x.1).den:Int))
def Sn:A7:=Am [.val true (.pair .bool (.sl (.int .u32)))] [.val true (.pair .bool (.sl (.int .u32)))] (fun(x:HM)=>Hg x.1.2) (fun(x:HM) (r:HM)=>r.1=ic (-iv x.1))
def Sk:A7:=Am [.val true (.pair .bool (.sl (.int .u32))), .val true (.pair .bool (.sl (.int .u32)))] [.val true (.pair .bool (.sl (.int .u32)))] (fun(x:bH)=>D6 x.1.2/\D6 x.2.1.2) (fun(x:bH) (r:HM)=>r.1=ic (iv x.1+iv x.2.1))
def Cz:A7:=Am [.val true tQ, .val true tQ] [.val true tQ] (fun(x:Ed)=>E3 x.1/\E3 x.2.1) (fun(x:Ed) (r:G5)=>r.1=rc (rv x.1+rv x.2.1))
def U3:A7:=Am [.val true tQ, .val true tQ] [.val true tQ] (fun(x:Ed)=>E3 x.1/\E3 x.2.1) (fun(x:Ed) (r:G5)=>r.1=rc (rv x.1*rv x.2.1))
def Bi:A7:= {args:= [.val true tQ],res:= [.val false .bool],shared:=false,pre:=fun(x:G5)=>E3 x.1,post:=fun(x:G5) (r:X9)=>r.1=decide (x.1=rc (rv x.1))}
def Ac:A7:=Am [.val true tQ] [.val true tQ] (fun(x:G5)=>E3 x.1) (fun(x:G5) (r:G5)=>r.1=rc (-(rv x.1)))
def K7:A7:=Am [.val false (.int .i64)] [.val true tQ] (fun(x:C5)=>True) (fun(x:C5) (r:G5)=>r.1=ri x.1)
def V5:A7:= {args:= [.val true tQ],res:= [.val false (.int .i64)],shared:=false,pre:=fun(x:G5)=>True,post:=fun(x:G5) (r:C5)=>r.1=(rv x.1).num.sign}
def Ms:A7:=Am [.val true (.pair .bool (.sl (.int .u32)))] [.val true (.pair .bool (.sl (.int .u32)))] (fun(x:HM)=>Hg x.1.2) (fun(x:HM) (r:HM)=>r.1=ic (iv x.1))
def Sl:A7:=Am [.val true (.pair .bool (.sl (.int .u32))), .val true (.pair .bool (.sl (.int .u32)))] [.val true (.pair .bool (.sl (.int .u32)))] (fun(x:bH)=>V6 x.1.2/\V6 x.2.1.2) (fun(x:bH) (r:HM)=>r.1=ic (Nat.gcd (nv x.1.2) (nv x.2.1.2):Int))
def Gt:A7:=Am [.val true (.pair .bool (.sl (.int .u32))), .val true (.pair .bool (.sl (.int .u32)))] [.val true (.pair .bool (.sl (.int .u32))), .val true (.pair .bool (.sl (.int .u32))), .val false .bool] (fun(x:bH)=>V6 x.1.2/\V6 x.2.1.2) (fun(x:bH) (r:(Bool×(List Int))×(Bool×(List Int))×Bool×Unit)=>iv x.2.1≠0->r.1=ic (iv x.1/iv x.2.1)/\r.2.1=ic (iv x.1%iv x.2.1)/\r.2.2.1=true)
abbrev B3z:=Bool×(List Int)×Unit
def Mr:A7:=Am [.val false .bool, .val false (.sl (.int .u32))] [.val true (.pair .bool (.sl (.int .u32)))] (fun(x:B3z)=>Hg x.2.1) (fun(x:B3z) (r:HM)=>r.1=ic (iv (x.1,x.2.1)))
abbrev Ay:=(List Int)×Unit
def Aa:A7:=Am [.val false (.int .u64)] [.val false (.sl (.int .u32))] (fun(x:C5)=>True) (fun(x:C5) (r:Ay)=>r.1=nc x.1.toNat)
def Sg:A7:=Am [.val false (.sl (.int .u32)), .val false (.sl (.int .u32))] [.val false (.sl (.int .u32))] (fun(x:Dx)=>D6 x.1/\D6 x.2.1) (fun(x:Dx) (r:Ay)=>r.1=nc (nv x.1*nv x.2.1))
def Se:A7:=Am [.val false (.sl (.int .u32)), .val false (.sl (.int .u32))] [.val false (.sl (.int .u32))] (fun(x:Dx)=>D6 x.1/\D6 x.2.1) (fun(x:Dx) (r:Ay)=>r.1=nc (nv x.1+nv x.2.1))
abbrev B8b:=(List Int)×Bool×Unit
def Sh:A7:=Am [.val false (.sl (.int .u32)), .val false (.sl (.int .u32))] [.val false (.sl (.int .u32)), .val false .bool] (fun(x:Dx)=>D6 x.1/\D6 x.2.1) (fun(x:Dx) (r:B8b)=>(nv x.1<nv x.2.1->r.1= []/\r.2.1=false)/\(nv x.2.1<=nv x.1->r.1=nc (nv x.1-nv x.2.1)/\r.2.1=true))
def V4:A7:=Am [.val true tQ] [.val true tQ] (fun(x:G5)=>E3 x.1) (fun(x:G5) (r:G5)=>r.1=rc (rv x.1))
abbrev kN:=Int×Int×Bool×Unit
def Af:A7:= {args:= [.val true tQ],res:= [.val false (.int .i64), .val false (.int .i64), .val false .bool],shared:=false,pre:=fun(x:G5)=>True,post:=fun(x:G5) (r:kN)=>(I7 x.1->r.1=Rq x.1/\r.2.1=Ns x.1/\r.2.2.1=true)/\(¬I7 x.1->r.2.2.1=false)}
def Q8:A7:=Am [.val false (.int .i64), .val false (.int .i64)] [.val true tQ] (fun(x:Ce)=>0<x.2.1) (fun(x:Ce) (r:G5)=>r.1=rc (mkRat x.1 x.2.1.toNat))
abbrev ty7:=(Bool×(List Int))×(List Int)×Unit
def Ae:A7:=Am [.val true tQ] [.val true (.pair .bool (.sl (.int .u32))), .val false (.sl (.int .u32))] (fun(x:G5)=>True) (fun(x:G5) (r:ty7)=>(nv x.1.2=0->r.1=zi/\r.2.1= [1])/\(nv x.1.2≠0->r.1=x.1.1/\r.2.1=x.1.2))
def W5:A7:= {args:= [.val false (.sl (.int .u32)), .val false (.sl (.int .u32))],res:= [.val false (.int .i64)],shared:=false,pre:=fun(x:Dx)=>True,post:=fun(x:Dx) (r:C5)=>r.1=Cm (nv x.1) (nv x.2.1)}
def W8:A7:=Am [.val true (.pair .bool (.sl (.int .u32))), .val false (.sl (.int .u32))] [.val true tQ] (fun(x:ty7)=>nv x.2.1≠0/\V6 x.1.2/\V6 x.2.1) (fun(x:ty7) (r:G5)=>r.1=rc (mkRat (iv x.1) (nv x.2.1)))
def Ei:A7:=Am [.val true (.pair .bool (.sl (.int .u32))), .val true (.pair .bool (.sl (.int .u32)))] [.val true (.pair .bool (.sl (.int .u32)))] (fun(x:bH)=>D6 x.1.2/\D6 x.2.1.2) (fun(x:bH) (r:HM)=>r.1=ic (iv x.1+iv x.2.1))
def Ej:A7:=Am [.val true (.pair .bool (.sl (.int .u32))), .val true (.pair .bool (.sl (.int .u32)))] [.val true (.pair .bool (.sl (.int .u32)))] (fun(x:bH)=>D6 x.1.2/\D6 x.2.1.2) (fun(x:bH) (r:HM)=>r.1=ic (iv x.1*iv x.2.1))
def Eo:A7:=Am [.val false (.sl (.int .u32)), .val false (.sl (.int .u32))] [.val false (.sl (.int .u32))] (fun(x:Dx)=>D6 x.1/\D6 x.2.1) (fun(x:Dx) (r:Ay)=>r.1=nc (nv x.1*nv x.2.1))
def Ek:A7:=Am [.val true (.pair .bool (.sl (.int .u32)))] [.val true (.pair .bool (.sl (.int .u32)))] (fun(x:HM)=>Hg x.1.2) (fun(x:HM) (r:HM)=>r.1=ic (-iv x.1))
def W1:A7:= {args:= [.val false (.int .i64), .val false (.int .i64)],res:= [.val false (.int .i64)],shared:=false,pre:=fun(x:Ce)=>True,post:=fun(x:Ce) (r:C5)=>r.1=J8 x.1 x.2.1}
def W4:A7:=Am [.val false (.int .i64)] [.val true (.pair .bool (.sl (.int .u32)))] (fun(x:C5)=>True) (fun(x:C5) (r:HM)=>r.1=ic x.1)
abbrev B4h:=QQ×Bool×Unit
def Da:A7:=Am [.val true tQ, .val true tQ] [.val true tQ, .val false .bool] (fun(x:Ed)=>E3 x.1/\E3 x.2.1) (fun(x:Ed) (r:B4h)=>(rv x.2.1=0->r.2.1=false)/\(rv x.2.1≠0->r.1=rc (rv x.1/rv x.2.1)/\r.2.1=true))
def Cu:A7:= {args:= [.val true (.pair .bool (.sl (.int .u32)))],res:= [.val false (.int .i64)],shared:=false,pre:=fun(x:HM)=>True,post:=fun(x:HM) (r:C5)=>r.1=(iv x.1).sign}
def Sf:A7:=Am [.val false (.sl (.int .u32)), .val false (.sl (.int .u32))] [.val false (.sl (.int .u32))] (fun(x:Dx)=>V6 x.1/\V6 x.2.1) (fun(x:Dx) (r:Ay)=>r.1=nc (Nat.gcd (nv x.1) (nv x.2.1)))
abbrev C0o:=(List Int)×(List Int)×Bool×Unit
def Gq:A7:=Am [.val false (.sl (.int .u32)), .val false (.sl (.int .u32))] [.val false (.sl (.int .u32)), .val false (.sl (.int .u32)), .val false .bool] (fun(x:Dx)=>V6 x.1/\V6 x.2.1) (fun(x:Dx) (r:C0o)=>(nv x.2.1=0->r.2.2.1=false)/\(nv x.2.1≠0->r.1=nc (nv x.1/nv x.2.1)/\r.2.1=nc (nv x.1%nv x.2.1)/\r.2.2.1=true))
def Sj:A7:=Am [.val true (.pair .bool (.sl (.int .u32)))] [.val true (.pair .bool (.sl (.int .u32)))] (fun(x:HM)=>Hg x.1.2) (fun(x:HM) (r:HM)=>r.1=ic ((iv x.1).natAbs:Int))
def So:A7:=Am [.val true (.pair .bool (.sl (.int .u32))), .val true (.pair .bool (.sl (.int .u32)))] [.val true (.pair .bool (.sl (.int .u32)))] (fun(x:bH)=>D6 x.1.2/\D6 x.2.1.2) (fun(x:bH) (r:HM)=>r.1=ic (iv x.1-iv x.2.1))
def Mq:A7:=Am [.val false (.sl (.int .u32))] [.val false (.sl (.int .u32))] (fun(x:Ay)=>Hg x.1) (fun(x:Ay) (r:Ay)=>r.1=nc (nv x.1))
def Er:A7:= {args:= [.val false (.sl (.int .u32)), .val false (.sl (.int .u32))],res:= [.val false (.int .i64)],shared:=false,pre:=fun(x:Dx)=>D6 x.1/\D6 x.2.1,post:=fun(x:Dx) (r:C5)=>r.1=Cm (nv x.1) (nv x.2.1)}
abbrev A4b:=Int×Bool×Unit
def Z8:A7:= {args:= [.val false (.sl (.int .u32))],res:= [.val false (.int .u64), .val false .bool],shared:=false,pre:=fun(x:Ay)=>True,post:=fun(x:Ay) (r:A4b)=>(nv x.1<18446744073709551616->r.1=(nv x.1:Int)/\r.2.1=true)/\(18446744073709551616<=nv x.1->r.2.1=false)}
def O7:A7:=Am [.val false (.int .u64)] [.val false (.sl (.int .u32))] (fun(x:C5)=>True) (fun(x:C5) (r:Ay)=>r.1=nc x.1.toNat)
def Br:A7:=Am [.val false (.sl (.int .u32))] [.val false (.sl (.int .u32))] (fun(x:Ay)=>True) (fun(x:Ay) (r:Ay)=>r.1=nc (nv x.1))
def Ct:A7:=Am [.val true (.pair .bool (.sl (.int .u32)))] [.val true (.pair .bool (.sl (.int .u32)))] (fun(x:HM)=>Hg x.1.2) (fun(x:HM) (r:HM)=>r.1=ic (iv x.1))
def Cw:A7:=Am [.val false (.sl (.int .u32))] [.val false (.sl (.int .u32))] (fun(x:Ay)=>Hg x.1) (fun(x:Ay) (r:Ay)=>r.1=nc (nv x.1))
def En:A7:=Am [.val false (.sl (.int .u32)), .val false (.sl (.int .u32))] [.val false (.sl (.int .u32))] (fun(x:Dx)=>V6 x.1/\V6 x.2.1) (fun(x:Dx) (r:Ay)=>r.1=nc (Nat.gcd (nv x.1) (nv x.2.1)))
def Z7:A7:=Am [.val false (.sl (.int .u32)), .val false (.sl (.int .u32))] [.val false (.sl (.int .u32)), .val false (.sl (.int .u32)), .val false .bool] (fun(x:Dx)=>D6 x.1) (fun(x:Dx) (r:C0o)=>(nv x.2.1=0->r.1= []/\r.2.1= []/\r.2.2.1=false)/\(nv x.2.1≠0->r.1=nc (nv x.1/nv x.2.1)/\r.2.1=nc (nv x.1%nv x.2.1)/\r.2.2.1=true))
def Z4:A7:=Am [.val false .bool, .val false (.sl (.int .u32))] [.val true (.pair .bool (.sl (.int .u32)))] (fun(x:B3z)=>True) (fun(x:B3z) (r:HM)=>r.1=(x.1&&decide (x.2.1≠ []),x.2.1))
def Em:A7:=Am [.val false (.sl (.int .u32)), .val false (.sl (.int .u32))] [.val false (.sl (.int .u32))] (fun(x:Dx)=>D6 x.1/\D6 x.2.1) (fun(x:Dx) (r:Ay)=>r.1=nc (nv x.1+nv x.2.1))
def Ep:A7:=Am [.val false (.sl (.int .u32)), .val false (.sl (.int .u32))] [.val false (.sl (.int .u32)), .val false .bool] (fun(x:Dx)=>D6 x.1/\D6 x.2.1) (fun(x:Dx) (r:B8b)=>(nv x.1<nv x.2.1->r.1= []/\r.2.1=false)/\(nv x.2.1<=nv x.1->r.1=nc (nv x.1-nv x.2.1)/\r.2.1=true))
def Bg:A7:= {args:= [.val false (.int .i64)],res:= [.val false .bool],shared:=false,pre:=fun(x:C5)=>True,post:=fun(x:C5) (r:X9)=>r.1=false}
def Ab:A7:=Am [.val true tQ] [.val true tQ, .val false .bool] (fun(x:G5)=>E3 x.1) (fun(x:G5) (r:B4h)=>(rv x.1=0->r.2.1=false)/\(rv x.1≠0->r.1=rc (rv x.1)⁻¹/\r.2.1=true))
def Gr:A7:= {args:= [.val false (.sl (.int .u32))],res:= [.val false (.int .u64), .val false .bool],shared:=false,pre:=fun(x:Ay)=>Hg x.1,post:=fun(x:Ay) (r:A4b)=>(nv x.1<18446744073709551616->r.1=(nv x.1:Int)/\r.2.1=true)/\(18446744073709551616<=nv x.1->r.2.1=false)}
def Mp:A7:= {args:= [.val false (.sl (.int .u32))],res:= [.val false (.int .i64)],shared:=false,pre:=fun(x:Ay)=>D6 x.1,post:=fun(x:Ay) (r:C5)=>r.1=(J6 (nv x.1):Int)}
abbrev JO:=(List Int)×Int×Unit
def Si:A7:= {args:= [.val false (.sl (.int .u32)), .val false (.int .i64)],res:= [.val false (.int .u32)],shared:=false,pre:=fun(x:JO)=>0<=x.2.1,post:=fun(x:JO) (r:C5)=>r.1=((nv x.1/2^x.2.1.toNat%2:Nat):Int)}
def Cy:A7:= {args:= [.val false (.sl (.int .u32))],res:= [.val false (.int .u64)],shared:=false,pre:=fun(x:Ay)=>x.1.length<=2,post:=fun(x:Ay) (r:C5)=>r.1=(nv x.1:Int)}
def W7:A7:= {args:= [.val false (.sl (.int .u32)), .val false (.sl (.int .u32))],res:= [.val true (.pair (.int .u64) (.pair (.int .u64) (.pair (.int .u64) (.pair (.int .u64) .bool))))],shared:=false,pre:=fun(x:Dx)=>D6 x.1/\3<=x.1.length/\Nd x.1/\nv x.2.1<=nv x.1/\x.2.1.length<=x.1.length,post:=fun(x:Dx) (r:(Int×(Int×(Int×(Int×Bool))))×Unit)=>B6t (nv x.1) (nv x.2.1) r.1.1 r.1.2.1 r.1.2.2.1 r.1.2.2.2.1 r.1.2.2.2.2}
abbrev C0p:=(List Int)×Int×(List Int)×Int×Unit
def W6:A7:=Am [.val false (.sl (.int .u32)), .val false (.int .u64), .val false (.sl (.int .u32)), .val false (.int .u64)] [.val false (.sl (.int .u32))] (fun(x:C0p)=>V6 x.1/\V6 x.2.2.1/\nv x.2.2.1*x.2.2.2.1.toNat<=nv x.1*x.2.1.toNat) (fun(x:C0p) (r:Ay)=>r.1=nc (nv x.1*x.2.1.toNat-nv x.2.2.1*x.2.2.2.1.toNat))
def L9:A7:=Am [.val false (.sl (.int .u32)), .val false (.int .u32)] [.val false (.sl (.int .u32)), .val false (.sl (.int .u32))] (fun(x:JO)=>D6 x.1/\x.2.1≠0) (fun(x:JO) (r:Dx)=>r.1=nc (nv x.1/x.2.1.toNat)/\r.2.1=nc (nv x.1%x.2.1.toNat))
def O8:A7:=Am [.val false (.sl (.int .u32)), .val false (.sl (.int .u32))] [.val false (.sl (.int .u32)), .val false (.sl (.int .u32))] (fun(x:Dx)=>D6 x.1/\2<=x.2.1.length/\x.2.1.length<=x.1.length/\Nd x.2.1) (fun(x:Dx) (r:Dx)=>r.1=nc (nv x.1/nv x.2.1)/\r.2.1=nc (nv x.1%nv x.2.1))
def Gm:A7:= {args:= [.val false (.int .u32)],res:= [.val false (.int .i64)],shared:=false,pre:=fun(x:C5)=>True,post:=fun(x:C5) (r:C5)=>r.1=(J6 x.1.toNat:Int)}
def U2:A7:= {args:= [.val true tQ, .val true tQ],res:= [.val false (.int .i64)],shared:=false,pre:=fun(x:Ed)=>E3 x.1/\E3 x.2.1,post:=fun(x:Ed) (r:C5)=>r.1=SG (rv x.1) (rv x.2.1)}
def J5:A7:= {args:= [.val false (.int .u32)],res:= [.val false (.int .i64)],shared:=false,pre:=fun(x:C5)=>True,post:=fun(x:C5) (r:C5)=>r.1=32-(J6 x.1.toNat:Int)}
abbrev C0q:=(List Int)×Int×Int×Unit
def Z9:A7:= {args:= [.val false (.sl (.int .u32)), .val false (.int .i64), .val false (.int .i64)],res:= [.val false (.int .u64)],shared:=false,pre:=fun(x:C0q)=>3<=x.2.1/\(x.1.length:Int)<=x.2.1/\x.2.1<=17592186044416/\0<=x.2.2.1/\x.2.2.1<=31/\nv x.1*2^x.2.2.1.toNat<4294967296^x.2.1.toNat,post:=fun(x:C0q) (r:C5)=>r.1=((nv x.1*2^x.2.2.1.toNat/4294967296^(x.2.1.toNat-2):Nat):Int)}
def P7:A7:= {args:= [.val false (.sl (.int .u32)), .val false (.int .i64)],res:= [.own (.int .u32) 103],shared:=false,pre:=fun(x:JO)=>D6 x.1/\0<=x.2.1/\x.2.1<=31,post:=fun(x:JO) (r:Ay)=>r.1.length=x.1.length+1/\nv r.1=nv x.1*2^x.2.1.toNat}
def L3:A7:=Am [.val false (.sl (.int .u32)), .val false (.int .i64)] [.val false (.sl (.int .u32)), .val false .bool] (fun(x:JO)=>D6 x.1) (fun(x:JO) (r:B8b)=>(x.2.1<0->r.1= []/\r.2.1=false)/\(0<=x.2.1->r.1=nc (nv x.1/2^x.2.1.toNat)/\r.2.1=true))
def Q6:A7:= {args:= [.val false (.int .i64), .val false (.int .i64)],res:= [.val false (.int .i64)],shared:=false,pre:=fun(x:Ce)=>True,post:=fun(x:Ce) (r:C5)=>r.1=J8 x.1 x.2.1}
def W3:A7:= {args:= [.val true (.pair .bool (.sl (.int .u32))), .val true (.pair .bool (.sl (.int .u32)))],res:= [.val false (.int .i64)],shared:=false,pre:=fun(x:bH)=>True,post:=fun(x:bH) (r:C5)=>r.1=J8 (iv x.1) (iv x.2.1)}
def T9:A7:= {args:= [.val false (.int .i64), .val false (.ptr (.sl (.int .u32)))],res:= [.val false (.int .u64)],shared:=false,pre:=fun(x:Int×(List Int)×Unit)=>0<=x.1,post:=fun(x:Int×(List Int)×Unit) (r:C5)=>r.1=(if x.1<(x.2.1.length:Int)then x.2.1.getD x.1.toNat 0 else 0)}
def W2:A7:= {args:= [.val false (.int .i64)],res:= [.val false .bool],shared:=false,pre:=fun(x:C5)=>True,post:=fun(x:C5) (r:X9)=>r.1=false}
def pZ9:Nat→Nat→Pl→Pl
 | _,0,k=>k
 |i,n+1,k=> .p i (pZ9 (i+1) n k)
def vI:List Vs:= [.val (.int .i64)]
def vU:List Vs:= [.val (.int .u64)]
def RO:An:= {loop:= [(2,⟨[0],[],[(3,false,vI)],[],[]⟩)]}
def Wt:An:= {}
def PE:An:= {loop:= [(3,⟨[6,7],[],[(3,false,vU),(8,false,vI)],[],[]⟩)]}
def HV:An:= {}
def FK:An:= {loop:= [(7,⟨[0,1],[],[(5,false,vI)],[],[]⟩)],plan:= [(9,[3,7],[],true,(pZ9 0 3 (.q 3 (pZ9 4 3 (.q 7 (.p 8 .done)))))),(11,[3,7],[],true,(pZ9 0 3 (.q 3 (pZ9 4 3 (.q 7 (.p 8 .done))))))]}
def PD:An:= {}
abbrev Lc:=List Int×Unit
def AU:A2 Br.args->Prop:=fun(x:Lc)=>let e:=(1:Int);let c:=(x.1.length:Int);let a:=(0:Int);∃(I:C5->Prop),∃(μ: _->Nat),I (c,())/\∀(p:C5),let d:=(i64.wrap (p.1-e),());let b:=(decide (gx a x.1 (i64.wrap (p.1-e))=a));(Ty.int i64).wf p.1/\True->I p->(decide (a<p.1)=true->a<=i64.wrap (p.1-e)/\i64.wrap (p.1-e)<c)/\(iB (K8 (decide (a<p.1)) b false) (I d/\μ d<μ p) ((a<=a/\a<=p.1/\p.1<=c)/\List.drop a.toNat (List.take p.1.toNat x.1)=nc (nv x.1)))
def N2 (P:List Int×Unit->Prop):Prop:=∀r:List Int×Unit,Ix r.1/\True->P r
def Hq:A2 O7.args->Prop:=fun(x:C5)=>(0:(Ty.int u64).den)<=(32:Int)/\True/\N2 fun r=>r.1=nc (nv [u32.wrap x.1,u32.wrap (Int.fdiv x.1 ((2:Int)^Min.min ((32:Int).toNat) u64.bits))])->r.1=nc x.1.toNat
def Wh:A2 Cy.args->Prop:=fun(x:Lc)=>let c:=(0:Int);let b:=(x.1.length:Int);∃(I:Ce->Prop),∃(μ: _->Nat),I (c,c,())/\∀(p:Ce),let a:=(u64.wrap (↑(BitVec.ofInt u64.bits p.1|||BitVec.ofInt u64.bits (u64.wrap (u64.wrap (gx c x.1 p.2.1)*(2:Int)^Min.min (i64.wrap (32*p.2.1)).toNat u64.bits))).toNat:Int),i64.wrap (p.2.1+1),());(Ty.int u64).wf p.1/\(Ty.int i64).wf p.2.1/\True->I p->(iB (decide (p.2.1<b)) ((c<=p.2.1/\p.2.1<b)/\(0:(Ty.int i64).den)<=i64.wrap (32*p.2.1)/\I a/\μ a<μ p) (p.1=(↑(nv x.1):Int)))
def oA (P:Int×Unit->Prop):Prop:=∀r:Int×Unit,HO r.1/\True->P r
def Pe:A2 Z8.args->Prop:=fun(x:Lc)=>let a:=(18446744073709551616:Nat);True/\N2 fun r=>let b:Prop:=((2:Int)<(r.1.length:Int));r.1=nc (nv x.1)->(iB (decide b) ((nv x.1<a->(0:Int)=(↑(nv x.1):Int)/\false=true)/\(a<=nv x.1->false=false)) (List.length r.1<=2/\oA fun c=>c.1=(↑(nv r.1):Int)->(nv x.1<a->c.1=(↑(nv x.1):Int)/\true=true)/\(a<=nv x.1->true=false)))
abbrev Ev:=List Int×List Int×Unit
def Nj:A2 W5.args->Prop:=fun(x:Ev)=>let i:=(1:Int);let e:=(nv x.1);let d:=(nv x.2.1);let c:=(0:Int);True/\N2 fun r=>let a:=(r.1.length:Int);r.1=nc e->True/\N2 fun j=>let b:=(j.1.length:Int);j.1=nc d->(iB (decide (a≠b)) ((iB (decide (a<b)) ((-1:Int)=Cm e d) (i=Cm e d))) (∃(I:C5->Prop),∃(μ: _->Nat),I (i64.wrap (a-i),())/\∀(p:C5),let h:Prop:=(gx c j.1 p.1<gx c r.1 p.1);let g:Prop:=(gx c r.1 p.1<gx c j.1 p.1);let f:=(i64.wrap (p.1-i),());(Ty.int i64).wf p.1/\True->I p->(iB (decide (c<=p.1)) ((c<=p.1/\p.1<a)/\(c<=p.1/\p.1<b)/\(iB (decide g) ((-1:Int)=Cm e d) ((c<=p.1/\p.1<a)/\(c<=p.1/\p.1<b)/\(iB (decide h) (i=Cm e d) (I f/\μ f<μ p))))) (c=Cm e d))))
def Wg:A2 Cw.args->Prop:=fun(x:Lc)=>True/\N2 fun r=>let a:=(r.1.length:Int);r.1=nc (nv x.1)->((0:Int)<=a/\a<=a/\(↑(4:Nat):Int)*a<=(281474976710656:Int)/\a<=(9223372036854775807:Int))/\Lt (List.replicate a.toNat (0:Int)) r.1=nc (nv x.1)
def KC (x:A2 Br.args) (hw:awf Br.args x) (_:Br.pre x):AU x:=by
 obtain⟨l,_⟩:=x;have hl:l.length<=9223372036854775807:=hw.1.1;have hb:A6 l:=A3 hw.1.2;change List Int at l;simp only[AU,iB];refine⟨fun p=>0<=p.1/\p.1<=(l.length:Int)/\∀i x,p.1.toNat<=i->l[i]? =some x->x=0,fun p=>p.1.toNat,⟨qE _,qI _,fun i x hi hx=> ?_⟩, ?_⟩
 . rw[rW (by simpa using hi)]at hx;cases hx
 rintro⟨n,_⟩ _ ⟨h0,h1,u⟩;change Int at n;simp only at h0 h1 u⊢;refine⟨fun h=> ?_,fun h=> ?_,fun h=> ?_⟩
 . have h:=qA h;rw[wv (by omega)];exact⟨by omega,by omega⟩
 . rw[J9]at h;simp only[qC,rY]at h;obtain⟨h3,h4⟩:=h;rw[wv (by omega)]at h4⊢;refine⟨⟨by omega,by omega,fun i x hi hx=> ?_⟩,by omega⟩;by_cases he:i=(n-1).toNat
   . subst he;rw[G8 (d:=(0:Int)) (by omega) (by omega)]at hx;cases hx;exact h4
   . exact u i x (by omega) hx
 . refine⟨⟨qI _,h0,h1⟩, ?_⟩;show(l.take n.toNat).drop 0= _;rw[tX];refine A0e hb (by omega) u ?_;rw[J9]at h;simp only[xD,rS]at h;rcases h with h|h
   . exact .inl (by omega)
   . by_cases hn:n=0
     . exact .inl (by omega)
     . rw[wv (by omega)]at h;refine .inr ⟨gx 0 l (n-1), ?_,h⟩;have:=G8 (d:=(0:Int)) (l:=l) (i:=n-1) (by omega) (by omega);rw[<-this];congr 1;omega
def Qr (x:A2 O7.args) (hw:awf O7.args x) (_:O7.pre x):Hq x:=by
 obtain⟨v,_⟩:=x;change Int at v;have hv:u64.min<=v/\v<=u64.max:=hw.1;rw[eV,CW]at hv;simp only[Hq,N2];refine⟨by decide,trivial, ?_⟩;rintro⟨r,_⟩ _ u;simp only at u⊢;rw[u];congr 1;rw[show Min.min (Int.toNat 32) u64.bits=32 from rfl];simp only[nv,Ca];rw[sI _ (by decide),show(2:Int)^32=4294967296 from rfl];omega
def HD (x:A2 Cy.args) (hw:awf Cy.args x) (hp:Cy.pre x):Wh x:=by
 obtain⟨l,_⟩:=x;have hb:A6 l:=A3 hw.1.2;have hl:l.length<=2:=hp;change List Int at l;simp only[Wh,iB];refine⟨fun p=>0<=p.2.1/\p.2.1<=(l.length:Int)/\p.1=(nv (l.take p.2.1.toNat):Int),fun p=>((l.length:Int)-p.2.1).toNat,⟨qI _,qE _,rfl⟩, ?_⟩;rintro⟨v,i,_⟩ hv ⟨h0,h1,h2⟩;change Int at v i;simp only at h0 h1 h2⊢;refine⟨fun h=> ?_,fun h=> ?_⟩
 . have h:=qA h;have hg:=Uk hb h0 h;have u:=Gd (l:=l.take i.toNat) fun x hx=>hb x (rZ hx)
   rw[qW,sW (by omega)]at u;have hs:=IT h0 h;rw[wv (a:=32*i) (by omega),wv (a:=i+1) (by omega),W9 hg.1 (by omega)];have hm:Min.min (32*i).toNat u64.bits=32*i.toNat:=by
    show Min.min (32*i).toNat 64= _;omega
   rw[hm];have hi:i.toNat=0\/i.toNat=1:=by omega
   refine⟨⟨h0,h⟩,by show(0:Int)<=32*i;omega, ?_⟩;have key:u64.wrap (((BitVec.ofInt 64 v|||BitVec.ofInt 64 (u64.wrap (gx 0 l i*2^(32*i.toNat)))).toNat:Nat):Int)=(nv (l.take (i+1).toNat):Int):=by
    rw[hs];generalize gx 0 l i=b at hg;rcases hi with hi|hi
    . rw[hi]at u⊢;have a0:v=0:=by rw[h2,hi];simp[nv]
      rw[W9 (a:=b*2^(32*0)) (by omega) (by omega),UR (v:=v) (b:=b) (k:=32*0) (by omega) (by omega) hg.1 (by omega) (by omega),W9 (by omega) (by omega)];simp[nv];omega
    . rw[hi]at u⊢;rw[hi]at h2;rw[W9 (a:=b*2^(32*1)) (by omega) (by omega),UR (v:=v) (b:=b) (k:=32*1) (by omega) (by omega) hg.1 (by omega) (by omega),W9 (by omega) (by omega)];omega
   exact⟨⟨by omega,by omega,key⟩,by omega⟩
 . have h:=qB h;rw[E1 (by omega)]at h2;exact h2
def AT (x:A2 Z8.args) (hw:awf Z8.args x) (_:Z8.pre x):Pe x:=by
 obtain⟨l,_⟩:=x;change List Int at l;simp only[Pe,iB,N2,oA];refine⟨trivial, ?_⟩;rintro⟨r,_⟩ _ u;simp only at u⊢;subst u;refine⟨fun h=> ?_,fun h=> ?_⟩
 . have h:=qA h;have:=A8p (k:=2) (n:=nv l) (by omega);refine⟨fun h2=> ?_,fun _=>trivial⟩;rw[show(4294967296:Nat)^2=18446744073709551616 from rfl]at this;omega
 . have h:=qB h;have a0:(nc (nv l)).length<=2:=by omega
   refine⟨a0, ?_⟩;rintro⟨r,_⟩ _ u;simp only at u⊢;have a1:=rD (Li (nv l)) (rX (by decide) a0);rw[E7]at u;refine⟨fun _=>⟨u,trivial⟩,fun h2=> ?_⟩;rw[show(4294967296:Nat)^2=18446744073709551616 from rfl]at a1;omega
def Xr (x:A2 W5.args) (hw:awf W5.args x) (_:W5.pre x):Nj x:=by
 obtain⟨a,b,_⟩:=x;change List Int at a b;simp only[Nj,iB,N2];refine⟨trivial, ?_⟩;rintro⟨r,_⟩ ⟨⟨a3,_⟩,_⟩ hr;simp only at hr a3⊢;subst hr;refine⟨trivial, ?_⟩;rintro⟨s,_⟩ ⟨⟨a4,_⟩,_⟩ hs;simp only at hs a4⊢;subst hs;have ha:=I9 (nv a);have hb:=I9 (nv b);refine⟨fun a1=>⟨fun h=> ?_,fun h=> ?_⟩,fun a1=> ?_⟩
 . have h:=qA h;exact(Oi (CJ (by omega))).symm
 . have h:=qB h;have a1:=qA a1;exact(QL (CJ (by omega))).symm
 . have a2:(nc (nv a)).length=(nc (nv b)).length:=by have:=qB a1;omega
   have ea:=E7 (nv a);have eb:=E7 (nv b);generalize nc (nv a)=r at*;generalize nc (nv b)=s at*;rw[<-ea, <-eb];refine⟨fun p=> -1<=p.1/\p.1<(r.length:Int)/\r.drop (p.1+1).toNat=s.drop (p.1+1).toNat,fun p=>(p.1+1).toNat, ?_, ?_⟩
   . rw[wv (by omega)];refine⟨by omega,by omega, ?_⟩;rw[sE (by omega),sE (by omega)]
   rintro⟨i,_⟩ _ ⟨h0,h1,h2⟩;change Int at i;simp only at h0 h1 h2⊢;refine⟨fun h=> ?_,fun h=> ?_⟩
   . have h:=qA h;refine⟨⟨h,h1⟩,⟨h,by omega⟩,fun a0=> ?_,fun a0=>⟨⟨h,h1⟩,⟨h,by omega⟩,fun u=> ?_,fun u=> ?_⟩⟩
     . exact(Oi (dU ha hb a2 h h1 h2 (qA a0))).symm
     . exact(QL (dU hb ha a2.symm h (by omega) h2.symm (qA u))).symm
     . have a0:=qB a0;have u:=qB u;rw[wv (by omega)];refine⟨⟨by omega,by omega, ?_⟩,by omega⟩;rw[show i-1+1=i from by omega,V7 h h1,V7 h (by omega),h2,show gx 0 r i=gx 0 s i from by omega]
   . have h:=qB h;rw[show(i+1).toNat=0 from by omega,tX,tX]at h2;rw[h2,aF]
def LG {α:Type} {l:List α} {d:α} :Lt (List.replicate ((l.length:Nat):Int).toNat d) l=l:=by
 unfold Lt;rw[rI,qM,uR,sE (by simp),vS]
def HC (x:A2 Cw.args) (hw:awf Cw.args x) (hp:Cw.pre x):Wg x:=by
 obtain⟨l,_⟩:=x;have hb:A6 l:=A3 hw.1.2;have hl:l.length<=35184372088832:=hp;simp only[Wg,N2];refine⟨trivial, ?_⟩;rintro⟨r,_⟩ _ u;simp only at u⊢;have h1:r.length<=l.length:=by rw[u];exact C7 hb
 refine⟨⟨by omega,qI _,by simp;omega,by omega⟩, ?_⟩;rw[LG,u]
def RJ:An:= {join:= [(4,⟨[],[],[(0,false,[.val (.sl (.int .u32))]),(1,false,[.val (.sl (.int .u32))])],[],[]⟩),(12,⟨[0,1,5,7,24,25,26],[0],[(6,false,vU)],[],[]⟩)],loop:= [(7,⟨[0,1,5,24,25],[],[(6,false,vU),(26,false,vI)],[],[(0, .row (.int .u32) 103)]⟩)]}
def RN:An:= {join:= [(12,⟨[1,6,8,22,23,24],[0],[(10,false,vU)],[],[]⟩)],loop:= [(7,⟨[1,6,22,23],[],[(7,false,vU),(24,false,vI)],[],[(0, .row (.int .u32) 103)]⟩)]}
def RM:An:= {join:= [(18,⟨[1,5,29,30,31],[],[],[],[(0, .row (.int .u32) 103)]⟩)],loop:= [(11,⟨[1,5,6,7,29,30,31,38,39],[],[(8,false,vU),(40,false,vI)],[],[(0, .row (.int .u32) 103)]⟩),(6,⟨[1,5,29,30],[],[(31,false,vI)],[],[(0, .row (.int .u32) 103)]⟩)]}
def Rf:An:= {loop:= [(4,⟨[0,1,4],[],[(6,false,vU),(7,false,vI)],[],[(0, .row (.int .u32) 103)]⟩)]}
def Wu:An:= {join:= [(15,⟨[0,6,7,8,29,30,31],[0],[(10,false,vU)],[],[]⟩)],loop:= [(10,⟨[0,6,7,29,30],[],[(31,false,vI)],[],[(0, .row (.int .u32) 103)]⟩)]}
def FN:An:= {loop:= [(4,⟨[0,1,5,13,14],[],[(6,false,vU),(15,false,vI)],[],[(0, .row (.int .u32) 103)]⟩)]}
abbrev Sz:=Int×Int×List Int×Unit
def AO:A2 Em.args->Prop:=fun(x:Ev)=>let f:=(1:Int);let c:=(0:Int);True/\N2 fun r=>r.1=nc (nv x.1)->True/\N2 fun j=>let e:Prop:=((r.1.length:Int)<(j.1.length:Int));j.1=nc (nv x.2.1)->∃(J:Ev->Prop),((iB (decide e) (J (j.1,r)) (J (r.1,j))))/\∀(p:Ev),let d:=(p.2.1.length:Int);let a:=(p.1.length:Int);(Ty.int u32).sl.wf p.1/\(Ty.int u32).sl.wf p.2.1/\True->J p->(c<=i64.wrap (a+f)/\i64.wrap (a+f)<=i64.wrap (a+f)/\(↑(4:Nat):Int)*i64.wrap (a+f)<=(281474976710656:Int)/\i64.wrap (a+f)<=(9223372036854775807:Int))/\∃(I:Sz->Prop),∃(μ: _->Nat),I (c,c,List.replicate (i64.wrap (a+f)).toNat c,())/\∀(i:Sz),let h:=(gx c p.1 i.2.1);let g:=(i.2.2.1.length:Int);(Ty.int u64).wf i.1/\(Ty.int i64).wf i.2.1/\Ix i.2.2.1/\True->I i->(iB (decide (i.2.1<a)) ((c<=i.2.1/\i.2.1<a)/\∃(J:C5->Prop),((iB (decide (i.2.1<d)) ((c<=i.2.1/\i.2.1<d)/\J (u64.wrap (u64.wrap (i.1+u64.wrap h)+u64.wrap (gx c p.2.1 i.2.1)),())) (J (u64.wrap (i.1+u64.wrap h),()))))/\∀(p:C5),let b:=(Int.fdiv p.1 ((2:Int)^Min.min ((32:Int).toNat) u64.bits),i64.wrap (i.2.1+f),List.set i.2.2.1 i.2.1.toNat (u32.wrap p.1),());(Ty.int u64).wf p.1/\True->J p->(c<=i.2.1/\i.2.1<g)/\(0:(Ty.int u64).den)<=(32:Int)/\I b/\μ b<μ i) ((c<=a/\a<g)/\True/\N2 fun r=>r.1=nc (nv (List.set i.2.2.1 a.toNat (u32.wrap i.1)))->r.1=nc (nv x.1+nv x.2.1)))
def Cg (P:Int×Unit->Prop):Prop:=∀r:Int×Unit,K9 r.1/\True->P r
def AS:A2 Ep.args->Prop:=fun(x:Ev)=>let f:=(nv x.1-nv x.2.1);let c:=(0:Int);True/\N2 fun r=>let a:=(r.1.length:Int);r.1=nc (nv x.1)->True/\N2 fun g=>let d:=(g.1.length:Int);g.1=nc (nv x.2.1)->True/\Cg fun i=>i.1=Cm (nv r.1) (nv g.1)->(iB (decide (i.1<c)) ((nv x.1<nv x.2.1->Cn Int= []/\false=false)/\(nv x.2.1<=nv x.1->Cn Int=nc f/\false=true)) ((c<=a/\a<=a/\(↑(4:Nat):Int)*a<=(281474976710656:Int)/\a<=(9223372036854775807:Int))/\∃(I:Sz->Prop),∃(μ: _->Nat),I (c,c,List.replicate a.toNat c,())/\∀(p:Sz),let e:=(u64.wrap (gx c r.1 p.2.1)-p.1);(Ty.int u64).wf p.1/\(Ty.int i64).wf p.2.1/\Ix p.2.2.1/\True->I p->(iB (decide (p.2.1<a)) ((c<=p.2.1/\p.2.1<a)/\∃(J:C5->Prop),((iB (decide (p.2.1<d)) ((c<=p.2.1/\p.2.1<d)/\J (u64.wrap (u64.wrap e-u64.wrap (gx c g.1 p.2.1)),())) (J (u64.wrap e,()))))/\∀(h:C5),let b:=(Int.fdiv h.1 ((2:Int)^Min.min ((63:Int).toNat) u64.bits),i64.wrap (p.2.1+1),List.set p.2.2.1 p.2.1.toNat (u32.wrap h.1),());(Ty.int u64).wf h.1/\True->J h->(c<=p.2.1/\p.2.1<(p.2.2.1.length:Int))/\(0:(Ty.int u64).den)<=(63:Int)/\I b/\μ b<μ p) (True/\N2 fun r=>r.1=nc (nv p.2.2.1)->(nv x.1<nv x.2.1->r.1= []/\true=false)/\(nv x.2.1<=nv x.1->r.1=nc f/\true=true)))))
abbrev NA:=Int×List Int×Unit
def AR:A2 Eo.args->Prop:=fun(x:Ev)=>let j:=(nv x.1*nv x.2.1);let e:=(0:Int);True/\N2 fun r=>let c:=(r.1.length:Int);r.1=nc (nv x.1)->True/\N2 fun l=>let b:=(l.1.length:Int);l.1=nc (nv x.2.1)->(iB (K8 (decide (c=e)) true (decide (b=e))) (Cn Int=nc j) ((e<=i64.wrap (c+b)/\i64.wrap (c+b)<=i64.wrap (c+b)/\(↑(4:Nat):Int)*i64.wrap (c+b)<=(281474976710656:Int)/\i64.wrap (c+b)<=(9223372036854775807:Int))/\∃(I:NA->Prop),∃(μ: _->Nat),I (e,List.replicate (i64.wrap (c+b)).toNat e,())/\∀(p:NA),(Ty.int i64).wf p.1/\Ix p.2.1/\True->I p->(iB (decide (p.1<c)) (∃(J:Lc->Prop),((e<=p.1/\p.1<c)/\(iB (decide (gx e r.1 p.1=e)) (J (p.2.1,())) (∃(I:Sz->Prop),∃(μ: _->Nat),I (e,e,p.2.1,())/\∀(k:Sz),let i:=(i64.wrap (p.1+k.2.1));let h:=(k.2.2.1.length:Int);let f:Prop:=(e<=i64.wrap (p.1+k.2.1)/\i64.wrap (p.1+k.2.1)<h);let a:=(u64.wrap (k.1+u64.wrap (u64.wrap (u64.wrap (gx e r.1 p.1)*u64.wrap (gx e l.1 k.2.1))+u64.wrap (List.getD k.2.2.1 i.toNat e))));let d:=(a.fdiv ((2:Int)^Min.min ((32:Int).toNat) u64.bits),i64.wrap (k.2.1+1),List.set k.2.2.1 i.toNat (u32.wrap a),());(Ty.int u64).wf k.1/\(Ty.int i64).wf k.2.1/\Ix k.2.2.1/\True->I k->(iB (decide (k.2.1<b)) ((e<=k.2.1/\k.2.1<b)/\f/\f/\(0:(Ty.int u64).den)<=(32:Int)/\I d/\μ d<μ k) ((e<=i64.wrap (p.1+b)/\i64.wrap (p.1+b)<h)/\J (List.set k.2.2.1 (i64.wrap (p.1+b)).toNat (u32.wrap k.1),()))))))/\N2 fun k=>let g:=(i64.wrap (p.1+1),k);J k->I g/\μ g<μ p) (True/\N2 fun r=>r.1=nc (nv p.2.1)->r.1=nc j))))
abbrev VR:=List Int×Int×Unit
def Fp:A2 L9.args->Prop:=fun(x:VR)=>let e:=(u64.wrap x.2.1);let d:=(0:Int);let c:=(x.1.length:Int);(d<=c/\c<=c/\(↑(4:Nat):Int)*c<=(281474976710656:Int)/\c<=(9223372036854775807:Int))/\∃(I:Sz->Prop),∃(μ: _->Nat),I (d,i64.wrap (c-(1:Int)),List.replicate c.toNat d,())/\∀(p:Sz),let a:=(u64.wrap (↑(BitVec.ofInt u64.bits (u64.wrap (p.1*2^Min.min ((32:Int).toNat) u64.bits)) |||BitVec.ofInt u64.bits (u64.wrap (gx d x.1 p.2.1))).toNat:Int));let b:=(a.tmod e,i64.wrap (p.2.1-1),List.set p.2.2.1 p.2.1.toNat (u32.wrap (u64.wrap (a.tdiv e))),());(Ty.int u64).wf p.1/\(Ty.int i64).wf p.2.1/\Ix p.2.2.1/\True->I p->(iB (decide (d<=p.2.1)) ((0:(Ty.int u64).den)<=(32:Int)/\(d<=p.2.1/\p.2.1<c)/\u64.wrap x.2.1≠d/\(d<=p.2.1/\p.2.1<(p.2.2.1.length:Int))/\u64.wrap x.2.1≠d/\I b/\μ b<μ p) (True/\N2 fun r=>r.1=nc (nv p.2.2.1)->True/\N2 fun f=>f.1=nc p.1.toNat->r.1=nc (nv x.1/x.2.1.toNat)/\f.1=nc (nv x.1%x.2.1.toNat)))
def Hr:A2 L3.args->Prop:=fun(x:VR)=>let i:=(1:Int);let g:=(nv x.1/(2:Nat)^x.2.1.toNat);let f:=(32:Int);let e:=(i64.wrap (Int.tdiv x.2.1 f));let d:=(0:Int);(iB (decide (x.2.1<d)) ((x.2.1<d->Cn Int= []/\false=false)/\(d<=x.2.1->Cn Int=nc g/\false=true)) (True/\N2 fun r=>let b:=(r.1.length:Int);let j:Prop:=(b<=i64.wrap (Int.tdiv x.2.1 f));let a:=(↑(List.drop e.toNat (List.take b.toNat r.1)).length:Int);r.1=nc (nv x.1)->f≠d/\(iB (decide j) ((x.2.1<d->Cn Int= []/\true=false)/\(d<=x.2.1->Cn Int=nc g/\true=true)) (f≠d/\(d<=i64.wrap (Int.tdiv x.2.1 f)/\i64.wrap (Int.tdiv x.2.1 f)<=b/\b<=b)/\f≠d/\(d<=a/\a<=a/\(↑(4:Nat):Int)*a<=(281474976710656:Int)/\a<=(9223372036854775807:Int))/\∃(I:NA->Prop),∃(μ: _->Nat),I (d,List.replicate a.toNat d,())/\∀(p:NA),let k:Prop:=(i64.wrap (p.1+i)<a);let h:=(gx d (List.drop e.toNat (List.take b.toNat r.1)) p.1);(Ty.int i64).wf p.1/\Ix p.2.1/\True->I p->(iB (decide (p.1<a)) ((d<=p.1/\p.1<a)/\∃(J:C5->Prop),((iB (decide k) ((d<=i64.wrap (p.1+i)/\i64.wrap (p.1+i)<a)/\(0:(Ty.int u64).den)<=f/\J (u64.wrap (↑(BitVec.ofInt u64.bits (u64.wrap h) |||BitVec.ofInt u64.bits (u64.wrap (u64.wrap (gx d (List.drop e.toNat (List.take b.toNat r.1)) (i64.wrap (p.1+i)))*(2:Int)^Min.min f.toNat u64.bits))).toNat:Int),())) (J (u64.wrap h,()))))/\∀(l:C5),let c:=(i64.wrap (p.1+i),List.set p.2.1 p.1.toNat (u32.wrap (Int.fdiv l.1 ((2:Int)^Min.min (Int.tmod x.2.1 f).toNat u64.bits))),());(Ty.int u64).wf l.1/\True->J l->(0:(Ty.int i64).den)<=Int.tmod x.2.1 f/\(d<=p.1/\p.1<(p.2.1.length:Int))/\I c/\μ c<μ p) (True/\N2 fun r=>r.1=nc (nv p.2.1)->(x.2.1<d->r.1= []/\true=false)/\(d<=x.2.1->r.1=nc g/\true=true)))))))
def Nn:A2 P7.args->Prop:=fun(x:VR)=>let f:=(1:Int);let d:=(0:Int);let b:=(x.1.length:Int);(d<=i64.wrap (b+f)/\i64.wrap (b+f)<=i64.wrap (b+f)/\(↑(4:Nat):Int)*i64.wrap (b+f)<=(281474976710656:Int)/\i64.wrap (b+f)<=(9223372036854775807:Int))/\∃(I:Sz->Prop),∃(μ: _->Nat),I (d,d,List.replicate (i64.wrap (b+f)).toNat d,())/\∀(p:Sz),let g:=(p.2.2.1.length:Int);let e:=(List.set p.2.2.1 b.toNat (u32.wrap p.1));let a:=(u64.wrap (↑(BitVec.ofInt u64.bits p.1|||BitVec.ofInt u64.bits (u64.wrap (u64.wrap (gx d x.1 p.2.1)*(2:Int)^Min.min x.2.1.toNat u64.bits))).toNat:Int));let c:=(a.fdiv ((2:Int)^Min.min ((32:Int).toNat) u64.bits),i64.wrap (p.2.1+f),List.set p.2.2.1 p.2.1.toNat (u32.wrap a),());(Ty.int u64).wf p.1/\(Ty.int i64).wf p.2.1/\Ix p.2.2.1/\True->I p->(iB (decide (p.2.1<b)) ((d<=p.2.1/\p.2.1<b)/\(0:(Ty.int i64).den)<=x.2.1/\(d<=p.2.1/\p.2.1<g)/\(0:(Ty.int u64).den)<=(32:Int)/\I c/\μ c<μ p) ((d<=b/\b<g)/\e.length=x.1.length+(1:Nat)/\nv e=nv x.1*2^x.2.1.toNat))
def oD (v:Int) (_:0<=v):Int.fdiv v (2^Min.min (Int.toNat 32) u64.bits)=v/4294967296:=by
 rw[show Min.min (Int.toNat 32) u64.bits=32 from rfl,sI _ (by decide)];rfl
def B7q (v:Int) (_:0<=v):Int.fdiv v (2^Min.min (Int.toNat 63) u64.bits)=v/9223372036854775808:=by
 rw[show Min.min (Int.toNat 63) u64.bits=63 from rfl,sI _ (by decide)];rfl
def JB {v b:Int} {k:Nat} (v0:0<=v) (v1:v<2^k) (b0:0<=b) (hb:b*2^k<18446744073709551616) (u:v<18446744073709551616):(((BitVec.ofInt 64 (b*2^k) |||BitVec.ofInt 64 v).toNat:Nat):Int)=v+b*2^k:=by
 rw[BitVec.or_comm];exact UR v0 v1 b0 hb u
def JY (x:A2 Em.args) (hw:awf Em.args x) (hp:Em.pre x):AO x:=by
 obtain⟨a,b,_⟩:=x;have ha:A6 a:=A3 hw.1.2;have hb:A6 b:=A3 hw.2.1.2;change List Int at a b;obtain⟨la,lb⟩:a.length<=17592186044416/\b.length<=17592186044416:=hp;have n1:=C7 ha;have n2:=C7 hb;simp only[AO,iB,N2];refine⟨trivial, ?_⟩;rintro⟨r,_⟩ _ hr;refine⟨trivial, ?_⟩;rintro⟨s,_⟩ _ hs;simp only at hr hs⊢;subst hr hs;refine⟨fun p=>p.2.1.length<=p.1.length/\p.1.length<=17592186044416/\nv p.1+nv p.2.1=nv a+nv b,⟨fun h=> ?_,fun h=> ?_⟩, ?_⟩
 . have h:=qA h;refine⟨by show(nc (nv a)).length<=(nc (nv b)).length;omega,by show(nc (nv b)).length<= _;omega, ?_⟩;show nv (nc (nv b))+nv (nc (nv a))= _;rw[E7,E7,vY]
 . have h:=qB h;refine⟨by show(nc (nv b)).length<=(nc (nv a)).length;omega,by show(nc (nv a)).length<= _;omega, ?_⟩;show nv (nc (nv a))+nv (nc (nv b))= _;rw[E7,E7]
 rintro⟨P,Q,_⟩ ⟨a1,a2,_⟩ ⟨g1,g2,g3⟩;change List Int at P Q;simp only at g1 g2 g3⊢;have hP:A6 P:=A3 a1.2;have hQ:A6 Q:=A3 a2.2;rw[wv (a:=(P.length:Int)+1) (by omega)];refine⟨⟨by omega,qI _,by simp;omega,by omega⟩, ?_⟩;refine⟨fun p=>0<=p.2.1/\p.2.1<=(P.length:Int)/\0<=p.1/\p.1<=1/\p.2.2.1.length=P.length+1/\nv (p.2.2.1.take p.2.1.toNat)+4294967296^p.2.1.toNat*p.1.toNat=nv (P.take p.2.1.toNat)+nv (Q.take p.2.1.toNat),fun p=>((P.length:Int)-p.2.1).toNat,⟨qI _,qE _,qI _,by show(0:Int)<=1;omega,by rw[rI];omega,by simp[nv]⟩, ?_⟩;rintro⟨c,i,out,_⟩ ⟨_,_,a3,_⟩ ⟨u,h1,h2,h3,h4,h5⟩;change Int at c i;change List Int at out;simp only at u h1 h2 h3 h4 h5⊢;have dP:=L7 hP i.toNat;have dQ:=L7 hQ i.toNat;refine⟨fun h'=> ?_,fun h'=> ?_⟩
 . have h:i<(P.length:Int):=qA h';rw[Fi hP u h,W9 (a:=(dg P i.toNat:Int)) (by omega) (by omega),W9 (a:=c+(dg P i.toNat:Int)) (by omega) (by omega)];refine⟨⟨u,h⟩,fun p=>p.1=c+(dg P i.toNat:Int)+(dg Q i.toNat:Int),⟨fun hi=> ?_,fun hi=> ?_⟩, ?_⟩
   . have hi:=qA hi;refine⟨⟨u,hi⟩, ?_⟩;show u64.wrap _= _;rw[Fi hQ u hi,W9 (a:=(dg Q i.toNat:Int)) (by omega) (by omega),W9 (by omega) (by omega)]
   . have hi:=qB hi;show c+(dg P i.toNat:Int)= _;rw[Ps (l:=Q) (by omega)];omega
   rintro⟨c2,_⟩ _ a0;change Int at c2;simp only at a0⊢;subst a0;refine⟨⟨u,by omega⟩,by decide, ?_⟩;rw[oD _ (by omega),wv (by omega),Ca];refine⟨⟨by omega,by omega,by omega,by omega,by rw[qN];exact h4, ?_⟩,by omega⟩;rw[show(i+1).toNat=i.toNat+1 from by omega,R8 (by omega),H9 P,H9 Q,sC];exact aJ h5 (by omega)
 . have h:=qB h';refine⟨⟨by omega,by omega⟩,trivial, ?_⟩;rintro⟨r,_⟩ _ hr;simp only at hr⊢;rw[hr];congr 1;rw[show i.toNat=P.length from by omega,qV (rB P.length),qV g1]at h5;rw[qM,w32 (by omega) (by omega)];have e:=R8 (l:=out) (i:=P.length) (v:=c) (by omega);rw[qV (by rw[qN];omega)]at e;rw[e,h5,g3]
def KB (x:A2 Ep.args) (hw:awf Ep.args x) (hp:Ep.pre x):AS x:=by
 obtain⟨a,b,_⟩:=x;have ha:A6 a:=A3 hw.1.2;have hb:A6 b:=A3 hw.2.1.2;change List Int at a b;obtain⟨la,lb⟩:a.length<=17592186044416/\b.length<=17592186044416:=hp;have n1:=C7 ha;have n2:=C7 hb;simp only[AS,iB,N2,Cg];refine⟨trivial, ?_⟩;rintro⟨r,_⟩ _ hr;refine⟨trivial, ?_⟩;rintro⟨s,_⟩ _ hs;refine⟨trivial, ?_⟩;rintro⟨d,_⟩ _ hd;simp only at hr hs hd⊢;rw[hr,hs,E7,E7]at hd;subst hd;refine⟨fun h=> ?_,fun h=> ?_⟩
 . have h:=qA h;refine⟨fun _=>⟨by trivial,by trivial⟩,fun u=> ?_⟩;unfold Cm at h;rw[qL (by omega)]at h;split at h<;>omega
 . have h:=qB h;have u:nv b<=nv a:=by
    rcases sF (nv a) (nv b)with h1|h1
    . rw[Oi h1]at h;omega
    . exact h1
   have a1:A6 r:=hr▸I9 _;have a3:A6 s:=hs▸I9 _;have a2:nv r=nv a:=by rw[hr,E7]
   have a4:nv s=nv b:=by rw[hs,E7]
   have a8:r.length<=a.length:=by rw[hr];exact n1
   have a5:s.length<=r.length:=by rw[hr,hs];exact J3 u
   rw[<-a2, <-a4]at u⊢;clear hr hs a2 a4;refine⟨⟨by omega,qI _,by simp;omega,by omega⟩, ?_⟩;refine⟨fun p=>0<=p.2.1/\p.2.1<=(r.length:Int)/\0<=p.1/\p.1<=1/\p.2.2.1.length=r.length/\nv (r.take p.2.1.toNat)+4294967296^p.2.1.toNat*p.1.toNat=nv (p.2.2.1.take p.2.1.toNat)+nv (s.take p.2.1.toNat),fun p=>((r.length:Int)-p.2.1).toNat,⟨qI _,qE _,qI _,by show(0:Int)<=1;omega,by simp,by simp[nv]⟩, ?_⟩;rintro⟨c,i,out,_⟩ ⟨_,_,a6,_⟩ ⟨h0,h1,h2,h3,h4,h5⟩;change Int at c i;change List Int at out;simp only at h0 h1 h2 h3 h4 h5⊢;have ho:A6 out:=A3 a6.2;have da:=L7 a1 i.toNat;have db:=L7 a3 i.toNat;refine⟨fun h'=> ?_,fun h'=> ?_⟩
   . have h:i<(r.length:Int):=qA h';rw[Fi a1 h0 h,W9 (a:=(dg r i.toNat:Int)) (by omega) (by omega)];refine⟨⟨h0,h⟩,fun p=>p.1=((dg r i.toNat:Int)-c-(dg s i.toNat:Int))%18446744073709551616,⟨fun hi=> ?_,fun hi=> ?_⟩, ?_⟩
     . have hi:=qA hi;refine⟨⟨h0,hi⟩, ?_⟩;show u64.wrap _= _;rw[Fi a3 h0 hi,W9 (a:=(dg s i.toNat:Int)) (by omega) (by omega),Cb,Cb];omega
     . have hi:=qB hi;show u64.wrap _= _;rw[Ps (l:=s) (by omega),Cb];omega
     rintro⟨d,_⟩ _ hd;change Int at d;simp only at hd⊢;refine⟨⟨h0,by omega⟩,by decide, ?_⟩;rw[B7q _ (by omega),wv (by omega),Ca];refine⟨⟨by omega,by omega,by omega,by omega,by rw[qN];exact h4, ?_⟩,by omega⟩;rw[show(i+1).toNat=i.toNat+1 from by omega,R8 (by omega),H9 r,H9 s,sC];exact TY h5 (by omega)
   . have h:=qB h';refine⟨trivial, ?_⟩;rintro⟨q,_⟩ _ hq;simp only at hq⊢;refine⟨fun a7=>by omega,fun _=>⟨?_,by trivial⟩⟩;rw[hq];congr 1;rw[show i.toNat=r.length from by omega,qV (rB _),qV (by omega),qV a5]at h5;have a0:nv out<4294967296^out.length:=Gd ho;rw[h4]at a0;have hc:c.toNat=0:=FR (P:=4294967296^r.length) (x:=nv out) (by omega) a0;rw[hc,wK,tD]at h5;omega
def KA (x:A2 Eo.args) (hw:awf Eo.args x) (hp:Eo.pre x):AR x:=by
 obtain⟨a0,b0,_⟩:=x;have a6:A6 a0:=A3 hw.1.2;have hb0:A6 b0:=A3 hw.2.1.2;change List Int at a0 b0;obtain⟨aa,ab⟩:a0.length<=17592186044416/\b0.length<=17592186044416:=hp;have n1:=C7 a6;have n2:=C7 hb0;simp only[AR,iB,N2];refine⟨trivial, ?_⟩;rintro⟨a,_⟩ _ u;refine⟨trivial, ?_⟩;rintro⟨b,_⟩ _ a1;simp only at u a1⊢;have ha:A6 a:=u▸I9 _;have hb:A6 b:=a1▸I9 _;have la:a.length<=17592186044416:=by rw[u];omega
 have lb:b.length<=17592186044416:=by rw[a1];omega
 have va:nv a=nv a0:=by rw[u,E7]
 have vb:nv b=nv b0:=by rw[a1,E7]
 rw[<-va, <-vb];clear u a1 va vb n1 n2;refine⟨fun h=> ?_,fun _=> ?_⟩
 . rw[J1]at h;simp only[uI,rY]at h;have:nv a*nv b=0:=by
    rcases h with h|h
    . rw[qO (l:=a) (by omega)];simp[nv]
    . rw[qO (l:=b) (by omega)];simp[nv]
   rw[this,O3]
 have em:i64.wrap ((a.length:Int)+(b.length:Int))=((a.length+b.length:Nat):Int):=by
  rw[wv (by omega)];omega
 rw[em];refine⟨⟨by omega,qI _,by simp;omega,by omega⟩, ?_⟩;refine⟨fun p=>0<=p.1/\p.1<=(a.length:Int)/\p.2.1.length=a.length+b.length/\nv p.2.1=nv (a.take p.1.toNat)*nv b/\∀j,p.1.toNat+b.length<=j->dg p.2.1 j=0,fun p=>((a.length:Int)-p.1).toNat,⟨qI _,qE _,by rw[rI,qM],by simp[nv,Rs],fun j _=>IJ _ _⟩, ?_⟩;rintro⟨i,out,_⟩ ⟨_,a9,_⟩ ⟨h0,h1,h2,h3,h4⟩;change Int at i;change List Int at out;simp only at h0 h1 h2 h3 h4⊢;refine⟨fun h'=> ?_,fun h'=> ?_⟩
 . have h:i<(a.length:Int):=qA h';have da:=L7 ha i.toNat;rw[Fi ha h0 h];refine⟨fun p=>p.1.length=a.length+b.length/\nv p.1=nv (a.take (i.toNat+1))*nv b/\∀j,i.toNat+1+b.length<=j->dg p.1 j=0,⟨⟨h0,h⟩,fun hz=> ?_,fun hz=> ?_⟩, ?_⟩
   . have hz:(dg a i.toNat:Int)=0:=qA hz;refine⟨h2, ?_,fun j hj=>h4 j (by omega)⟩;show nv out= _;rw[h3,H9,show dg a i.toNat=0 from by omega,wK,tD]
   . refine⟨fun p=>0<=p.2.1/\p.2.1<=(b.length:Int)/\0<=p.1/\p.1<=4294967295/\p.2.2.1.length=a.length+b.length/\nv p.2.2.1+4294967296^(i.toNat+p.2.1.toNat)*p.1.toNat=nv out+4294967296^i.toNat*(dg a i.toNat*nv (b.take p.2.1.toNat))/\∀j,i.toNat+b.length<=j->dg p.2.2.1 j=0,fun p=>((b.length:Int)-p.2.1).toNat,⟨qI _,qE _,qI _,by show(0:Int)<=4294967295;omega,h2,by simp[nv],h4⟩, ?_⟩;rintro⟨c,j,o,_⟩ ⟨_,_,a4,_⟩ ⟨g0,g1,g2,g3,g4,g5,g6⟩;change Int at c j;change List Int at o;simp only at g0 g1 g2 g3 g4 g5 g6⊢;have a3:A6 o:=A3 a4.2;refine⟨fun a2=> ?_,fun a2=> ?_⟩
     . have hj:j<(b.length:Int):=qA a2;have db:=L7 hb j.toNat;rw[wv (a:=i+j) (by omega)];refine⟨⟨g0,hj⟩,⟨by omega,by omega⟩,⟨by omega,by omega⟩,by decide, ?_⟩;rw[Fi hb g0 hj,Y0 a3,show(i+j).toNat=i.toNat+j.toNat from by omega];have dk:=L7 a3 (i.toNat+j.toNat);have hm:dg a i.toNat*dg b j.toNat<=4294967295*4294967295:=yO da db;have a8:(dg a i.toNat:Int)*(dg b j.toNat:Int)=((dg a i.toNat*dg b j.toNat:Nat):Int):=(uJ _ _).symm;rw[W9 (a:=(dg a i.toNat:Int)) (by omega) (by omega),W9 (a:=(dg b j.toNat:Int)) (by omega) (by omega),W9 (a:=(dg o (i.toNat+j.toNat):Int)) (by omega) (by omega),a8];generalize a5:dg a i.toNat*dg b j.toNat=M at hm;rw[W9 (a:=(M:Int)) (by omega) (by omega),W9 (a:=(M:Int)+(dg o (i.toNat+j.toNat):Int)) (by omega) (by omega),W9 (by omega) (by omega),oD _ (by omega),wv (by omega),Ca];refine⟨⟨by omega,by omega,by omega,by omega,by rw[qN];exact g4, ?_,fun q hq=> ?_⟩,by omega⟩
       . have hs:=Jy (l:=o) (k:=i.toNat+j.toNat) (v:=(c+((M:Int)+(dg o (i.toNat+j.toNat):Int)))%4294967296) (by omega);rw[show(j+1).toNat=j.toNat+1 from by omega,H9 b, <-uH i.toNat,sC,sZ (dg a i.toNat)];have e1:dg a i.toNat*(4294967296^j.toNat*dg b j.toNat)=4294967296^j.toNat*M:=by rw[<-a5,zR]
         rw[e1,sZ (4294967296^i.toNat), <-sO (4294967296^i.toNat) (4294967296^j.toNat), <-uV, <-uH (nv out), <-g5];generalize 4294967296^(i.toNat+j.toNat)=P at*;have hd:((c+((M:Int)+(dg o (i.toNat+j.toNat):Int)))%4294967296).toNat+4294967296*((c+((M:Int)+(dg o (i.toNat+j.toNat):Int)))/4294967296).toNat=c.toNat+dg o (i.toNat+j.toNat)+M:=by omega
         have a7:=tT (P* ·) hd;simp only[sZ, <-sO]at a7;omega
       . rw[Yo (by omega),qL (by omega)];exact g6 q hq
     . have hj:=qB a2;rw[wv (a:=i+(b.length:Int)) (by omega),w32 g2 g3];refine⟨⟨by omega,by omega⟩,⟨by show(o.set _ _).length= _;rw[qN];exact g4, ?_,fun q hq=> ?_⟩⟩
       . show nv (o.set _ _)= _;have hs:=Jy (l:=o) (k:=(i+(b.length:Int)).toNat) (v:=c) (by omega);rw[g6 _ (by omega),wK,tD]at hs;rw[hs,show(i+(b.length:Int)).toNat=i.toNat+b.length from by omega];rw[show j.toNat=b.length from by omega,qV (rB b.length)]at g5;rw[g5,H9,uP,h3,sO]
       . show dg (o.set _ _) q=0;rw[Yo (by omega),qL (by omega)];exact g6 q (by omega)
   . rintro⟨o,_⟩ _ ⟨k1,k2,k3⟩;simp only at k1 k2 k3⊢;rw[wv (by omega),show(i+1).toNat=i.toNat+1 from by omega];exact⟨⟨by omega,by omega,k1,k2,k3⟩,by omega⟩
 . have h:=qB h';refine⟨trivial, ?_⟩;rintro⟨r,_⟩ _ hr;simp only at hr⊢;rw[hr,h3,qV (by omega)]
def Nl (x:A2 L9.args) (hw:awf L9.args x) (hp:L9.pre x):Fp x:=by
 obtain⟨l,d,_⟩:=x;have hl:A6 l:=A3 hw.1.2;change List Int at l;change Int at d;have hd:u32.min<=d/\d<=u32.max:=hw.2.1;rw[QY,QX]at hd;obtain⟨ll,d0⟩:l.length<=17592186044416/\d≠0:=hp;simp only[Fp,iB,N2];have wd:u64.wrap d=d:=W9 (by omega) (by omega);rw[wd,wv (a:=(l.length:Int)-1) (by omega)];refine⟨⟨by omega,qI _,by simp;omega,by omega⟩, ?_⟩;refine⟨fun p=> -1<=p.2.1/\p.2.1<(l.length:Int)/\0<=p.1/\p.1<d/\p.2.2.1.length=l.length/\nv (l.drop (p.2.1+1).toNat)=nv (p.2.2.1.drop (p.2.1+1).toNat)*d.toNat+p.1.toNat,fun p=>(p.2.1+1).toNat,⟨by show(-1:Int)<=(l.length:Int)-1;omega,by show(l.length:Int)-1< _;omega,qI _,by show(0:Int)<d;omega,by simp, ?_⟩, ?_⟩
 . show nv (l.drop ((l.length:Int)-1+1).toNat)=nv ((List.replicate _ 0).drop ((l.length:Int)-1+1).toNat)* _ + _;rw[sE (by omega),sE (by rw[rI];omega)];simp[nv]
 rintro⟨rest,i,q,_⟩ _ ⟨h0,h1,h2,h3,h4,h5⟩;change Int at rest i;change List Int at q;simp only at h0 h1 h2 h3 h4 h5⊢;refine⟨fun h'=> ?_,fun h'=> ?_⟩
 . have h:0<=i:=qA h';have a0:=Uk hl h h1;have a4:=V7 (l:=l) h h1;rw[show Min.min (Int.toNat 32) u64.bits=32 from rfl];generalize gx 0 l i=b at*;have e1:u64.wrap (rest*2^32)=rest*2^32:=W9 (by omega) (by omega);have e2:u64.wrap b=b:=W9 (by omega) (by omega);have e3:(((BitVec.ofInt u64.bits (rest*2^32) |||BitVec.ofInt u64.bits b).toNat:Nat):Int)=b+rest*4294967296:=JB (v:=b) (b:=rest) (k:=32) a0.1 (by omega) h2 (by omega) (by omega);rw[e1,e2,e3,W9 (a:=b+rest*4294967296) (by omega) (by omega),wv (a:=i-1) (by omega)];have a1:0<=b+rest*4294967296:=by omega
   rw[tW a1,IntWalk.u64_quo _ _ ⟨a1,by omega,by omega⟩];have a2:=g0d a1 (show 0<=d by omega);have a7:(b+rest*4294967296)/d<4294967296:=by
    rw[g1x (by omega)];have:(rest+1)*4294967296<=d*4294967296:=sJ (by omega) (by decide);omega
   have a3:=g2d (b+rest*4294967296) d0;have a6:=zD (b+rest*4294967296) (b:=d) (by omega);have a8:=yG (b+rest*4294967296) d;rw[w32 a2 (by omega)];generalize (b+rest*4294967296)/d=qi at*;generalize (b+rest*4294967296)%d=ri at*;refine⟨by decide,⟨h,h1⟩,d0,⟨h,by omega⟩,d0,⟨by omega,by omega,a3,a6,by rw[qN];exact h4, ?_⟩,by omega⟩;rw[show i-1+1=i from by omega,a4];have a5:(q.set i.toNat qi).drop i.toNat=qi::q.drop (i+1).toNat:=by
    have u:i.toNat<q.length:=by omega
    rw[xG (by rw[qN];exact u),List.getElem_set_self,yU (by omega),show(i+1).toNat=i.toNat+1 from by omega]
   rw[a5];simp only[nv];rw[h5];have hz:(b.toNat:Int)+4294967296*rest.toNat=qi.toNat*d.toNat+ri.toNat:=by
    rw[sP a0.1,sP h2,sP a2,sP (show 0<=d by omega),sP a3,g1z qi];omega
   have a9:b.toNat+4294967296*rest.toNat=qi.toNat*d.toNat+ri.toNat:=by
    have:((b.toNat+4294967296*rest.toNat:Nat):Int)=((qi.toNat*d.toNat+ri.toNat:Nat):Int):=by
     rw[wS,wS,uJ,uJ];exact hz
    exact g1j this
   rw[sZ, <-sO,uP];omega
 . have h:¬0<=i:=qB h';rw[show(i+1).toNat=0 from by omega,tX,tX]at h5;refine⟨trivial, ?_⟩;rintro⟨r,_⟩ _ hr;refine⟨trivial, ?_⟩;rintro⟨s,_⟩ _ hs;simp only at hr hs⊢;have u:rest.toNat<d.toNat:=by omega
   rw[tG]at h5;rw[hr,hs,h5,g2g,tS u,g2f (by omega),uB u,tD];exact⟨rfl,rfl⟩
def Xu (x:A2 P7.args) (hw:awf P7.args x) (hp:P7.pre x):Nn x:=by
 obtain⟨l,s,_⟩:=x;have hl:A6 l:=A3 hw.1.2;change List Int at l;change Int at s;obtain⟨ll,s0,s1⟩:l.length<=17592186044416/\0<=s/\s<=31:=hp;simp only[Nn,iB];rw[wv (a:=(l.length:Int)+1) (by omega)];refine⟨⟨by omega,qI _,by simp;omega,by omega⟩, ?_⟩;have hsp:(2:Nat)^s.toNat<=2^31:=rX (by decide) (by omega);have a3:0<(2:Nat)^s.toNat:=tP (by decide);have u:((2:Int)^s.toNat)=((2^s.toNat:Nat):Int):=by rw[xH];rfl
 refine⟨fun p=>0<=p.2.1/\p.2.1<=(l.length:Int)/\0<=p.1/\p.1<2^s.toNat/\p.2.2.1.length=l.length+1/\nv (p.2.2.1.take p.2.1.toNat)+4294967296^p.2.1.toNat*p.1.toNat=nv (l.take p.2.1.toNat)*2^s.toNat,fun p=>((l.length:Int)-p.2.1).toNat,⟨qI _,qE _,qI _,by show(0:Int)<2^s.toNat;rw[u];omega,by rw[rI];omega,by simp[nv]⟩, ?_⟩;rintro⟨c,i,out,_⟩ ⟨_,_,a4,_⟩ ⟨h0,h1,h2,h3,h4,h5⟩;change Int at c i;change List Int at out;simp only at h0 h1 h2 h3 h4 h5⊢;have hc:c<((2^s.toNat:Nat):Int):=by rw[<-u];exact h3
 refine⟨fun h'=> ?_,fun h'=> ?_⟩
 . have h:i<(l.length:Int):=qA h';have dl:=L7 hl i.toNat;have a0:Min.min (Int.toNat s) u64.bits=s.toNat:=by show Min.min (Int.toNat s) 64= _;omega
   rw[Fi hl h0 h,a0,u];have e0:(dg l i.toNat:Int)*((2^s.toNat:Nat):Int)=((dg l i.toNat*2^s.toNat:Nat):Int):=(uJ _ _).symm;have hm:dg l i.toNat*2^s.toNat<=4294967295*2^s.toNat:=rM _ dl;have e3:(((BitVec.ofInt u64.bits c|||BitVec.ofInt u64.bits ((dg l i.toNat*2^s.toNat:Nat):Int)).toNat:Nat):Int)=c+((dg l i.toNat*2^s.toNat:Nat):Int):=by
    have:=UR (v:=c) (b:=(dg l i.toNat:Int)) (k:=s.toNat) h2 h3 (by omega) (by rw[u,e0];omega) (by omega);rw[u,e0]at this;exact this
   rw[W9 (a:=(dg l i.toNat:Int)) (by omega) (by omega),e0,W9 (a:=((dg l i.toNat*2^s.toNat:Nat):Int)) (by omega) (by omega),e3,W9 (by omega) (by omega),oD _ (by omega),wv (by omega),Ca];generalize a1:dg l i.toNat*2^s.toNat=M at*;refine⟨⟨h0,h⟩,s0,⟨h0,by omega⟩,by decide,⟨by omega,by omega,by omega, ?_,by rw[qN];exact h4, ?_⟩,by omega⟩
   . generalize 2^s.toNat=T at*;omega
   . rw[show(i+1).toNat=i.toNat+1 from by omega,R8 (by omega),H9 l,sC,uP, <-h5,sO (4294967296^i.toNat) (dg l i.toNat),a1];generalize 4294967296^i.toNat=P at*;have hd:((c+(M:Int))%4294967296).toNat+4294967296*((c+(M:Int))/4294967296).toNat=c.toNat+M:=by omega
     have a2:=tT (P* ·) hd;simp only[sZ, <-sO]at a2;omega
 . have h:¬i<(l.length:Int):=qB h';rw[qM,w32 (by omega) (by omega)];refine⟨⟨by omega,by omega⟩,by rw[qN];exact h4, ?_⟩;have e:=R8 (l:=out) (i:=l.length) (v:=c) (by omega);rw[qV (by rw[qN];omega)]at e;rw[show i.toNat=l.length from by omega,qV (rB l.length)]at h5;rw[e,h5]
def Qs (x:A2 L3.args) (hw:awf L3.args x) (hp:L3.pre x):Hr x:=by
 obtain⟨a,n,_⟩:=x;have ha:A6 a:=A3 hw.1.2;have hn:=(show i64.min<=n/\n<=i64.max from hw.2.1);rw[Ug,CB]at hn;change List Int at a;change Int at n;have la:a.length<=17592186044416:=hp;have n1:=C7 ha;have a3: -9223372036854775808<=n/\n<=9223372036854775807:=hn;simp only[Hr,iB,N2];refine⟨fun h=> ?_,fun h=>⟨trivial, ?_⟩⟩
 . have h:=qA h;exact⟨fun _=>⟨by trivial,by trivial⟩,fun h1=>by omega⟩
 have h:=qB h;have n0:0<=n:=by omega
 rintro⟨r,_⟩ _ hr;simp only at hr⊢;have e1:i64.wrap (Int.tdiv n 32)=((n.toNat/32:Nat):Int):=by
  rw[yN n0,wv (by omega)];omega
 have e2:(Int.tmod n 32).toNat=n.toNat%32:=by rw[tW n0];omega
 have e3:(0:Int)<=Int.tmod n 32:=zA _ n0;have e4:n.toNat=32*(n.toNat/32)+n.toNat%32:=by omega
 have e5:n.toNat%32<=31:=by omega
 have e6:Min.min (n.toNat%32) u64.bits=n.toNat%32:=by show Min.min (n.toNat%32) 64= _;omega
 rw[e1,e2,e6];have a2:nv r=nv a:=by rw[hr,E7]
 have a1:A6 r:=hr▸I9 _;have a4:r.length<=a.length:=by rw[hr];exact n1
 have a0:=aZ (l:=r) a1 (k:=n.toNat/32) (s:=n.toNat%32);rw[<-e4,a2]at a0;clear e1 e2 e6;refine⟨by decide,fun h1=> ?_,fun h1=> ?_⟩
 . have h1:=qA h1;refine⟨fun u=>by omega,fun _=>⟨?_,by trivial⟩⟩;rw[a0,sE (by omega),dS,g4c,O3]
 . have h1:=qB h1;rw[a0];rw[show(((n.toNat/32:Nat):Int)).toNat=n.toNat/32 from qM _,show((r.length:Int)).toNat=r.length from qM _,qV (rB _)];have ht:A6 (r.drop (n.toNat/32)):=fun y hy=>a1 y (vF hy)
   have a5:(r.drop (n.toNat/32)).length<=r.length:=by rw[sN];omega
   refine⟨by decide,⟨by omega,by omega,qI _⟩,by decide,⟨by omega,qI _,by omega,by omega⟩, ?_⟩;clear a0 e4;generalize r.drop (n.toNat/32)=t at*;generalize n.toNat%32=s at*;have hX:nv t/2^s<4294967296^t.length:=xZ (wU _ _) (Gd ht);refine⟨fun p=>0<=p.1/\p.1<=(t.length:Int)/\p.2.1.length=t.length/\nv (p.2.1.take p.1.toNat)=nv t/2^s%4294967296^p.1.toNat,fun p=>((t.length:Int)-p.1).toNat,⟨qI _,qE _,by simp,by simp[nv];omega⟩, ?_⟩;rintro⟨i,out,_⟩ ⟨_,a6,_⟩ ⟨i0,i1,ol,hv⟩;change Int at i;change List Int at out;simp only at i0 i1 ol hv⊢;have d1:=L7 ht i.toNat;have d2:=L7 ht (i.toNat+1);refine⟨fun u=> ?_,fun u=> ?_⟩
   . have u:=qA u;rw[wv (a:=i+1) (by omega)];refine⟨⟨i0,u⟩,fun p=>p.1=((dg t i.toNat+dg t (i.toNat+1)*4294967296:Nat):Int),⟨fun h3=> ?_,fun h3=> ?_⟩, ?_⟩
     . have h3:=qA h3;refine⟨⟨by omega,h3⟩,by decide, ?_⟩;show u64.wrap _= _;rw[Fi ht i0 u,Fi ht (by omega) h3,show(i+1).toNat=i.toNat+1 from by omega];rw[show Min.min (Int.toNat 32) u64.bits=32 from rfl];rw[W9 (a:=(dg t i.toNat:Int)) (by omega) (by omega),W9 (a:=(dg t (i.toNat+1):Int)) (by omega) (by omega),W9 (a:=(dg t (i.toNat+1):Int)*2^32) (by omega) (by omega)];have:=UR (v:=(dg t i.toNat:Int)) (b:=(dg t (i.toNat+1):Int)) (k:=32) (by omega) (by omega) (by omega) (by omega) (by omega);rw[show u64.bits=64 from rfl,this,W9 (by omega) (by omega)];omega
     . have h3:=qB h3;show u64.wrap _= _;rw[Fi ht i0 u,W9 (by omega) (by omega),Ps (i:=i.toNat+1) (by omega)];omega
     rintro⟨w,_⟩ _ hW;simp only at hW⊢;refine⟨e3,⟨i0,by omega⟩,⟨by omega,by omega,by rw[qN];exact ol, ?_⟩,by omega⟩;rw[show(i+1).toNat=i.toNat+1 from by omega,R8 (by omega),hv,sC,Nat.mod_mul,A3q ht _ e5];congr 2;rw[hW,Ca];have:Int.fdiv ((dg t i.toNat+dg t (i.toNat+1)*4294967296:Nat):Int) (2^s)=(((dg t i.toNat+dg t (i.toNat+1)*4294967296)/2^s:Nat):Int):=by
      rw[show((2:Int)^s)=((2^s:Nat):Int)from by rw[xH];rfl,sI _ (qE _)];rfl
     rw[this];generalize (dg t i.toNat+dg t (i.toNat+1)*4294967296)/2^s=Z;omega
   . have u:=qB u;refine⟨trivial, ?_⟩;rintro⟨q,_⟩ _ hq;simp only at hq⊢;refine⟨fun h=>by omega,fun _=>⟨?_,by trivial⟩⟩;rw[show i.toNat=t.length from by omega,qV (by omega),tS hX]at hv;rw[hq,hv]
def XE:An:= {join:= [(4,⟨[],[],[(0,false,[.val (.int .u32)]),(2,false,vI)],[],[]⟩),(7,⟨[],[],[(0,false,[.val (.int .u32)]),(2,false,vI)],[],[]⟩)]}
def Tp:An:= {}
def DC:An:= {}
def HW:An:= {plan:= [(2,[],[],true,(pZ9 0 3 (pZ9 5 3 (.p 10 (pZ9 12 3 (.p 16 (.p 17 (.e 3 (.p 4 (.e 8 (.p 9 (.p 11 (.e 15 (pZ9 18 3 .done))))))))))))))]}
def FM:An:= {loop:= [(7,⟨[4],[0],[(7,false,vU),(8,false,vU),(9,false,vU),(10,false,vU),(11,false,vU),(12,false,vU),(13,false,vU),(14,false,vU),(15,false,[.val .bool])],[],[]⟩)],plan:= [(9,[],[],true,(pZ9 0 6 .done))]}
def FL:An:= {}
def Ds:ByteArray:=ByteArray.mk (([(0:UInt8),1,2,2,3,3,3,3,4,4,4,4,4,4,4,4,5,5,5,5,5,5,5,5,5,5,5,5,5,5,5,5,6,6,6,6,6,6,6,6,6,6,6,6,6,6,6,6,6,6,6,6,6,6,6,6,6,6,6,6,6,6,6,6].append [(7:UInt8),7,7,7,7,7,7,7,7,7,7,7,7,7,7,7,7,7,7,7,7,7,7,7,7,7,7,7,7,7,7,7,7,7,7,7,7,7,7,7,7,7,7,7,7,7,7,7,7,7,7,7,7,7,7,7,7,7,7,7,7,7,7,7]).append ([(8:UInt8),8,8,8,8,8,8,8,8,8,8,8,8,8,8,8,8,8,8,8,8,8,8,8,8,8,8,8,8,8,8,8,8,8,8,8,8,8,8,8,8,8,8,8,8,8,8,8,8,8,8,8,8,8,8,8,8,8,8,8,8,8,8,8].append [(8:UInt8),8,8,8,8,8,8,8,8,8,8,8,8,8,8,8,8,8,8,8,8,8,8,8,8,8,8,8,8,8,8,8,8,8,8,8,8,8,8,8,8,8,8,8,8,8,8,8,8,8,8,8,8,8,8,8,8,8,8,8,8,8,8,8])).toArray
def EY:A2 Gm.args->Prop:=fun(x:C5)=>∃(J:Ce->Prop),((iB (decide (65536<=x.1)) ((0:(Ty.int u64).den)<=(16:Int)/\J (Int.fdiv x.1 ((2:Int)^Min.min ((16:Int).toNat) u32.bits),(16:Int),())) (J (x.1,(0:Int),()))))/\∀(p:Ce),(Ty.int u32).wf p.1/\(Ty.int i64).wf p.2.1/\True->J p->∃(J:Ce->Prop),((iB (decide (256<=p.1)) ((0:(Ty.int u64).den)<=(8:Int)/\J (Int.fdiv p.1 ((2:Int)^Min.min ((8:Int).toNat) u32.bits),i64.wrap (p.2.1+8),())) (J (p.1,p.2.1,()))))/\∀(p:Ce),(Ty.int u32).wf p.1/\(Ty.int i64).wf p.2.1/\True->J p->((0:Int)<=IntKind.u8.wrap p.1/\IntKind.u8.wrap p.1<(↑(Ds).data.toList.length:Int))/\i64.wrap (p.2.1+i64.wrap (FP (Ds) (IntKind.u8.wrap p.1)))=(↑(J6 x.1.toNat):Int)
def Gy:A2 J5.args->Prop:=fun(x:C5)=>True/\Cg fun r=>r.1=(↑(J6 x.1.toNat):Int)->i64.wrap (32-r.1)=(32:Int)-(↑(J6 x.1.toNat):Int)
def Kl:A2 T9.args->Prop:=fun(x:NA)=>let c:=(↑x.2.1.length:Int);let b:=(0:Int);let a:=(x.2.1.length:Int);(iB (decide (x.1<a)) ((b<=x.1/\x.1<a)/\u64.wrap (gx b x.2.1 x.1)=if x.1<c then x.2.1.getD x.1.toNat b else b) (b=if x.1<c then x.2.1.getD x.1.toNat b else b))
def Pf:A2 Z9.args->Prop:=fun(x:List Int×Int×Int×Unit)=>let d:=(32:Int);let c:=(2:Int);let b:=(x.1.length:Int);let a:=(0:Int);a<=i64.wrap (x.2.1-1)/\oA fun r=>(r.1=if i64.wrap (x.2.1-1)<b then List.getD x.1 (i64.wrap (x.2.1-1)).toNat a else a)->(0:(Ty.int u64).den)<=d/\a<=i64.wrap (x.2.1-c)/\oA fun e=>(e.1=if i64.wrap (x.2.1-c)<b then List.getD x.1 (i64.wrap (x.2.1-c)).toNat a else a)->(0:(Ty.int i64).den)<=x.2.2.1/\a<=i64.wrap (x.2.1-3)/\oA fun f=>(f.1=if i64.wrap (x.2.1-3)<b then List.getD x.1 (i64.wrap (x.2.1-3)).toNat a else a)->(0:(Ty.int i64).den)<=i64.wrap (d-x.2.2.1)/\u64.wrap (↑(BitVec.ofInt u64.bits (u64.wrap (u64.wrap (↑(BitVec.ofInt u64.bits (u64.wrap (r.1*c^Min.min d.toNat u64.bits)) |||BitVec.ofInt u64.bits e.1).toNat:Int)*c^Min.min x.2.2.1.toNat u64.bits)) |||BitVec.ofInt u64.bits (Int.fdiv f.1 (c^Min.min (i64.wrap (d-x.2.2.1)).toNat u64.bits))).toNat:Int)=(↑(nv x.1*2^x.2.2.1.toNat/(4294967296:Nat)^(x.2.1.toNat-(2:Nat))):Int)
abbrev C0v:=Int×Int×Int×Int×Int×Int×Int×Int×Bool×Unit
def Nm:A2 W7.args->Prop:=fun(x:Ev)=>let k:=(17592186044416:Int);let j:=(2:Nat);let i:=(1:Int);let h:=(4294967296:Nat);let f:=(↑(nv x.1):Int);let e:=(↑(nv x.2.1):Int);let d:=(0:Int);let b:=(x.1.length:Int);(d<=i64.wrap (b-i)/\i64.wrap (b-i)<b)/\True/\Cg fun r=>r.1=32-(↑(J6 (gx d x.1 (i64.wrap (b-i))).toNat):Int)->((3:Int)<=b/\b<=b/\b<=k/\d<=r.1/\r.1<=31/\nv x.1*j^Int.toNat r.1<h^b.toNat)/\oA fun l=>l.1=(↑(nv x.1*j^Int.toNat r.1/h^(b.toNat-j)):Int)->((3:Int)<=b/\(x.2.1.length:Int)<=b/\b<=k/\d<=r.1/\r.1<=31/\nv x.2.1*j^Int.toNat r.1<h^b.toNat)/\oA fun m=>m.1=(↑(nv x.2.1*j^Int.toNat r.1/h^(b.toNat-j)):Int)->∃(I:C0v->Prop),∃(μ: _->Nat),I (l.1,m.1,d,i,d,d,d,i,false,())/\∀(p:C0v),let g:=(decide (p.2.2.2.2.2.2.2.1<=p.2.1));let c:=(decide (u64.wrap (p.2.2.2.2.2.2.1+p.2.2.2.2.2.2.2.1)<=u64.wrap (p.1-p.2.1)));let a:=(p.2.1,Int.tmod p.1 p.2.1,p.2.2.2.1,p.2.2.2.2.1,u64.wrap (p.2.2.2.1+u64.wrap (u64.wrap (Int.tdiv p.1 p.2.1)*p.2.2.2.2.1)),p.2.2.2.2.2.2.1,p.2.2.2.2.2.2.2.1,u64.wrap (p.2.2.2.2.2.2.1+u64.wrap (u64.wrap (Int.tdiv p.1 p.2.1)*p.2.2.2.2.2.2.2.1)), !p.2.2.2.2.2.2.2.2.1,());(Ty.int u64).wf p.1/\(Ty.int u64).wf p.2.1/\(Ty.int u64).wf p.2.2.1/\(Ty.int u64).wf p.2.2.2.1/\(Ty.int u64).wf p.2.2.2.2.1/\(Ty.int u64).wf p.2.2.2.2.2.1/\(Ty.int u64).wf p.2.2.2.2.2.2.1/\(Ty.int u64).wf p.2.2.2.2.2.2.2.1/\Ty.bool.wf p.2.2.2.2.2.2.2.2.1/\True->I p->(iB (K8 g c false) (p.2.1≠d/\p.2.1≠d/\I a/\μ a<μ p) (p.2.2.2.2.2.1=d\/∃(A':Int),∃(B':Int),(A'=if p.2.2.2.2.2.2.2.2.1=true then p.2.2.1*f-p.2.2.2.2.2.1*e else p.2.2.2.2.2.1*e-p.2.2.1*f)/\(B'=if p.2.2.2.2.2.2.2.2.1=true then p.2.2.2.2.2.2.1*e-p.2.2.2.1*f else p.2.2.2.1*f-p.2.2.2.2.2.2.1*e)/\d<=B'/\B'<=A'/\f=p.2.2.2.2.2.2.1*A'+p.2.2.2.2.2.1*B'/\e=p.2.2.2.1*A'+p.2.2.1*B'/\i<=p.2.2.2.2.2.1/\i<=p.2.2.2.2.2.2.1/\d<=p.2.2.1/\d<=p.2.2.2.1))
abbrev oP:=List Int×Bool×Unit
def Nk:A2 W6.args->Prop:=fun(x:List Int×Int×List Int×Int×Unit)=>True/\N2 fun r=>r.1=nc x.2.1.toNat->(D6 x.1/\D6 r.1)/\N2 fun a=>a.1=nc (nv x.1*nv r.1)->True/\N2 fun r=>r.1=nc x.2.2.2.1.toNat->(D6 x.2.2.1/\D6 r.1)/\N2 fun b=>b.1=nc (nv x.2.2.1*nv r.1)->(D6 a.1/\D6 b.1)/\∀(r:oP),Ix r.1/\True/\True->(nv a.1<nv b.1->r.1= []/\r.2.1=false)/\(nv b.1<=nv a.1->r.1=nc (nv a.1-nv b.1)/\r.2.1=true)->r.1=nc (nv x.1*x.2.1.toNat-nv x.2.2.1*x.2.2.2.1.toNat)
def B7t:∀k:Fin 256,FP Ds (k.val:Int)=(J6 k.val:Int):=by decide+kernel
def NE (x:A2 Gm.args) (hw:awf Gm.args x) (_:Gm.pre x):EY x:=by
 obtain⟨v,_⟩:=x;change Int at v;have hv:=(show u32.min<=v/\v<=u32.max from hw.1);rw[QY,QX]at hv;simp only[EY,iB];have a1:Int.fdiv v (2^Min.min (Int.toNat 16) u32.bits)=v/65536:=by
  rw[show Min.min (Int.toNat 16) u32.bits=16 from rfl,sI _ (by decide)];rfl
 rw[a1];refine⟨fun p=>0<=p.1/\p.1<65536/\0<=p.2.1/\p.2.1<=16/\(J6 v.toNat:Int)=J6 p.1.toNat+p.2.1,⟨fun h=> ?_,fun h=> ?_⟩, ?_⟩
 . have h:=qA h;have e:=IF (n:=v.toNat) (k:=16) (by omega);refine⟨by decide,by show(0:Int)<=v/65536;omega,by show v/65536<65536;omega,by show(0:Int)<=16;omega,by show(16:Int)<=16;omega, ?_⟩;show(J6 v.toNat:Int)=J6 (v/65536).toNat+16;rw[e,show(v/65536).toNat=v.toNat/2^16 from by omega];omega
 . have h:=qB h;refine⟨by show(0:Int)<=v;omega,by show v<65536;omega,by show(0:Int)<=0;omega,by show(0:Int)<=16;omega, ?_⟩;show(J6 v.toNat:Int)=J6 v.toNat+0;omega
 rintro⟨w,n,_⟩ _ ⟨h0,h1,h2,h3,h4⟩;change Int at w n;simp only at h0 h1 h2 h3 h4⊢;have f8:Int.fdiv w (2^Min.min (Int.toNat 8) u32.bits)=w/256:=by
  rw[show Min.min (Int.toNat 8) u32.bits=8 from rfl,sI _ (by decide)];rfl
 rw[f8,wv (a:=n+8) (by omega)];refine⟨fun p=>0<=p.1/\p.1<256/\0<=p.2.1/\p.2.1<=24/\(J6 v.toNat:Int)=J6 p.1.toNat+p.2.1,⟨fun h=> ?_,fun h=> ?_⟩, ?_⟩
 . have h:=qA h;have e:=IF (n:=w.toNat) (k:=8) (by omega);refine⟨by decide,by show(0:Int)<=w/256;omega,by show w/256<256;omega,by show 0<=n+8;omega,by show n+8<=24;omega, ?_⟩;show(J6 v.toNat:Int)=J6 (w/256).toNat+(n+8);rw[h4,e,show(w/256).toNat=w.toNat/2^8 from by omega];omega
 . have h:=qB h;exact⟨h0,by show w<256;omega,h2,by show n<=24;omega,h4⟩
 rintro⟨u,m,_⟩ _ ⟨g0,g1,g2,g3,g4⟩;change Int at u m;simp only at g0 g1 g2 g3 g4⊢;have w8:IntKind.u8.wrap u=u:=IntWalk.u8_in _ ⟨g0,by omega⟩;have a0:(Ds.data.toList.length:Int)=256:=by decide+kernel
 have ht:=B7t ⟨u.toNat,by omega⟩;simp only at ht;rw[show((u.toNat:Nat):Int)=u from by omega]at ht;have a2:J6 u.toNat<=8:=by
  rcases sF 8 (J6 u.toNat)with h|h
  . have h5:u.toNat≠0:=fun e=>by rw[e,BP]at h;omega
    have h6:=(BO h5).1;have h7:2^8<=2^(J6 u.toNat-1):=rX (by decide) (by omega);omega
  . exact h
 rw[w8,ht];refine⟨⟨g0,by rw[a0];exact g1⟩, ?_⟩;rw[wv (a:=(J6 u.toNat:Int)) (by omega),wv (by omega),g4];omega
def SC {v:Nat} (h:v<4294967296):J6 v<=32:=by
 rcases sF 32 (J6 v)with h1|h1
 . have u:v≠0:=fun e=>by rw[e,BP]at h1;omega
   have h6:=(BO u).1;have h7:2^32<=2^(J6 v-1):=rX (by decide) (by omega);omega
 . exact h1
def Ny (x:A2 J5.args) (hw:awf J5.args x) (_:J5.pre x):Gy x:=by
 obtain⟨v,_⟩:=x;change Int at v;have hv:=(show u32.min<=v/\v<=u32.max from hw.1);rw[QY,QX]at hv;simp only[Gy,Cg];refine⟨trivial, ?_⟩;rintro⟨r,_⟩ _ u;simp only at u⊢;have:=SC (v:=v.toNat) (by omega);rw[u,wv (by omega)]
def Vm (x:A2 T9.args) (hw:awf T9.args x) (hp:T9.pre x):Kl x:=by
 obtain⟨i,l,_⟩:=x;have hl:A6 l:=A3 hw.2.1.2;change Int at i;change List Int at l;have u:0<=i:=hp;simp only[Kl,iB];refine⟨fun h=> ?_,fun h=> ?_⟩
 . have h:=qA h;have hb:=Uk hl u h;rw[qT h, <-G2 (d:=(0:Int)) u h,W9 hb.1 (by omega)];exact⟨⟨u,h⟩,rfl⟩
 . have h:=qB h;rw[qL h]
def B2n {l:List Int} (h:A6 l) {i:Int} (u:0<=i):(if i<(l.length:Int)then l.getD i.toNat 0 else 0)=(dg l i.toNat:Int):=by
 split
 . exact Y0 h
 . rw[Ps (by omega)];rfl
def AV (x:A2 Z9.args) (hw:awf Z9.args x) (hp:Z9.pre x):Pf x:=by
 obtain⟨l,n,s,_⟩:=x;have hl:A6 l:=A3 hw.1.2;change List Int at l;change Int at n s;obtain⟨n3,ln,nM,s0,s1,a0⟩:3<=n/\(l.length:Int)<=n/\n<=17592186044416/\0<=s/\s<=31/\nv l*2^s.toNat<4294967296^n.toNat:=hp;simp only[Pf,oA];rw[wv (a:=n-1) (by omega),wv (a:=n-2) (by omega),wv (a:=n-3) (by omega),wv (a:=32-s) (by omega)];refine⟨by omega, ?_⟩;rintro⟨a,_⟩ _ ha;refine⟨by decide,by omega, ?_⟩;rintro⟨b,_⟩ _ hb;refine⟨s0,by omega, ?_⟩;rintro⟨c,_⟩ _ hc;simp only at ha hb hc⊢;rw[B2n hl (by omega)]at ha hb hc;have da:=L7 hl (n-1).toNat;have db:=L7 hl (n-2).toNat;have dc:=L7 hl (n-3).toNat;obtain⟨m,rfl⟩:∃m:Nat,n=(m:Int)+3:=⟨(n-3).toNat,by omega⟩;rw[show((m:Int)+3-1).toNat=m+2 from by omega]at ha da;rw[show((m:Int)+3-2).toNat=m+1 from by omega]at hb db;rw[show((m:Int)+3-3).toNat=m from by omega]at hc dc;rw[show((m:Int)+3).toNat=m+3 from by omega]at a0⊢;rw[show m+3-2=m+1 from by omega];have e3:=A0i l (n:=m) (by omega);have a3:=T6 hl m;have hP:0<4294967296^m:=tP (by decide);subst ha hb hc;generalize hA:dg l (m+2)=A at*;generalize hB:dg l (m+1)=B at*;generalize hC:dg l m=C at*;have a7:=B4k (a:=nv l) (low:=nv (l.take m)) (lo:=C) (H:=A*4294967296+B) (P:=4294967296^m) (s:=s.toNat) hP (by rw[e3];grind) a3 (by omega);rw[sC,a7];have hH:(A*4294967296+B)*2^s.toNat<18446744073709551616:=by
  have h1:(A*4294967296+B)*2^s.toNat*(4294967296^m*4294967296)<=nv l*2^s.toNat:=by
   have:(A*4294967296+B)*(4294967296^m*4294967296)<=nv l:=by rw[e3];grind
   have:=rM (2^s.toNat) this;rwa[zH]at this
  have h2:4294967296^(m+3)=18446744073709551616*(4294967296^m*4294967296):=by
   rw[sC,sC,sC];grind
  rw[h2]at a0;exact xC (xZ h1 a0)
 have a4:Min.min (Int.toNat s) u64.bits=s.toNat:=by show Min.min (Int.toNat s) 64= _;omega
 have a1:Min.min (Int.toNat (32-s)) u64.bits=32-s.toNat:=by show Min.min (Int.toNat (32-s)) 64= _;omega
 rw[a4,a1,show Min.min (Int.toNat 32) u64.bits=32 from rfl];have ab:A*4294967296+B<18446744073709551616:=by omega
 have q1:(((BitVec.ofInt u64.bits (u64.wrap ((A:Int)*2^32)) |||BitVec.ofInt u64.bits (B:Int)).toNat:Nat):Int)=((A*4294967296+B:Nat):Int):=by
  rw[W9 (a:=(A:Int)*2^32) (by omega) (by omega)];have:=JB (v:=(B:Int)) (b:=(A:Int)) (k:=32) (by omega) (by omega) (by omega) (by omega) (by omega);rw[show u64.bits=64 from rfl,this];omega
 rw[q1,W9 (a:=((A*4294967296+B:Nat):Int)) (by omega) (by omega)];have a5:((2:Int)^s.toNat)=((2^s.toNat:Nat):Int):=by rw[xH];rfl
 have u:((A*4294967296+B:Nat):Int)*2^s.toNat=(((A*4294967296+B)*2^s.toNat:Nat):Int):=by rw[a5,uJ]
 have q2:Int.fdiv (C:Int) (2^(32-s.toNat))=((C/2^(32-s.toNat):Nat):Int):=by
  have a6:((2:Int)^(32-s.toNat))=((2^(32-s.toNat):Nat):Int):=by rw[xH];rfl
  rw[a6,sI _ (qE _)];rfl
 have a9:C/2^(32-s.toNat)<2^s.toNat:=by
  rw[tO (tP (by decide)), <-CT (by omega)];omega
 have a8:(0:Int)<=(((A*4294967296+B)*2^s.toNat:Nat):Int):=qE _;rw[q2,W9 (a:=((A*4294967296+B:Nat):Int)*2^s.toNat) (by rw[u];omega) (by rw[u];omega)];generalize C/2^(32-s.toNat)=L at*;have a2:(L:Int)<2^s.toNat:=by rw[a5];omega
 have aa:(2:Nat)^s.toNat<=2^31:=rX (by decide) (by omega);have q3:=JB (v:=(L:Int)) (b:=((A*4294967296+B:Nat):Int)) (k:=s.toNat) (by omega) a2 (by omega) (by rw[u];omega) (by omega);rw[show u64.bits=64 from rfl,q3,u,W9 (a:=(L:Int)+(((A*4294967296+B)*2^s.toNat:Nat):Int)) (Int.add_nonneg (qE _) a8) ?_]
 . constructor
   . exact Int.sub_nonneg.2 (Int.le_trans s1 (by decide))
   . rw[wS];exact Int.add_comm _ _
 . --the shifted number and the digits behind it are below 2^64
   have h2:(18446744073709551616:Nat)=18446744073709551616/2^s.toNat*2^s.toNat:=by
    refine(Nat.div_mul_cancel ?_).symm;exact⟨2^(64-s.toNat),by rw[<-uV,show s.toNat+(64-s.toNat)=64 from by omega]⟩
   have h3:A*4294967296+B<18446744073709551616/2^s.toNat:=by
    rw[h2]at hH;exact xC hH
   have h4:(A*4294967296+B+1)*2^s.toNat<=18446744073709551616:=by
    rw[h2];exact rM _ h3
   rw[uP,xN]at h4;have h5:L+(A*4294967296+B)*2^s.toNat<18446744073709551616:=rD (by rw[vY];exact Nat.add_lt_add_left a9 _) h4;have h6:((L+(A*4294967296+B)*2^s.toNat:Nat):Int)<18446744073709551616:=sQ.2 h5;rw[wS]at h6;exact Int.le_of_lt_add_one h6
def Xt (x:A2 W7.args) (hw:awf W7.args x) (hp:W7.pre x):Nm x:=by
 obtain⟨a,b,_⟩:=x;have ha:A6 a:=A3 hw.1.2;have hb:A6 b:=A3 hw.2.1.2;change List Int at a b;obtain⟨la,a3,a5,ad,b6⟩:a.length<=17592186044416/\3<=a.length/\Nd a/\nv b<=nv a/\b.length<=a.length:=hp;simp only[Nm,iB,oA,Cg];have ea:i64.wrap ((a.length:Int)-1)=(a.length:Int)-1:=wv (by omega);rw[ea,Fi ha (by omega) (by omega),show((a.length:Int)-1).toNat=a.length-1 from by omega];refine⟨⟨by omega,by omega⟩,trivial, ?_⟩;rintro⟨s,_⟩ _ hs;change Int at s;simp only at hs⊢;rw[qM]at hs;have hd:=MZ ha a5;have b7:=L7 ha (a.length-1);have au:=SC (v:=dg a (a.length-1)) (by omega);have b5:=(BO hd).2;have a9:=pY ha (n:=a.length-1) (by omega) (s:=s.toNat) (by omega);rw[show a.length-1+1=a.length from by omega]at a9;have ae:nv b*2^s.toNat<4294967296^a.length:=xZ (rM _ ad) a9;have ay:=VQ ha a5;rw[qM];refine⟨⟨by omega,qI _,by omega,by omega,by omega,a9⟩, ?_⟩;rintro⟨X,_⟩ ⟨ac,_⟩ hX;refine⟨⟨by omega,by omega,by omega,by omega,by omega,ae⟩, ?_⟩;rintro⟨Y,_⟩ ⟨ar,_⟩ hY;change Int at X Y;simp only at hX hY ac ar⊢;have hK:s.toNat<=32*(a.length-2):=by omega
 rw[Lq,A3p hK]at hX hY;have a7:0<2^(32*(a.length-2)-s.toNat):=tP (by decide);have a8:0<X:=by
  rw[hX];have h1:=Uo a (n:=a.length-1) (by omega);have h2:2^(32*(a.length-2)-s.toNat)<=nv a:=by
   have h3:2^(32*(a.length-2)-s.toNat)<=4294967296^(a.length-1):=by
    rw[Lq];exact rX (by decide) (by omega)
   have h4:=sS (4294967296^(a.length-1)) (sV hd);omega
  have:=(vD a7).2 (by rw[xN];exact h2);omega
 have aq:Y<=X:=by rw[hX,hY];exact Int.ofNat_le.2 (Nat.div_le_div_right ad)
 have ap:0<=Y:=by rw[hY];exact qE _
 have hA:=wT (nv a) (2^(32*(a.length-2)-s.toNat));have az:=wA (nv a) a7;have hB:=wT (nv b) (2^(32*(a.length-2)-s.toNat));have b3:=wA (nv b) a7;generalize 2^(32*(a.length-2)-s.toNat)=K at*;have b4:X<=18446744073709551615:=by have:=ac.2;rw[CW]at this;exact this
 refine⟨fun p=>∃w,Leh X Y w p.1 p.2.1 p.2.2.1 p.2.2.2.1 p.2.2.2.2.1 p.2.2.2.2.2.1 p.2.2.2.2.2.2.1 p.2.2.2.2.2.2.2.1 p.2.2.2.2.2.2.2.2.1,fun p=>p.2.1.toNat,⟨0,Leh.start ap aq a8⟩, ?_⟩;rintro⟨x,y,u0,u1,u2,v0,v1,v2,ev,_⟩ _ ⟨w,hL⟩;change Int at x y u0 u1 u2 v0 v1 v2;change Bool at ev;simp only at hL⊢;have av:=hL.idX;have aw:=hL.idY;have bd:=hL.yx;have aa:=hL.y0;have bc:=hL.x0;have ai:=hL.u10;have a0:=hL.u20;have a6:=hL.v10;have ak:=hL.v20;have bh:x*1<=x*v2:=tV ak (by omega);have bj:0<=y*v1:=tJ aa a6;have bg:0<=x*u2:=tJ (by omega) a0;have bi:0<=y*u1:=tJ aa ai;have bf:1*v2<=x*v2:=sJ (by omega) (by omega);refine⟨fun hc=> ?_,fun _=> ?_⟩
 . rw[J9]at hc;simp only[qC,rY]at hc;obtain⟨c1,c2⟩:=hc;have ab:1<=y:=by omega
   have be:1*v1<=y*v1:=sJ ab a6;rw[W9 (a:=v1+v2) (by omega) (by omega),W9 (a:=x-y) (by omega) (by omega)]at c2;have u:=hL.step c1 c2;have b9:=u.idX;have ba:=u.idY;have ah:=u.u20;have bb:=u.v20;have af:0<=x/y:=g0d (by omega) aa;have b8:x/y<=x:=Int.ediv_le_self _ (by omega);have ag:=u.y0;have a1:1*(v1+x/y*v2)<=y*(v1+x/y*v2):=sJ ab (by omega);have a2:0<=x%y*v2:=tJ ag (by omega);have a3:1*(u1+x/y*u2)<=y*(u1+x/y*u2):=sJ ab ah;have a4:0<=x%y*u2:=tJ ag a0;have b1:0<=x/y*v2:=tJ af (by omega);have b2:0<=x/y*u2:=tJ af a0;rw[tW (by omega),IntWalk.u64_quo _ _ ⟨by omega,by omega,by omega⟩];rw[W9 (a:=x/y*u2) b2 (by omega),W9 (a:=x/y*v2) b1 (by omega),W9 (a:=u1+x/y*u2) ah (by omega),W9 (a:=v1+x/y*v2) (by omega) (by omega)];have ax:=zD x (b:=y) (by omega);exact⟨by omega,by omega,⟨x,u⟩,by omega⟩
 . by_cases aj:v0=0
   . exact .inl aj
   . right;have am:(nv a:Int)=X*(K:Int)+((nv a%K:Nat):Int):=by
      rw[hX, <-uJ, <-wS,tG,hA]
     have ao:(nv b:Int)=Y*(K:Int)+((nv b%K:Nat):Int):=by
      rw[hY, <-uJ, <-wS,tG,hB]
     exact hL.apply aj (P:=(K:Int)) (by omega) (qE _) (by omega) (qE _) (by omega) am ao
def Xs (x:A2 W6.args) (hw:awf W6.args x) (hp:W6.pre x):Nk x:=by
 obtain⟨a,x,b,y,_⟩:=x;have ha:A6 a:=A3 hw.1.2;have hb:A6 b:=A3 hw.2.2.1.2;change List Int at a b;change Int at x y;have hx:=(show u64.min<=x/\x<=u64.max from hw.2.1);have hy:=(show u64.min<=y/\y<=u64.max from hw.2.2.2.1);rw[eV,CW]at hx hy;obtain⟨la,lb,a1⟩:a.length<=8796093022208/\b.length<=8796093022208/\nv b*y.toNat<=nv a*x.toNat:=hp;have n1:=C7 ha;have n2:=C7 hb;have n3:(nc x.toNat).length<=2:=Gc (by omega);have n4:(nc y.toNat).length<=2:=Gc (by omega);have n5:=Py (nv a) x.toNat;have n6:=Py (nv b) y.toNat;simp only[Nk,N2];refine⟨trivial, ?_⟩;rintro⟨r,_⟩ _ hr;simp only at hr⊢;subst hr;refine⟨⟨by omega,by omega⟩, ?_⟩;rintro⟨r1,_⟩ _ u;refine⟨trivial, ?_⟩;rintro⟨r,_⟩ _ hr;simp only at hr u⊢;subst hr;refine⟨⟨by omega,by omega⟩, ?_⟩;rintro⟨r2,_⟩ _ a0;simp only at a0⊢;rw[E7]at u a0;subst u a0;refine⟨⟨by omega,by omega⟩, ?_⟩;rintro⟨r,ok,_⟩ _ ⟨_,h2⟩;simp only at h2⊢;rw[E7,E7]at h2;exact(h2 a1).1
noncomputable def Qo:G7:= []
def Pr:An:= {join:= [(8,⟨[0,1,5],[0,1,2],[(7,false,vU)],[],[]⟩)],loop:= [(4,⟨[0,1,5],[0,1,2],[(7,false,vU),(8,false,vU)],[],[]⟩),(10,⟨[0,1,5,7,84,85],[0,2],[(9,false,vU),(86,false,vI)],[],[(1, .row (.int .u32) 103)]⟩),(23,⟨[0,5,7,134,135],[0,2],[(9,false,vU),(136,false,vI)],[],[(1, .row (.int .u32) 103)]⟩)],plan:= [(2,[3,10],[],true,(pZ9 0 3 (.q 3 (pZ9 4 6 (.q 10 (pZ9 11 3 .done)))))),(3,[5,13],[],true,(pZ9 0 5 (.q 5 (pZ9 6 7 (.q 13 (pZ9 14 4 .done)))))),(4,[9,18],[],true,(pZ9 0 9 (.q 9 (pZ9 10 8 (.q 18 (pZ9 19 4 .done))))))]}
def Wv:An:= {join:= [(12,⟨[4,6,7,8,9,10,35,36],[0],[],[],[(1, .row (.int .u32) 103),(2, .row (.int .u32) 103)]⟩)],loop:= [(8,⟨[4,6,7,8,9,10,35],[0],[(36,false,vI)],[],[(1, .row (.int .u32) 103),(2, .row (.int .u32) 103)]⟩)]}
noncomputable def Xj:G7:= [(141,Br),(188,J5),(190,P7),(192,L3),(191,Gb (NW ⟨prog,tys⟩ [(53,Qo,Pr)] f191.results.toList (f191.body.getD .skip) f191.ntmps))]
abbrev B4e:=Int×List Int×List Int×Unit
def Hs:A2 O8.args->Prop:=fun(x:Ev)=>let L:=(63:Int);let D:=(32:Int);let w:=(2:Int);let u:=D.toNat;let t:=(1:Int);let c:=(0:Int);let b:=(x.2.1.length:Int);let q:Prop:=(c<=i64.wrap (b-c-t)/\i64.wrap (b-c-t)<b-c);(c<=i64.wrap (b-t)/\i64.wrap (b-t)<b)/\True/\Cg fun r=>r.1=D-(↑(J6 (gx c x.2.1 (i64.wrap (b-t))).toNat):Int)->(D6 x.2.1/\c<=r.1/\r.1<=31)/\N2 fun Q=>let g:=(List.getD Q.1 (c+i64.wrap (b-c-t)).toNat c);Q.1.length=List.length x.2.1+1/\nv Q.1=nv x.2.1*2^Int.toNat r.1->(c<=c/\c<=b/\b<=(Q.1.length:Int))/\(D6 x.1/\c<=r.1/\r.1<=31)/\N2 fun S=>let n:=(S.1.length:Int);S.1.length=List.length x.1+1/\nv S.1=nv x.1*2^Int.toNat r.1->(c<=i64.wrap (n-b)/\i64.wrap (n-b)<=i64.wrap (n-b)/\(↑(4:Nat):Int)*i64.wrap (n-b)<=(281474976710656:Int)/\i64.wrap (n-b)<=(9223372036854775807:Int))/\∃(I:B4e->Prop),∃(μ: _->Nat),I (c,S.1,List.replicate (i64.wrap (n-b)).toNat c,())/\∀(p:B4e),let M:Prop:=(p.1<i64.wrap (n-b));let G:=(p.2.1.length:Int);let a:=(i64.wrap (i64.wrap (n-b)-t)-p.1);let A:Prop:=(c<=i64.wrap a/\i64.wrap a<(p.2.2.1.length:Int));let s:=(i64.wrap a+(b-c));let i:=(u64.wrap (↑(BitVec.ofInt u64.bits (u64.wrap (u64.wrap (List.getD p.2.1 s.toNat c)*w^Min.min u u64.bits)) |||BitVec.ofInt u64.bits (u64.wrap (List.getD p.2.1 (i64.wrap a+i64.wrap (b-c-t)).toNat c))).toNat:Int));let e:=(i64.wrap (i64.wrap a+b)+t);let m:Prop:=(c<=b-c/\b-c<i64.wrap e-i64.wrap a);(Ty.int i64).wf p.1/\Ix p.2.1/\Ix p.2.2.1/\True->I p->(iB (decide M) (∃(J:Ev->Prop),((c<=i64.wrap a/\i64.wrap a<=i64.wrap e/\i64.wrap e<=G)/\m/\(0:(Ty.int u64).den)<=D/\(c<=i64.wrap (b-c-t)/\i64.wrap (b-c-t)<i64.wrap e-i64.wrap a)/\q/\u64.wrap g≠c/\q/\u64.wrap g≠c/\∃(J_1:C5->Prop),(∃(I:Ce->Prop),∃(μ: _->Nat),I (u64.wrap (i.tdiv (u64.wrap g)),i.tmod (u64.wrap g),())/\∀(N:Ce),let z:=(u64.wrap (N.1-t),u64.wrap (N.2.1+u64.wrap g),());let y:Prop:=((u64.wrap (N.2.1+u64.wrap g)).fdiv (w^Min.min u u64.bits)≠c);let k:Prop:=(Int.fdiv N.1 (w^Min.min u u64.bits)≠c);let h:=(decide (u64.wrap (↑(BitVec.ofInt u64.bits (u64.wrap (N.2.1*w^Min.min u u64.bits)) |||BitVec.ofInt u64.bits (u64.wrap (List.getD p.2.1 (i64.wrap a+i64.wrap (b-c-w)).toNat c))).toNat:Int)<u64.wrap (N.1*u64.wrap (List.getD Q.1 (c+i64.wrap (b-c-w)).toNat c))));(Ty.int u64).wf N.1/\(Ty.int u64).wf N.2.1/\True->I N->(0:(Ty.int u64).den)<=D/\(decide k=false->c<=i64.wrap (b-c-w)/\i64.wrap (b-c-w)<b-c)/\(decide k=false->(0:(Ty.int u64).den)<=D)/\(decide k=false->c<=i64.wrap (b-c-w)/\i64.wrap (b-c-w)<i64.wrap e-i64.wrap a)/\(iB (K8 (decide k) true h) (q/\(0:(Ty.int u64).den)<=D/\(iB (decide y) (J_1 (u64.wrap (N.1-t),())) (I z/\μ z<μ N))) (J_1 (N.1,()))))/\∀(N:C5),(Ty.int u64).wf N.1/\True->J_1 N->∃(I:Sz->Prop),∃(μ: _->Nat),I (c,c,p.2.1,())/\∀(O:Sz),let H:=(i64.wrap a+O.2.1);let B:Prop:=(c<=O.2.1/\O.2.1<i64.wrap e-i64.wrap a);let v:=(u64.wrap (u64.wrap (N.1*u64.wrap (List.getD Q.1 (c+O.2.1).toNat c))+O.1));let l:=(u64.wrap (u64.wrap (List.getD O.2.2.1 H.toNat c)-u64.wrap (u32.wrap v)));let j:=(u64.wrap (u64.wrap (List.getD O.2.2.1 s.toNat c)-O.1));let E:Prop:=(j.fdiv (w^Min.min L.toNat u64.bits)=c);let d:=(u64.wrap (v.fdiv (w^Min.min u u64.bits)+l.fdiv (w^Min.min L.toNat u64.bits)),i64.wrap (O.2.1+t),List.set O.2.2.1 H.toNat (u32.wrap l),());(Ty.int u64).wf O.1/\(Ty.int i64).wf O.2.1/\Ix O.2.2.1/\True->I O->(iB (decide (O.2.1<b-c)) ((c<=O.2.1/\O.2.1<b-c)/\B/\B/\(0:(Ty.int u64).den)<=D/\(0:(Ty.int u64).den)<=L/\I d/\μ d<μ O) (m/\m/\(0:(Ty.int u64).den)<=L/\(iB (decide E) (A/\J (List.set O.2.2.1 s.toNat (u32.wrap j),List.set p.2.2.1 (i64.wrap a).toNat (u32.wrap N.1),())) (∃(I:Sz->Prop),∃(μ: _->Nat),I (c,c,List.set O.2.2.1 s.toNat (u32.wrap j),())/\∀(P:Sz),let K:=(i64.wrap a+P.2.1);let C:Prop:=(c<=P.2.1/\P.2.1<i64.wrap e-i64.wrap a);let o:=(u64.wrap (P.1+u64.wrap (u64.wrap (List.getD P.2.2.1 K.toNat c)+u64.wrap (List.getD Q.1 (c+P.2.1).toNat c))));let f:=(o.fdiv (w^Min.min u u64.bits),i64.wrap (P.2.1+t),List.set P.2.2.1 K.toNat (u32.wrap o),());(Ty.int u64).wf P.1/\(Ty.int i64).wf P.2.1/\Ix P.2.2.1/\True->I P->(iB (decide (P.2.1<b-c)) ((c<=P.2.1/\P.2.1<b-c)/\C/\C/\(0:(Ty.int u64).den)<=D/\I f/\μ f<μ P) (m/\m/\A/\J (List.set P.2.2.1 s.toNat (u32.wrap (List.getD P.2.2.1 s.toNat c+u32.wrap P.1)),List.set p.2.2.1 (i64.wrap a).toNat (u32.wrap (u64.wrap (N.1-t))),()))))))))/\∀(N:Ev),let F:=(i64.wrap (p.1+t),N.1,N.2.1,());Ix N.1/\Ix N.2.1/\True->J N->I F/\μ F<μ p) ((c<=c/\c<=b/\b<=G)/\D6 (List.drop c.toNat (List.take b.toNat p.2.1))/\∀(R:oP),Ix R.1/\True/\True->(r.1<c->R.1= []/\R.2.1=false)/\(c<=r.1->R.1=nc (nv (List.drop c.toNat (List.take b.toNat p.2.1))/(2:Nat)^Int.toNat r.1)/\R.2.1=true)->True/\N2 fun r=>r.1=nc (nv p.2.2.1)->r.1=nc (nv x.1/nv x.2.1)/\R.1=nc (nv x.1%nv x.2.1)))
def A6j {a b:List Int} {N D S:Nat} (ha:A6 a) (hb:A6 b) (hN:b.length=N+2) (hd:dg b (N+1)≠0) (hD:a.length+1=D+(N+2)):nv a*2^S<nv b*2^S*4294967296^D:=by
 have h2:0<2^S:=tP (by decide);have e1:=Uo b (n:=N+1) (by omega);have h3:4294967296^(N+1)<=nv b:=by
  have:=sS (4294967296^(N+1)) (sV hd);omega
 have u:=Gd ha;rw[show a.length=(N+1)+D from by omega,uV]at u;have h5:nv a<nv b*4294967296^D:=rD u (rM _ h3);have h6:=wW h5 h2;rw[zH]at h6;exact h6
def B6f {A B S q r:Nat} (hB:0<B) (he:A*2^S=q*(B*2^S)+r) (hr:r<B*2^S):q=A/B/\r/2^S=A%B:=by
 have u:0<2^S:=tP (by decide);have e1:q=A/B:=by
  rw[<-zS A B u,he,tG q,g2f (g4p hB u),uB hr,tD]
 refine⟨e1, ?_⟩;have e3:=wT A B;have e4:r=(A%B)*2^S:=by
  have:A*2^S=(B*(A/B)+A%B)*2^S:=by rw[e3]
  rw[this,e1]at he;grind
 rw[e4,g3r _ u]
def B7v {v:List Int} (hv:A6 v) {n:Nat} (h1:4294967296^n<=nv v) (h2:nv v<4294967296^(n+1)):dg v n≠0:=by
 have u:0<4294967296^n:=tP (by decide);rw[LI hv,tS (by rw[tO u,tG, <-sC];exact h2)];have:=(vD u).2 (by rw[xN];exact h1);omega
def A2g {u:List Int} (hu:A6 u) {m i:Nat} (h:nv u<4294967296^m) (hi:m<=i):dg u i=0:=by
 rw[LI hu,uB (rD h (rX (by decide) hi))]
def bG {x y:Nat} (hx:x<=4294967295) (u:y<=4294967295):u64.wrap (((BitVec.ofInt 64 (u64.wrap ((x:Int)*2^32)) |||BitVec.ofInt 64 (y:Int)).toNat:Nat):Int)=((x*4294967296+y:Nat):Int):=by
 rw[W9 (a:=(x:Int)*2^32) (by omega) (by omega)];have:=JB (v:=(y:Int)) (b:=(x:Int)) (k:=32) (by omega) (by omega) (by omega) (by omega) (by omega);rw[this,W9 (by omega) (by omega)];omega
def B2b {v:Int} :Int.fdiv v (2^32)=v/4294967296:=by
 rw[sI _ (by decide)];rfl
def B9e {v:Int} :Int.fdiv v (2^63)=v/9223372036854775808:=by
 rw[sI _ (by decide)];rfl
def aC {d x:Nat} (u:d<=4294967295) (hx:x<=4294967295):d*x<=18446744065119617025:=qZ (yO u hx) (by decide)
def B0j {d v2 r u:Nat} (hv:v2<=4294967295):K8 (decide ((d:Int)/4294967296≠0)) true (decide (((r*4294967296+u:Nat):Int)<u64.wrap ((d:Int)*(v2:Int))))=decide (4294967296<=d\/r*4294967296+u<d*v2):=by
 rw[J1];rcases sF d 4294967296 with h|h
 . have hm:=aC (d:=d) (x:=v2) (by omega) hv;rw[<-uJ,W9 (by omega) (by omega)];have e1:decide ((d:Int)/4294967296≠0)=false:=rJ (by omega);rw[e1,vX,wJ];omega
 . have e1:decide ((d:Int)/4294967296≠0)=true:=rK (by omega);rw[e1,g1w];exact(rK (.inl h)).symm
def B0g {d x c y:Nat} (hd:d<=4294967295) (hx:x<=4294967295) (hc:c<=d) (hy:y<=4294967295):∃c' s':Nat,
 u64.wrap (Int.fdiv (u64.wrap (u64.wrap ((d:Int)*(x:Int))+(c:Int))) (2^32)+Int.fdiv (u64.wrap ((y:Int)-u64.wrap (u32.wrap (u64.wrap (u64.wrap ((d:Int)*(x:Int))+(c:Int)))))) (2^63))=(c':Int)/\
 u32.wrap (u64.wrap ((y:Int)-u64.wrap (u32.wrap (u64.wrap (u64.wrap ((d:Int)*(x:Int))+(c:Int))))))=(s':Int)/\c'<=d/\y+4294967296*c'=s'+(d*x+c):=by
 have hm:=aC hd hx;obtain⟨b1,u⟩:=A5u (D:=d) (v:=x) (c:=c) (t:=y) (by omega) (by omega) hc;rw[<-uJ,W9 (a:=((d*x:Nat):Int)) (by omega) (by omega)];generalize d*x=p at*;rw[W9 (a:=(p:Int)+(c:Int)) (by omega) (by omega),Ca,W9 (a:=((p:Int)+(c:Int))%4294967296) (by omega) (by omega),B2b,B9e,Cb ((y:Int)-_),Ca];refine⟨(p+c)/4294967296+(if y<(p+c)%4294967296 then 1 else 0),if y<(p+c)%4294967296 then y+4294967296-(p+c)%4294967296 else y-(p+c)%4294967296, ?_, ?_,u, ?_⟩
 . rw[W9 (by omega) (by omega)];split<;>omega
 . split<;>omega
 . split<;>omega
def A8a {U P V d:Nat} (u:0<P) (hV:0<V) (h:P*(d*V)<=U):d<=U/P/V:=by
 rw[vD hV,vD u,tG];exact h
def B7k {U P V d:Nat} (u:0<P) (hV:0<V) (h:U<P*(d*V)):U/P/V<d:=by
 rw[tO hV,tO u,tG];exact h
def ZC {U0 U W V P d q q':Nat} (he:U0=q*V+U) (hW:W+P*(d*V)=U) (hq:q'=q+P*d) (u:0<P) (hV:0<V) (hd:U/P/V=d):U0=q'*V+W/\W<V*P:=by
 refine⟨by subst hq;rw[he, <-hW];grind, ?_⟩;have h1:¬(P*((d+1)*V)<=U):=fun h=>by have:=A8a u hV h;omega
 have e:P*((d+1)*V)=P*(d*V)+V*P:=by grind
 omega
def B5b {q:List Int} (hq:A6 q) {Q j d:Nat} (u:nv q=Q*4294967296^(j+1)) (hj:j<q.length):nv (q.set j (d:Int))=nv q+4294967296^j*d/\nv (q.set j (d:Int))=(Q*4294967296+d)*4294967296^j:=by
 have hP:0<4294967296^j:=tP (by decide);have h:=Jy (l:=q) (k:=j) (v:=(d:Int)) hj;rw[qM]at h;have h0:dg q j=0:=by
  rw[LI hq,u,sC,tG (4294967296^j), <-sO,g3r _ hP,Nat.mul_mod_left]
 rw[h0,wK,tD]at h;refine⟨h, ?_⟩;rw[h,u,sC];grind
def A5c {x c y:Nat} (hx:x<=4294967295) (u:c<=1) (hy:y<=4294967295):∃c' s':Nat,
 Int.fdiv (u64.wrap ((c:Int)+u64.wrap ((y:Int)+(x:Int)))) (2^32)=(c':Int)/\
 u32.wrap (u64.wrap ((c:Int)+u64.wrap ((y:Int)+(x:Int))))=(s':Int)/\c'<=1/\s'+4294967296*c'=c+(y+x):=by
 rw[W9 (a:=(y:Int)+(x:Int)) (by omega) (by omega),W9 (a:=(c:Int)+((y:Int)+(x:Int))) (by omega) (by omega),B2b,Ca];exact⟨(c+(y+x))/4294967296,(c+(y+x))%4294967296,by omega,by omega,by omega,by omega⟩
def Qt (x:A2 O8.args) (hw:awf O8.args x) (hp:O8.pre x):Hs x:=by
 obtain⟨a,b,_⟩:=x;have ha:A6 a:=A3 hw.1.2;have hb:A6 b:=A3 hw.2.1.2;change List Int at a b;obtain⟨la,b2,c3,ah⟩:a.length<=17592186044416/\2<=b.length/\b.length<=a.length/\Nd b:=hp;obtain⟨N,hN⟩:∃N,b.length=N+2:=⟨b.length-2,by omega⟩;have hd:=MZ hb ah;rw[show b.length-1=N+1 from by omega]at hd;simp only[Hs,iB,N2,Cg,Int.sub_zero,Int.zero_add];rw[wv (a:=(b.length:Int)-1) (by omega),wv (a:=(b.length:Int)-2) (by omega),Fi hb (by omega) (by omega),show((b.length:Int)-1).toNat=N+1 from by omega,show((b.length:Int)-2).toNat=N from by omega];refine⟨⟨by omega,by omega⟩,trivial, ?_⟩;rintro⟨s,_⟩ _ hs;change Int at s;simp only at hs⊢;rw[qM]at hs;have c4:=L7 hb (N+1);have bv:=SC (v:=dg b (N+1)) (by omega);have c2:=(BO hd).2;refine⟨⟨by show b.length<= _;omega,by omega,by omega⟩, ?_⟩;rintro⟨v,_⟩ ⟨bj,_⟩ ⟨az,hv⟩;refine⟨⟨qI _,by omega,by simp only at az⊢;omega⟩,⟨by show a.length<= _;omega,by omega,by omega⟩, ?_⟩;rintro⟨u0,_⟩ ⟨bi,_⟩ ⟨bg,hu⟩;have a0:A6 v:=A3 bj.2;have bz:A6 u0:=A3 bi.2;change List Int at v u0;simp only at az hv bg hu⊢;have a6:nv v<4294967296^(N+2):=by
  rw[hv];exact pY hb (n:=N+1) (by omega) (s:=s.toNat) (by omega)
 have ag:4294967296^(N+1)<=nv v:=by
  have e1:=Uo b (n:=N+1) (by omega);have h3:4294967296^(N+1)<=nv b:=by
   have:=sS (4294967296^(N+1)) (sV hd);omega
  rw[hv];exact qZ h3 (Nat.le_mul_of_pos_right _ (tP (by decide)))
 have ay:=B7v a0 ag a6;have a1:0<nv v:=rD (tP (by decide)) ag;obtain⟨D,hD⟩:∃D,u0.length=D+(N+2):=⟨u0.length-(N+2),by omega⟩;have ax:=A6j (S:=s.toNat) ha hb hN hd (D:=D) (by omega);rw[<-hu, <-hv]at ax;rw[wv (a:=(u0.length:Int)-(b.length:Int)) (by omega),show(u0.length:Int)-(b.length:Int)=(D:Int)from by omega];have c0:1<=D:=by omega
 refine⟨⟨by omega,qI _,by omega,by omega⟩, ?_⟩;refine⟨fun p=>0<=p.1/\p.1<=(D:Int)/\p.2.1.length=u0.length/\p.2.2.1.length=D/\nv u0=nv p.2.2.1*nv v+nv p.2.1/\nv p.2.1<nv v*4294967296^((D:Int)-p.1).toNat/\∃Q,nv p.2.2.1=Q*4294967296^((D:Int)-p.1).toNat,fun p=>((D:Int)-p.1).toNat,⟨qI _,qE _,rfl,by simp, ?_, ?_,0, ?_⟩, ?_⟩
 . show nv u0=nv (List.replicate _ 0)*nv v+nv u0;rw[Rs];omega
 . show nv u0<nv v*4294967296^((D:Int)-0).toNat;rw[show((D:Int)-0).toNat=D from by omega];exact ax
 . show nv (List.replicate _ 0)= _;rw[Rs];omega
 rintro⟨k,u,q,_⟩ ⟨_,b1,bh,_⟩ ⟨k0,k1,ul,ql,he,a8,Q,hQ⟩;change Int at k;have a5:A6 u:=A3 b1.2;have aw:A6 q:=A3 bh.2;change List Int at u q;simp only at k0 k1 ul ql he a8 hQ⊢;refine⟨fun hk=> ?_,fun hk=> ?_⟩
 . have hk:=qA hk;obtain⟨j,hj⟩:∃j:Nat,(D:Int)-1-k=(j:Int):=⟨((D:Int)-1-k).toNat,by omega⟩;rw[show((D:Int)-k).toNat=j+1 from by omega]at a8 hQ;rw[wv (a:=(D:Int)-1) (by omega),hj,wv (a:=(j:Int)) (by omega),wv (a:=(j:Int)+(b.length:Int)) (by omega),wv (a:=(j:Int)+(b.length:Int)+1) (by omega),wv (a:=k+1) (by omega)];rw[show((j:Int)+(b.length:Int)).toNat=j+N+2 from by omega,show((j:Int)+((b.length:Int)-1)).toNat=j+N+1 from by omega,show((j:Int)+((b.length:Int)-2)).toNat=j+N from by omega];have c6:j+1<=D:=by omega
   have a7:=B9a a5 a0 (j:=j) (n:=N) (by omega) a6 ay (by omega) a8;have v1b:=L7 a0 (N+1);have v2b:=L7 a0 N;have bs:=L7 a5 (j+N+2);have bt:=L7 a5 (j+N+1);have bu:=L7 a5 (j+N);have a9:0<4294967296^j:=tP (by decide);refine⟨fun p=>p.1.length=u0.length/\p.2.1.length=D/\nv u0=nv p.2.1*nv v+nv p.1/\nv p.1<nv v*4294967296^j/\∃Q,nv p.2.1=Q*4294967296^j, ?_, ?_⟩
   . rw[Y0 a0,Y0 a0,Y0 a5,Y0 a5,Y0 a5];rw[W9 (a:=(dg v (N+1):Int)) (by omega) (by omega),W9 (a:=(dg v N:Int)) (by omega) (by omega),W9 (a:=(dg u (j+N+2):Int)) (by omega) (by omega),W9 (a:=(dg u (j+N+1):Int)) (by omega) (by omega),W9 (a:=(dg u (j+N):Int)) (by omega) (by omega)];rw[show Min.min (Int.toNat 32) u64.bits=32 from rfl,show Min.min (Int.toNat 63) u64.bits=63 from rfl,show u64.bits=64 from rfl,bG bs bt];refine⟨⟨by omega,by omega,by omega⟩,⟨by omega,by omega⟩,by decide,⟨by omega,by omega⟩,⟨by omega,by omega⟩,by omega,⟨by omega,by omega⟩,by omega, ?_⟩;have ab:=a7.est;have a4:= @XC.near _ _ _ _ _ _ _ a7;have aa:= @XC.dec _ _ _ _ _ _ _ a7;have ac:= @XC.out _ _ _ _ _ _ _ a7;generalize b6:nv u/4294967296^j/nv v=QS at ab a4 aa ac⊢;refine⟨fun p=>QS<=p.1.toNat/\p.1.toNat<=QS+1/\0<=p.1/\p.1<4294967296, ?_, ?_⟩
     . refine⟨fun p=>∃d r:Nat,p.1=(d:Int)/\p.2.1=(r:Int)/\dg u (j+N+2)*4294967296+dg u (j+N+1)=d*dg v (N+1)+r/\QS<=d/\r<4294967296,fun p=>p.1.toNat, ?_, ?_⟩
       . have ai:0<dg v (N+1):=sV ay;have bb:=(vD ai).2 ab;have hm:=wA (dg u (j+N+2)*4294967296+dg u (j+N+1)) ai;have b9:=wT (dg u (j+N+2)*4294967296+dg u (j+N+1)) (dg v (N+1));have bx:=wU (dg u (j+N+2)*4294967296+dg u (j+N+1)) (dg v (N+1));have hT:dg u (j+N+2)*4294967296+dg u (j+N+1)<=18446744073709551615:=by omega
         refine⟨(dg u (j+N+2)*4294967296+dg u (j+N+1))/dg v (N+1),(dg u (j+N+2)*4294967296+dg u (j+N+1))%dg v (N+1), ?_,rfl, ?_,bb,by omega⟩
         . show u64.wrap (Int.tdiv _ _)= _;have e:Int.tdiv ((dg u (j+N+2)*4294967296+dg u (j+N+1):Nat):Int) ((dg v (N+1):Nat):Int)=(((dg u (j+N+2)*4294967296+dg u (j+N+1))/dg v (N+1):Nat):Int):=rfl;rw[e];generalize (dg u (j+N+2)*4294967296+dg u (j+N+1))/dg v (N+1)=z at*;exact W9 (by omega) (by omega)
         . have:=b9.symm;rw[tG (dg v (N+1))]at this;exact this
       . rintro⟨dd,rr,_⟩ ⟨av,_⟩ ⟨d,r,e1,e2,ht,be,hr⟩;change Int at dd rr;simp only at e1 e2 av⊢;subst e1 e2;have bw:(d:Int)<=18446744073709551615:=by have:=av.2;rw[CW]at this;exact this
         rw[B2b,B2b,bG (x:=r) (by omega) bu,B0j v2b];refine⟨by decide,fun _=>⟨by omega,by omega⟩,fun _=>by decide,fun _=>⟨by omega,by omega⟩,fun hc=> ?_,fun hc=> ?_⟩
         . have hc:=qA hc;have c5:=aa ht be hc;rw[W9 (a:=(r:Int)+(dg v (N+1):Int)) (by omega) (by omega),W9 (a:=(d:Int)-1) (by omega) (by omega)];obtain⟨e,rfl⟩:∃e,d=e+1:=⟨d-1,by omega⟩;have ao:dg u (j+N+2)*4294967296+dg u (j+N+1)=e*dg v (N+1)+(r+dg v (N+1)):=by rw[ht,uP,xN];omega
           refine⟨⟨by omega,by omega⟩,by decide,fun h6=> ?_,fun h6=> ?_⟩
           . have h6:=qA h6;obtain⟨o1,o2⟩:=ac ao (by omega) (by omega);have o3:=a4 ao o1 o2;have ee:(((e+1:Nat):Int)-1).toNat=e:=by omega
             refine⟨?_, ?_, ?_, ?_⟩
             . show _ <=(((e+1:Nat):Int)-1).toNat;rw[ee];omega
             . show(((e+1:Nat):Int)-1).toNat<= _;rw[ee];exact o3
             . show(0:Int)<=((e+1:Nat):Int)-1;omega
             . show((e+1:Nat):Int)-1< _;omega
           . have h6:(((r:Int)+(dg v (N+1):Int))/4294967296)=0:=g2q (qB h6);refine⟨⟨e,r+dg v (N+1),by omega,by omega,ao,by omega,by omega⟩,by omega⟩
         . have hc:=qB hc;have o3:=a4 ht (by omega) (by omega);exact⟨by show _ <=(d:Int).toNat;omega,by show(d:Int).toNat<= _;omega,qE _,by show(d:Int)< _;omega⟩
     . rintro⟨dd,_⟩ _ ⟨d1,d2,d3,d4⟩;change Int at dd;simp only at d1 d2 d3 d4⊢;obtain⟨d,rfl⟩:=uF d3;rw[qM]at d1 d2;clear ab a4 aa ac;refine⟨fun p=>∃c i:Nat,p.1=(c:Int)/\p.2.1=(i:Int)/\i<=N+2/\c<=d/\p.2.2.1.length=u0.length/\nv p.2.2.1+4294967296^j*(d*nv (v.take i))=nv u+4294967296^(j+i)*c/\∀m,j+i<=m->dg p.2.2.1 m=dg u m,fun p=>((N:Int)+2-p.2.1).toNat,⟨0,0,rfl,rfl,by omega,by omega,ul,by simp[nv],fun _ _=>rfl⟩, ?_⟩;rintro⟨cc,ii,w,_⟩ ⟨_,_,bk,_⟩ ⟨c,i,e1,e2,hi,hc,wl,hE,hK⟩;change Int at cc ii;have af:A6 w:=A3 bk.2;change List Int at w;simp only at e1 e2 hi hc wl hE hK⊢;subst e1 e2;refine⟨fun h1=> ?_,fun h1=> ?_⟩
       . have h1:(i:Int)<(b.length:Int):=qA h1;have xb:=L7 a0 i;have yb:=L7 af (j+i);rw[show((i:Int)).toNat=i from qM _,show((j:Int)+(i:Int)).toNat=j+i from by omega,Y0 a0,Y0 af,W9 (a:=(dg v i:Int)) (by omega) (by omega),W9 (a:=(dg w (j+i):Int)) (by omega) (by omega),wv (a:=(i:Int)+1) (by omega)];obtain⟨c',s',q1,q2,q3,q4⟩:=B0g (d:=d) (x:=dg v i) (c:=c) (y:=dg w (j+i)) (by omega) xb hc yb;rw[q1,q2];refine⟨⟨by omega,h1⟩,⟨by omega,by omega⟩,⟨by omega,by omega⟩,by decide,by decide,⟨c',i+1,rfl,by omega,by omega,q3,by rw[qN];exact wl, ?_, ?_⟩,by omega⟩
         . have a3:=Jy (l:=w) (k:=j+i) (v:=(s':Int)) (by omega);rw[qM]at a3;rw[H9,show j+(i+1)=(j+i)+1 from by omega,sC _ (j+i)];exact A3w hE a3 q4 (uV ..)
         . intro m hm;rw[Yo (by omega),qL (by omega)];exact hK m (by omega)
       . have h1:=qB h1;have ak:i=N+2:=by omega
         subst ak;rw[Jc a0,tS a6]at hE;have ap:=hK (j+N+2) (by omega);rw[Y0 af,ap,W9 (a:=(dg u (j+N+2):Int)) (by omega) (by omega),B9e,show((j:Int)).toNat=j from qM _];have bc:nv u<4294967296^(j+N+3):=by
          refine rD a8 ?_;have e:4294967296^(j+N+3)=4294967296^(N+2)*4294967296^(j+1):=by rw[<-uV];congr 1;omega
          rw[e];exact rM _ (vZ a6)
         rw[show j+(N+2)=j+N+2 from by omega]at hE;refine⟨⟨by omega,by omega⟩,⟨by omega,by omega⟩,by decide,fun h2=> ?_,fun h2=> ?_⟩
         . have h2:=qA h2;have au:c<=dg u (j+N+2):=by rw[Cb]at h2;omega
           rw[W9 (a:=(dg u (j+N+2):Int)-(c:Int)) (by omega) (by omega),w32 (a:=(dg u (j+N+2):Int)-(c:Int)) (by omega) (by omega),w32 (a:=(d:Int)) (by omega) (by omega)];have a3:=Jy (l:=w) (k:=j+N+2) (v:=(dg u (j+N+2):Int)-(c:Int)) (by omega);rw[ap,show((dg u (j+N+2):Int)-(c:Int)).toNat=dg u (j+N+2)-c from by omega,Nat.mul_sub]at a3;have ar:=sS (4294967296^(j+N+2)) au;have hW:nv (w.set (j+N+2) ((dg u (j+N+2):Int)-(c:Int)))+4294967296^j*(d*nv v)=nv u:=by omega
           have ba:=A8a a9 a1 (U:=nv u) (d:=d) (by omega);obtain⟨s1,s2⟩:=B5b aw (d:=d) hQ (by omega);obtain⟨f1,f2⟩:=ZC he hW s1 a9 a1 (by omega);exact⟨⟨by omega,by omega⟩,by show(List.set _ _ _).length= _;rw[qN];exact wl,by show(List.set _ _ _).length= _;rw[qN];exact ql,f1,f2,_,s2⟩
         . have h2:=qB h2;have au:dg u (j+N+2)<c:=by rw[Cb]at h2;omega
           have b5:u32.wrap (u64.wrap ((dg u (j+N+2):Int)-(c:Int)))=((dg u (j+N+2)+4294967296-c:Nat):Int):=by
            rw[Cb,Ca];omega
           rw[b5];have a3:=Jy (l:=w) (k:=j+N+2) (v:=((dg u (j+N+2)+4294967296-c:Nat):Int)) (by omega);rw[ap,qM,Nat.mul_sub,sZ]at a3;have ar:=sS (4294967296^(j+N+2)) (show c<=dg u (j+N+2)+4294967296 by omega);rw[sZ]at ar;have bq:A6 (w.set (j+N+2) ((dg u (j+N+2)+4294967296-c:Nat):Int)):=ZY af (by show 0<= _ /\ _ <= _;omega);have b3:∀m,j+N+3<=m->dg (w.set (j+N+2) ((dg u (j+N+2)+4294967296-c:Nat):Int)) m=0:=fun m hm=>by
            rw[Yo (by omega),qL (by omega),hK m (by omega)];exact A2g a5 bc hm
           have am:(w.set (j+N+2) ((dg u (j+N+2)+4294967296-c:Nat):Int)).length=u0.length:=by rw[qN];exact wl
           generalize w.set (j+N+2) ((dg u (j+N+2)+4294967296-c:Nat):Int)=w1 at*;have b8:nv w1+4294967296^j*(d*nv v)=nv u+4294967296^(j+N+2)*4294967296:=by omega
           have aq:nv w1<4294967296^(j+N+2)*4294967296:=by
            have h:=T6 bq (j+N+3);rw[NY b3, <-C0b (j+N)]at h;exact h
           have ba:=B7k a9 a1 (U:=nv u) (d:=d) (by omega);obtain⟨e,rfl⟩:∃e,d=e+1:=⟨d-1,by omega⟩;refine⟨fun p=>∃c i:Nat,p.1=(c:Int)/\p.2.1=(i:Int)/\i<=N+2/\c<=1/\p.2.2.1.length=u0.length/\nv p.2.2.1+4294967296^(j+i)*c=nv w1+4294967296^j*nv (v.take i)/\∀m,j+i<=m->dg p.2.2.1 m=dg w1 m,fun p=>((N:Int)+2-p.2.1).toNat,⟨0,0,rfl,rfl,by omega,by omega,am,by simp[nv],fun _ _=>rfl⟩, ?_⟩;rintro⟨cc,ii,y,_⟩ ⟨_,_,bm,_⟩ ⟨g,i,e1,e2,hi,hg,yl,ae,aj⟩;change Int at cc ii;have ad:A6 y:=A3 bm.2;change List Int at y;simp only at e1 e2 hi hg yl ae aj⊢;subst e1 e2;refine⟨fun h1=> ?_,fun h1=> ?_⟩
           . have h1:(i:Int)<(b.length:Int):=qA h1;have xb:=L7 a0 i;have yb:=L7 ad (j+i);rw[show((i:Int)).toNat=i from qM _,show((j:Int)+(i:Int)).toNat=j+i from by omega,Y0 a0,Y0 ad,W9 (a:=(dg v i:Int)) (by omega) (by omega),W9 (a:=(dg y (j+i):Int)) (by omega) (by omega),wv (a:=(i:Int)+1) (by omega)];obtain⟨c',s',q1,q2,q3,q4⟩:=A5c (x:=dg v i) (c:=g) (y:=dg y (j+i)) xb hg yb;rw[q1,q2];refine⟨⟨by omega,h1⟩,⟨by omega,by omega⟩,⟨by omega,by omega⟩,by decide,⟨c',i+1,rfl,by omega,by omega,q3,by rw[qN];exact yl, ?_, ?_⟩,by omega⟩
             . have a2:=Jy (l:=y) (k:=j+i) (v:=(s':Int)) (by omega);rw[qM]at a2;rw[H9,show j+(i+1)=(j+i)+1 from by omega,sC _ (j+i)];exact A1f ae a2 q4 (uV ..)
             . intro m hm;rw[Yo (by omega),qL (by omega)];exact aj m (by omega)
           . have h1:=qB h1;have ak:i=N+2:=by omega
             subst ak;rw[Jc a0,tS a6,show j+(N+2)=j+N+2 from by omega]at ae;have yb:=L7 ad (j+N+2);have ez:u32.wrap ((dg y (j+N+2):Int)+u32.wrap (g:Int))=(((dg y (j+N+2)+g)%4294967296:Nat):Int):=by
              rw[w32 (a:=(g:Int)) (by omega) (by omega),Ca];omega
             have ed:u32.wrap (u64.wrap (((e+1:Nat):Int)-1))=(e:Int):=by
              rw[W9 (by omega) (by omega),w32 (by omega) (by omega)];omega
             rw[Y0 ad,ez,ed];have a2:=Jy (l:=y) (k:=j+N+2) (v:=(((dg y (j+N+2)+g)%4294967296:Nat):Int)) (by omega);rw[qM]at a2;obtain⟨o,ho,bd⟩:∃o,dg y (j+N+2)+g=(dg y (j+N+2)+g)%4294967296+4294967296*o/\o<=1:=⟨(dg y (j+N+2)+g)/4294967296,by omega,by omega⟩;have zL:A6 (y.set (j+N+2) (((dg y (j+N+2)+g)%4294967296:Nat):Int)):=ZY ad (by show 0<= _ /\ _ <= _;omega);have bn:∀m,j+N+3<=m->dg (y.set (j+N+2) (((dg y (j+N+2)+g)%4294967296:Nat):Int)) m=0:=fun m hm=>by
              rw[Yo (by omega),qL (by omega),aj m (by omega)];exact b3 m hm
             have bp:(y.set (j+N+2) (((dg y (j+N+2)+g)%4294967296:Nat):Int)).length=u0.length:=by rw[qN];exact yl
             generalize y.set (j+N+2) (((dg y (j+N+2)+g)%4294967296:Nat):Int)=z at*;have b4:nv z<4294967296^(j+N+2)*4294967296:=by
              have h:=T6 zL (j+N+3);rw[NY bn, <-C0b (j+N)]at h;exact h
             obtain⟨b7,hW⟩:=A5o (U:=nv u) (P:=4294967296^j) (V:=nv v) (e:=e) (M:=4294967296^(j+N+2)) a9 a1 b8 aq (by rw[b6];exact d2) ae a2 ho bd b4;obtain⟨s1,s2⟩:=B5b aw (d:=e) hQ (by omega);obtain⟨f1,f2⟩:=ZC he hW s1 a9 a1 b7;exact⟨⟨by omega,by omega⟩,⟨by omega,by omega⟩,⟨by omega,by omega⟩,bp,by show(List.set _ _ _).length= _;rw[qN];exact ql,f1,f2,_,s2⟩
   . rintro⟨u',q',_⟩ _ ⟨j1,j2,j3,j4,Q',j5⟩;simp only at j1 j2 j3 j4 j5⊢;rw[show((D:Int)-(k+1)).toNat=j from by omega];exact⟨⟨by omega,by omega,j1,j2,j3,j4,Q',j5⟩,by omega⟩
 . have hk:=qB hk;rw[show((D:Int)-k).toNat=0 from by omega,g4b,yP]at a8;have bf:0<=s:=by omega
   obtain⟨f1,f2⟩:=B6f (A:=nv a) (B:=nv b) (S:=s.toNat) (q:=nv q) (r:=nv u) (sV (VQ hb ah)) (by rw[<-hu, <-hv];exact he) (by rw[<-hv];exact a8);refine⟨⟨qI _,by omega,by omega⟩, ?_, ?_⟩
   . show(List.drop _ (List.take _ _)).length<= _;rw[sN,qW];omega
   rintro⟨m,ok,_⟩ _ hm;refine⟨trivial, ?_⟩;rintro⟨z,_⟩ _ hz;simp only at hm hz⊢;have hm:=(hm.2 bf).1;rw[show(Int.toNat 0)=0 from rfl,tX,show((b.length:Int)).toNat=b.length from qM _,Jc a5,hN,tS (by omega),f2]at hm;exact⟨by rw[hz,f1],hm⟩
def HU:An:= {plan:= [(8,[],[],true,(pZ9 0 3 (pZ9 4 3 (.e 3 (.e 7 (pZ9 8 3 .done))))))]}
def RK:An:= {join:= [(4,⟨[],[],[(0,false,[.val (.sl (.int .u32))]),(1,false,[.val (.sl (.int .u32))])],[],[]⟩)],loop:= [(7,⟨[],[],[(5,false,vU),(6,false,vU)],[],[]⟩),(4,⟨[],[],[(0,false,[.val (.sl (.int .u32))]),(1,false,[.val (.sl (.int .u32))])],[],[]⟩)],plan:= [(8,[],[],true,(pZ9 0 6 .done)),(15,[2,5,9,12],[],true,(.p 0 (.p 1 (.q 2 (.p 3 (.p 4 (.q 5 (.p 7 (.p 8 (.q 9 (.p 10 (.p 11 (.q 12 (.e 6 (.e 13 (.p 14 (.p 15 .done))))))))))))))))),(16,[2,5,9,12],[],true,(.p 0 (.p 1 (.q 2 (.p 3 (.p 4 (.q 5 (.p 7 (.p 8 (.q 9 (.p 10 (.p 11 (.q 12 (.e 6 (.e 13 (.p 14 (.p 15 .done)))))))))))))))))]}
def Pd:A2 Z7.args->Prop:=fun(x:Ev)=>let e:=(0:Nat);let d:=(nv x.1%nv x.2.1);let c:=(nv x.1/nv x.2.1);let b:=(0:Int);True/\N2 fun r=>let f:Prop:=((r.1.length:Int)<=(2:Int));r.1=nc (nv x.1)->True/\N2 fun h=>let a:=(h.1.length:Int);h.1=nc (nv x.2.1)->(iB (decide (a=b)) ((nv x.2.1=e->Cn Int= []/\Cn Int= []/\false=false)/\(nv x.2.1≠e->Cn Int=nc c/\Cn Int=nc d/\false=true)) (True/\Cg fun k=>k.1=Cm (nv r.1) (nv h.1)->(iB (decide (k.1<b)) (Hg r.1/\N2 fun g=>g.1=nc (nv r.1)->(nv x.2.1=e->Cn Int= []/\g.1= []/\true=false)/\(nv x.2.1≠e->Cn Int=nc c/\g.1=nc d/\true=true)) ((iB (decide f) (List.length r.1<=2/\oA fun g=>g.1=(↑(nv r.1):Int)->List.length h.1<=2/\oA fun r=>r.1=(↑(nv h.1):Int)->r.1≠b/\r.1≠b/\True/\N2 fun i=>i.1=nc (u64.wrap (Int.tdiv g.1 r.1)).toNat->True/\N2 fun j=>j.1=nc (Int.tmod g.1 r.1).toNat->(nv x.2.1=e->i.1= []/\j.1= []/\true=false)/\(nv x.2.1≠e->i.1=nc c/\j.1=nc d/\true=true)) ((iB (decide (a=(1:Int))) ((b<=b/\b<a)/\(D6 r.1/\gx b h.1 b≠b)/\∀(g:Ev),Ix g.1/\Ix g.2.1/\True->g.1=nc (nv r.1/(gx b h.1 b).toNat)/\g.2.1=nc (nv r.1%(gx b h.1 b).toNat)->(nv x.2.1=e->g.1= []/\g.2.1= []/\true=false)/\(nv x.2.1≠e->g.1=nc c/\g.2.1=nc d/\true=true)) ((D6 r.1/\(2:Nat)<=List.length h.1/\List.length h.1<=List.length r.1/\Nd h.1)/\∀(g:Ev),Ix g.1/\Ix g.2.1/\True->g.1=nc (nv r.1/nv h.1)/\g.2.1=nc (nv r.1%nv h.1)->(nv x.2.1=e->g.1= []/\g.2.1= []/\true=false)/\(nv x.2.1≠e->g.1=nc c/\g.2.1=nc d/\true=true)))))))))
abbrev B0m:=List Int×List Int×Bool×Unit
def AQ:A2 En.args->Prop:=fun(x:Ev)=>let e:=(nv x.2.1);let a:=(0:Int);True/\N2 fun r=>r.1=nc (nv x.1)->True/\N2 fun j=>j.1=nc e->∃(J:Ev->Prop),(True/\Cg fun h=>h.1=Cm (nv r.1) (nv j.1)->(iB (decide (h.1<a)) (J (j.1,r)) (J (r.1,j))))/\∀(p:Ev),(Ty.int u32).sl.wf p.1/\(Ty.int u32).sl.wf p.2.1/\True->J p->∃(I:Ev->Prop),∃(μ: _->Nat),I (p.1,p.2.1,())/\∀(p:Ev),let g:=(↑(nv p.2.1):Int);let d:=(p.2.1.length:Int);let c:Prop:=((p.1.length:Int)<=(2:Int));(Ty.int u32).sl.wf p.1/\(Ty.int u32).sl.wf p.2.1/\True->I p->(iB (decide (a<d)) ((iB (decide c) (List.length p.1<=2/\oA fun r=>r.1=(↑(nv p.1):Int)->List.length p.2.1<=2/\oA fun h=>h.1=g->∃(I:Ce->Prop),∃(μ: _->Nat),I (r.1,h)/\∀(p:Ce),let b:=(p.2.1,Int.tmod p.1 p.2.1,());(Ty.int u64).wf p.1/\(Ty.int u64).wf p.2.1/\True->I p->(iB (decide (p.2.1≠a)) (p.2.1≠a/\I b/\μ b<μ p) (True/\N2 fun r=>r.1=nc p.1.toNat->r.1=nc ((nv x.1).gcd e)))) ((D6 p.1/\(3:Nat)<=List.length p.1/\Nd p.1/\nv p.2.1<=nv p.1/\List.length p.2.1<=List.length p.1)/\∀(r:(Int×Int×Int×Int×Bool)×Unit),(HO r.1.1/\HO r.1.2.1/\HO r.1.2.2.1/\HO r.1.2.2.2.1/\True)/\True->B6t (↑(nv p.1):Int) g r.1.1 r.1.2.1 r.1.2.2.1 r.1.2.2.2.1 r.1.2.2.2.2->(iB (decide (r.1.2.2.1=a)) (D6 p.1/\∀(r:B0m),let f:=(p.2.1,r.2.1,());Ix r.1/\Ix r.2.1/\True/\True->(nv p.2.1=0->r.1= []/\r.2.1= []/\r.2.2.1=false)/\(nv p.2.1≠0->r.1=nc (nv p.1/nv p.2.1)/\r.2.1=nc (nv p.1%nv p.2.1)/\r.2.2.1=true)->I f/\μ f<μ p) ((iB r.1.2.2.2.2 ((V6 p.1/\V6 p.2.1/\nv p.2.1*Int.toNat r.1.2.2.1<=nv p.1*Int.toNat r.1.1)/\N2 fun h=>h.1=nc (nv p.1*Int.toNat r.1.1-nv p.2.1*Int.toNat r.1.2.2.1)->(V6 p.2.1/\V6 p.1/\nv p.1*Int.toNat r.1.2.1<=nv p.2.1*Int.toNat r.1.2.2.2.1)/\N2 fun i=>i.1=nc (nv p.2.1*Int.toNat r.1.2.2.2.1-nv p.1*Int.toNat r.1.2.1)->I (h.1,i)/\μ (h.1,i)<μ p) ((V6 p.2.1/\V6 p.1/\nv p.1*Int.toNat r.1.1<=nv p.2.1*Int.toNat r.1.2.2.1)/\N2 fun h=>h.1=nc (nv p.2.1*Int.toNat r.1.2.2.1-nv p.1*Int.toNat r.1.1)->(V6 p.1/\V6 p.2.1/\nv p.2.1*Int.toNat r.1.2.2.2.1<=nv p.1*Int.toNat r.1.2.1)/\N2 fun i=>i.1=nc (nv p.1*Int.toNat r.1.2.1-nv p.2.1*Int.toNat r.1.2.2.2.1)->I (h.1,i)/\μ (h.1,i)<μ p))))))) (Hg p.1/\N2 fun r=>r.1=nc (nv p.1)->r.1=nc ((nv x.1).gcd e)))
def AP (x:A2 Z7.args) (hw:awf Z7.args x) (hp:Z7.pre x):Pd x:=by
 obtain⟨a,b,_⟩:=x;have ha:A6 a:=A3 hw.1.2;have hb:A6 b:=A3 hw.2.1.2;change List Int at a b;have la:a.length<=17592186044416:=hp;have n1:=C7 ha;simp only[Pd,iB,N2,oA,Cg];refine⟨trivial, ?_⟩;rintro⟨r,_⟩ _ hr;refine⟨trivial, ?_⟩;rintro⟨s,_⟩ _ hs;simp only at hr hs⊢;have a0:nv r=nv a:=by rw[hr,E7]
 have a1:nv s=nv b:=by rw[hs,E7]
 have a4:r.length<=a.length:=by rw[hr];exact n1
 have aa:A6 r:=hr▸I9 _;have a8:A6 s:=hs▸I9 _;refine⟨fun h=> ?_,fun h=> ?_⟩
 . have h:=qA h;have h0:nv b=0:=by rw[<-a1,qO (l:=s) (by omega)];rfl
   exact⟨fun _=>⟨by trivial,by trivial,by trivial⟩,fun h1=>absurd h0 h1⟩
 have h:=qB h;have hb0:nv b≠0:=fun h0=>h (by rw[hs,h0,O3];rfl)
 refine⟨trivial, ?_⟩;rintro⟨d,_⟩ _ hd;simp only at hd⊢;rw[a0,a1]at hd;refine⟨fun h=> ?_,fun h=> ?_⟩
 . have h:=qA h;have a5:nv a<nv b:=by
    rcases sF (nv a) (nv b)with h1|h1
    . exact h1
    . unfold Cm at hd;rw[qL (by omega)]at hd;split at hd<;>omega
   refine⟨qZ a4 (qZ la (by decide)), ?_⟩;rintro⟨t,_⟩ _ ht;simp only at ht⊢;refine⟨fun h0=>absurd h0 hb0,fun _=>⟨?_, ?_,by trivial⟩⟩
   . rw[uB a5,O3]
   . rw[tS a5,ht,a0]
 have h:=qB h;have a7:nv b<=nv a:=by
  rcases sF (nv a) (nv b)with h1|h1
  . rw[Oi h1]at hd;omega
  . exact h1
 have a9:s.length<=r.length:=by rw[hr,hs];exact J3 a7
 refine⟨fun h2=> ?_,fun h2=> ?_⟩
 . have h2:=qA h2;refine⟨by omega, ?_⟩;rintro⟨x,_⟩ ⟨hx,_⟩ a2;refine⟨by omega, ?_⟩;rintro⟨y,_⟩ ⟨hy,_⟩ a3;change Int at x y;simp only at hx hy a2 a3⊢;rw[a0]at a2;rw[a1]at a3;have ab:x<=18446744073709551615:=by have:=hx.2;rw[CW]at this;exact this
   have e1:Int.tdiv x y=((nv a/nv b:Nat):Int):=by rw[a2,a3];rfl
   have e2:Int.tmod x y=((nv a%nv b:Nat):Int):=by rw[a2,a3];rfl
   have hq:nv a/nv b<=nv a:=wU _ _;refine⟨by omega,by omega,trivial, ?_⟩;rintro⟨q,_⟩ _ a6;refine⟨trivial, ?_⟩;rintro⟨m,_⟩ _ hm;simp only at a6 hm⊢;refine⟨fun h0=>absurd h0 hb0,fun _=>⟨?_, ?_,by trivial⟩⟩
   . rw[a6,e1];generalize nv a/nv b=Q at*;rw[W9 (by omega) (by omega)];rfl
   . rw[hm,e2];rfl
 have h2:=qB h2;refine⟨fun h3=> ?_,fun h3=> ?_⟩
 . have h3:=qA h3;have e:(gx (0:Int) s (0:Int)).toNat=nv b:=by
    rw[<-a1];obtain⟨z,rfl⟩:∃z,s= [z]:=g2a.1 (by omega);show z.toNat=z.toNat+4294967296*0;omega
   have hg:=Uk a8 (i:=0) (qI _) (by omega);refine⟨⟨qI _,by omega⟩,⟨qZ a4 la,by omega⟩, ?_⟩;rintro⟨q,m,_⟩ _ u;simp only at u⊢;rw[e,a0]at u;exact⟨fun h0=>absurd h0 hb0,fun _=>⟨u.1,u.2,by trivial⟩⟩
 have h3:=qB h3;refine⟨⟨qZ a4 la,by omega,a9,by rw[hs];exact aD hb0⟩, ?_⟩;rintro⟨q,m,_⟩ _ u;simp only at u⊢;rw[a0,a1]at u;exact⟨fun h0=>absurd h0 hb0,fun _=>⟨u.1,u.2,by trivial⟩⟩
structure fH (A B A' B':Nat):Prop where
 g:Nat.gcd A' B'=Nat.gcd A B
 le:B'<=A'
 lt:A'+B'<A+B
 top:A'<=A
def A2f {A B:Nat} (h:B<=A) (hB:0<B):fH A B B (A%B) where
 g:=by rw[wV A B,wV B];exact(g2y B A).symm
 le:=vZ (wA _ hB)
 lt:=by have:=wA A hB;omega
 top:=h
def A2r {A B:Nat} {u0 u1 v0 v1:Int} {ev:Bool} (hB:0<B) (h:B6t A B u0 u1 v0 v1 ev) (hv:v0≠0):
 (ev=true->B*v0.toNat<=A*u0.toNat/\A*u1.toNat<=B*v1.toNat/\fH A B (A*u0.toNat-B*v0.toNat) (B*v1.toNat-A*u1.toNat))/\
 (ev=false->A*u0.toNat<=B*v0.toNat/\B*v1.toNat<=A*u1.toNat/\fH A B (B*v0.toNat-A*u0.toNat) (A*u1.toNat-B*v1.toNat)):=by
 rcases h with h| ⟨A',B',eA,eB,h0,h1,iA,iB,p1,p2,p3,p4⟩
 . exact absurd h hv
 have hg:=A7a (A:=A) (B:=B) (A':=A') (B':=B') (u0:=u0) (u1:=u1) (v0:=v0) (v1:=v1) (s:=if ev then u0 else -u0) (t:=if ev then -v0 else v0) (p:=if ev then -u1 else u1) (q:=if ev then v1 else -v1) iA iB (by rw[eA];cases ev<;>simp<;>grind) (by rw[eB];cases ev<;>simp<;>grind);obtain⟨U0,rfl⟩:=uF p3;obtain⟨U1,rfl⟩:=uF p4;obtain⟨V0,rfl⟩:=uF (show(0:Int)<=v0 by omega);obtain⟨V1,rfl⟩:=uF (show(0:Int)<=v1 by omega);obtain⟨b,rfl⟩:=uF h0;obtain⟨a,rfl⟩:=uF (Int.le_trans h0 h1);simp only[qM];have k1:(1:Int)*(a:Int)<=(V1:Int)*a:=sJ p2 (by omega);have k2:(1:Int)*(b:Int)<=(V0:Int)*b:=sJ p1 (by omega);have m1:∀x y:Nat,((x*y:Nat):Int)=(y:Int)*(x:Int):=fun x y=>by rw[uJ,g1z]
 have e1:=m1 A U0;have e2:=m1 B V0;have e3:=m1 A U1;have e4:=m1 B V1;have u:fH A B a b:=⟨hg.symm,by omega,by omega,by omega⟩;refine⟨fun he=> ?_,fun he=> ?_⟩
 . subst he;simp only[xS]at eA eB;have z1:A*U0-B*V0=a:=by omega
   have z2:B*V1-A*U1=b:=by omega
   refine⟨by omega,by omega, ?_⟩;rw[z1,z2];exact u
 . subst he;simp only[vV,yD]at eA eB;have z1:B*V0-A*U0=a:=by omega
   have z2:A*U1-B*V1=b:=by omega
   refine⟨by omega,by omega, ?_⟩;rw[z1,z2];exact u
def A7b {x y:Int} (hx:0<=x) (u:0<y):Nat.gcd y.toNat (Int.tmod x y).toNat=Nat.gcd x.toNat y.toNat/\(Int.tmod x y).toNat<y.toNat:=by
 obtain⟨a,rfl⟩:=uF hx;obtain⟨b,rfl⟩:=uF (xK u);have e:Int.tmod (a:Int) (b:Int)=((a%b:Nat):Int):=rfl;simp only[e,qM];have hb:0<b:=by omega
 exact⟨by rw[wV a b,wV b];exact(g2y b a).symm,wA _ hb⟩
structure A4u (G:Nat) (a b:List Int):Prop where
 ea:a=nc (nv a)
 eb:b=nc (nv b)
 le:nv b<=nv a
 g:Nat.gcd (nv a) (nv b)=G
 len:a.length<=8796093022208
def A4u.step {G:Nat} {a b u b':List Int} {A' B':Nat} (h:A4u G a b) (s:fH (nv a) (nv b) A' B') (ha:u=nc A') (hb:b'=nc B'):A4u G u b'/\nv u+nv b'<nv a+nv b:=by
 have e1:nv u=A':=by rw[ha,E7]
 have e2:nv b'=B':=by rw[hb,E7]
 refine⟨⟨by rw[e1];exact ha,by rw[e2];exact hb,by rw[e1,e2];exact s.le,by rw[e1,e2,s.g];exact h.g, ?_⟩,by rw[e1,e2];exact s.lt⟩;have:=J3 s.top;rw[<-h.ea]at this;rw[ha];exact qZ this h.len
def JZ (x:A2 En.args) (hw:awf En.args x) (hp:En.pre x):AQ x:=by
 obtain⟨a,b,_⟩:=x;have ha:A6 a:=A3 hw.1.2;have hb:A6 b:=A3 hw.2.1.2;change List Int at a b;obtain⟨la,lb⟩:a.length<=8796093022208/\b.length<=8796093022208:=hp;have n1:=C7 ha;have n2:=C7 hb;simp only[AQ,iB,N2,oA,Cg];refine⟨trivial, ?_⟩;rintro⟨r,_⟩ _ hr;refine⟨trivial, ?_⟩;rintro⟨s,_⟩ _ hs;simp only at hr hs⊢;have a1:nv r=nv a:=by rw[hr,E7]
 have a2:nv s=nv b:=by rw[hs,E7]
 refine⟨fun p=>A4u (Nat.gcd (nv a) (nv b)) p.1 p.2.1,⟨trivial, ?_⟩, ?_⟩
 . rintro⟨d,_⟩ _ hd;simp only at hd⊢;rw[a1,a2]at hd;refine⟨fun h=> ?_,fun h=> ?_⟩
   . have h:=qA h;refine⟨by rw[a2];exact hs,by rw[a1];exact hr, ?_,by rw[a1,a2,wV],by rw[hs];omega⟩;rw[a1,a2];rcases sF (nv a) (nv b)with h1|h1
     . omega
     . unfold Cm at hd;rw[qL (by omega)]at hd;split at hd<;>omega
   . have h:=qB h;refine⟨by rw[a1];exact hr,by rw[a2];exact hs, ?_,by rw[a1,a2],by rw[hr];omega⟩;rw[a1,a2];rcases sF (nv a) (nv b)with h1|h1
     . rw[Oi h1]at hd;omega
     . exact h1
 rintro⟨a0,b0,_⟩ _ h0;simp only at h0⊢;refine⟨fun p=>A4u (Nat.gcd (nv a) (nv b)) p.1 p.2.1,fun p=>nv p.1+nv p.2.1,h0, ?_⟩;rintro⟨a',b',_⟩ ⟨a6,a7,_⟩ u;have a9:A6 a':=A3 a6.2;have aa:A6 b':=A3 a7.2;change List Int at a' b';simp only at u⊢;have a8:=u.len;have a5:b'.length<=a'.length:=by rw[u.ea,u.eb];exact J3 u.le
 refine⟨fun hc=> ?_,fun hc=> ?_⟩
 . have hc:=qA hc;have hB:0<nv b':=by
    rcases vG (nv b')with h1|h1
    . have:=u.eb;rw[h1,O3]at this;rw[this]at hc;exact absurd hc (by simp)
    . exact h1
   have a4:nv a'≠0:=by have:=u.le;omega
   refine⟨fun h2=> ?_,fun h2=> ?_⟩
   . have h2:=qA h2;refine⟨by omega, ?_⟩;rintro⟨x,_⟩ _ hx;refine⟨by omega, ?_⟩;rintro⟨y,_⟩ _ hy;simp only at hx hy⊢;refine⟨fun p=>0<=p.1/\0<=p.2.1/\Nat.gcd p.1.toNat p.2.1.toNat=Nat.gcd (nv a) (nv b),fun p=>p.2.1.toNat,⟨by show(0:Int)<=x;omega,by show(0:Int)<=y;omega, ?_⟩, ?_⟩
     . show Nat.gcd x.toNat y.toNat= _;rw[hx,hy,qM,qM];exact u.g
     rintro⟨X,Y,_⟩ _ ⟨x0,y0,hg⟩;change Int at X Y;simp only at x0 y0 hg⊢;refine⟨fun h3=> ?_,fun h3=> ?_⟩
     . have h3:=qA h3;obtain⟨g1,g2⟩:=A7b x0 (show 0<Y by omega);exact⟨h3,⟨y0,zA _ x0,by rw[g1];exact hg⟩,g2⟩
     . have h3:Y=0:=g2q (qB h3);refine⟨trivial, ?_⟩;rintro⟨q,_⟩ _ hq;simp only at hq⊢;rw[h3]at hg;rw[hq, <-hg];exact tT nc (g0y _).symm
   . have h2:=qB h2;refine⟨⟨by omega,by omega,by rw[u.ea];exact aD a4,u.le,a5⟩, ?_⟩;rintro⟨⟨u0,u1,v0,v1,ev⟩,_⟩ _ hL;change Int at u0 u1 v0 v1;change Bool at ev;simp only at hL⊢;refine⟨fun h4=> ?_,fun h4=> ?_⟩
     . refine⟨by omega, ?_⟩;rintro⟨q,m,ok,_⟩ _ a3;simp only at a3⊢;obtain⟨_,hm,_⟩:=a3.2 (by omega);exact u.step (A2f u.le hB) u.eb hm
     . have h4:=qB h4;obtain⟨w1,w2⟩:=A2r hB hL h4;refine⟨fun he=> ?_,fun he=> ?_⟩
       . obtain⟨c1,c2,st⟩:=w1 he;refine⟨⟨by omega,by omega,c1⟩, ?_⟩;rintro⟨p,_⟩ _ hp;refine⟨⟨by omega,by omega,c2⟩, ?_⟩;rintro⟨q,_⟩ _ hq;simp only at hp hq⊢;exact u.step st hp hq
       . obtain⟨c1,c2,st⟩:=w2 he;refine⟨⟨by omega,by omega,c1⟩, ?_⟩;rintro⟨p,_⟩ _ hp;refine⟨⟨by omega,by omega,c2⟩, ?_⟩;rintro⟨q,_⟩ _ hq;simp only at hp hq⊢;exact u.step st hp hq
 . have hc:=qB hc;refine⟨by show a'.length<=35184372088832;omega, ?_⟩;rintro⟨q,_⟩ _ hq;simp only at hq⊢;have hb0:nv b'=0:=by rw[qO (l:=b') (by omega)];rfl
   have:=u.g;rw[hb0,g0y]at this;rw[hq,this]
def HR:An:= {}
def FJ:An:= {}
def PA:An:= {}
def OZ:An:= {plan:= [(1,[1,3],[6],true,(.p 0 (.q 1 (.p 2 (.q 3 (.e 4 (.e 5 (.e 6 .done))))))))]}
def RI:An:= {plan:= [(1,[1,4],[7],true,(.p 0 (.q 1 (.p 2 (.p 3 (.q 4 (.e 5 (.e 6 (.e 7 .done)))))))))]}
def RG:An:= {plan:= [(2,[1,3,5],[8],true,(.p 0 (.q 1 (.p 2 (.q 3 (.p 4 (.q 5 (.e 6 (.e 7 (.e 8 .done))))))))))]}
def RH:An:= {plan:= [(1,[1,3,6,8],[11],true,(.p 0 (.q 1 (.p 2 (.q 3 (.p 4 (.p 5 (.q 6 (.p 7 (.q 8 (.e 9 (.e 10 (.e 11 .done)))))))))))))]}
def FH:An:= {plan:= [(1,[0,2],[],true,(.q 0 (.q 2 (.e 1 (.e 3 (.p 4 (.p 5 .done)))))))]}
def Pa:A2 Z4.args->Prop:=fun(x:Bool×List Int×Unit)=>(K8 x.1 (decide ((0:Int)<(x.2.1.length:Int))) false,x.2.1)=(x.1&&decide (x.2.1≠ []),x.2.1)
def F5 (P:(Bool×List Int)×Unit->Prop):Prop:=∀r:(Bool×List Int)×Unit,lA r.1/\True->P r
def Ni:A2 W4.args->Prop:=fun(x:C5)=>(iB (decide (x.1<0)) (True/\N2 fun r=>r.1=nc (u64.wrap (-u64.wrap x.1)).toNat->True/\F5 fun a=>a.1=(true&&decide (r.1≠ []),r.1)->a.1=ic x.1) (True/\N2 fun r=>r.1=nc (u64.wrap x.1).toNat->True/\F5 fun a=>a.1=(false&&decide (r.1≠ []),r.1)->a.1=ic x.1))
abbrev oO:=(Bool×List Int)×Unit
def Wd:A2 Cu.args->Prop:=fun(x:oO)=>True/\Cg fun r=>r.1=Cm (nv x.1.2) (nv [])->(iB (decide (r.1=0)) ((0:Int)=(iv x.1).sign) ((iB x.1.1 ((-1:Int)=(iv x.1).sign) ((1:Int)=(iv x.1).sign))))
def Wc:A2 Ct.args->Prop:=fun(x:oO)=>Hg x.1.2/\N2 fun r=>r.1=nc (nv x.1.2)->True/\F5 fun a=>a.1=(x.1.1&&decide (r.1≠ []),r.1)->a.1=ic (iv x.1)
def AJ:A2 Ek.args->Prop:=fun(x:oO)=>Hg x.1.2/\N2 fun r=>r.1=nc (nv x.1.2)->True/\F5 fun a=>a.1=(!x.1.1&&decide (r.1≠ []),r.1)->a.1=ic (-iv x.1)
abbrev XV:=(Bool×List Int)×(Bool×List Int)×Unit
def AH:A2 Ei.args->Prop:=fun(x:XV)=>let b:Prop:=(D6 x.1.2/\D6 x.2.1.2);let a:=(iv x.1+iv x.2.1);(iB ((x.1.1==x.2.1.1)) (b/\N2 fun r=>r.1=nc (nv x.1.2+nv x.2.1.2)->True/\F5 fun c=>c.1=(x.1.1&&decide (r.1≠ []),r.1)->c.1=ic a) (b/\∀(r:oP),Ix r.1/\True/\True->(nv x.1.2<nv x.2.1.2->r.1= []/\r.2.1=false)/\(nv x.2.1.2<=nv x.1.2->r.1=nc (nv x.1.2-nv x.2.1.2)/\r.2.1=true)->(iB r.2.1 (True/\F5 fun c=>c.1=(x.1.1&&decide (r.1≠ []),r.1)->c.1=ic a) ((D6 x.2.1.2/\D6 x.1.2)/\∀(r:oP),Ix r.1/\True/\True->(nv x.2.1.2<nv x.1.2->r.1= []/\r.2.1=false)/\(nv x.1.2<=nv x.2.1.2->r.1=nc (nv x.2.1.2-nv x.1.2)/\r.2.1=true)->True/\F5 fun c=>c.1=(x.2.1.1&&decide (r.1≠ []),r.1)->c.1=ic a))))
def AI:A2 Ej.args->Prop:=fun(x:XV)=>(D6 x.1.2/\D6 x.2.1.2)/\N2 fun r=>r.1=nc (nv x.1.2*nv x.2.1.2)->True/\F5 fun a=>a.1=(x.1.1 !=x.2.1.1&&decide (r.1≠ []),r.1)->a.1=ic (iv x.1*iv x.2.1)
def Nh:A2 W3.args->Prop:=fun(x:XV)=>let b:=(iv x.1);let a:=(iv x.2.1);True/\Cg fun r=>r.1=b.sign->True/\Cg fun c=>c.1=a.sign->(iB (decide (r.1<c.1)) ((-1:Int)=J8 b a) ((iB (decide (c.1<r.1)) ((1:Int)=J8 b a) ((iB (decide (r.1<0)) (True/\Cg fun r=>r.1=Cm (nv x.2.1.2) (nv x.1.2)->r.1=J8 b a) (True/\Cg fun r=>r.1=Cm (nv x.1.2) (nv x.2.1.2)->r.1=J8 b a))))))
def AK (x:A2 Z4.args) (u:awf Z4.args x) (_:Z4.pre x):Pa x:=by
 obtain⟨b,l,_⟩:=x;change Bool at b;change List Int at l;simp only[Pa,J9];cases l<;>simp
def Xq (x:A2 W4.args) (hw:awf W4.args x) (_:W4.pre x):Ni x:=by
 obtain⟨v,_⟩:=x;change Int at v;have hv:i64.min<=v/\v<=i64.max:=hw.1;rw[Ug,CB]at hv;simp only[Ni,iB,N2,F5];refine⟨fun h=>⟨trivial, ?_⟩,fun h=>⟨trivial, ?_⟩⟩
 . rintro⟨r,_⟩ _ u;refine⟨trivial, ?_⟩;rintro⟨s,_⟩ _ hs;simp only at u hs⊢;have h:=qA h;have e:(u64.wrap (-u64.wrap v)).toNat=v.natAbs:=by rw[Cb,Cb];omega
   rw[e]at u;subst hs u;unfold ic;rw[rK h,zZ,rK (by rw[g4r,Za];omega)]
 . rintro⟨r,_⟩ _ u;refine⟨trivial, ?_⟩;rintro⟨s,_⟩ _ hs;simp only at u hs⊢;have h:=qB h;have e:(u64.wrap v).toNat=v.natAbs:=by rw[Cb];omega
   rw[e]at u;subst hs u;unfold ic;rw[rJ h,g0q]
def GZ (x:A2 Cu.args) (hw:awf Cu.args x) (_:Cu.pre x):Wd x:=by
 obtain⟨⟨b,l⟩,_⟩:=x;change Bool at b;change List Int at l;simp only[Wd,iB,Cg];refine⟨trivial, ?_⟩;rintro⟨r,_⟩ _ u;simp only at u⊢;rw[dS]at u;refine⟨fun h=> ?_,fun h=>⟨fun hb=> ?_,fun hb=> ?_⟩⟩
 . have h:=qA h;have h0:nv l=0:=TX.1 (u▸h);unfold iv;simp only[h0];split<;>rfl
 . have h:=qB h;have h0:nv l≠0:=fun e=>h (by rw[u,e];rfl)
   unfold iv;simp only[hb,xS];rw[Int.sign_neg,uK (by omega)]
 . have h:=qB h;have h0:nv l≠0:=fun e=>h (by rw[u,e];rfl)
   unfold iv;simp only[hb];exact(uK (by simp;omega)).symm
def VK {neg:Bool} {m:Nat} {v:Int} (h:v=if neg=true then -(m:Int)else(m:Int)):(neg&&decide (nc m≠ []),nc m)=ic v:=by
 have e:ic (iv (neg,nc m))=(neg&&decide (m≠0),nc m):=A7i;have e2:iv (neg,nc m)=v:=by rw[h];unfold iv;simp only[E7]
 rw[e2]at e;rw[e];have:decide (nc m≠ [])=decide (m≠0):=wJ.2 (g4u Za);rw[this]
def GY (x:A2 Ct.args) (hw:awf Ct.args x) (hp:Ct.pre x):Wc x:=by
 obtain⟨⟨b,l⟩,_⟩:=x;change Bool at b;change List Int at l;simp only[Wc,N2,F5];refine⟨hp, ?_⟩;rintro⟨r,_⟩ _ u;refine⟨trivial, ?_⟩;rintro⟨z,_⟩ _ hz;simp only at u hz⊢;subst u;rw[hz];exact VK rfl
def JT (x:A2 Ei.args) (hw:awf Ei.args x) (hp:Ei.pre x):AH x:=by
 obtain⟨⟨b,l⟩,⟨c,k⟩,_⟩:=x;change Bool at b c;change List Int at l k;obtain⟨hl,hk⟩:D6 l/\D6 k:=hp;simp only[AH,iB,N2,F5];refine⟨fun h=> ?_,fun h=> ?_⟩
 . refine⟨⟨hl,hk⟩, ?_⟩;rintro⟨r,_⟩ _ hr;refine⟨trivial, ?_⟩;rintro⟨z,_⟩ _ u;simp only at hr u⊢;have h:b=c:=by simpa using h
   subst hr h;rw[u];refine VK ?_;unfold iv;cases b<;>simp<;>omega
 . have h:c= !b:=by cases b<;>cases c<;>simp_all
   subst h;refine⟨⟨hl,hk⟩, ?_⟩;rintro⟨r,ok,_⟩ _ hr;simp only at hr⊢;refine⟨fun h1=>⟨trivial, ?_⟩,fun h1=>⟨⟨hk,hl⟩, ?_⟩⟩
   . rintro⟨z,_⟩ _ u;simp only at u⊢;rcases sF (nv l) (nv k)with h2|h2
     . rw[(hr.1 h2).2]at h1;exact absurd h1 (by decide)
     . rw[(hr.2 h2).1]at u;rw[u];refine VK ?_;unfold iv;cases b<;>simp<;>omega
   . rintro⟨s,a0,_⟩ _ hs;refine⟨trivial, ?_⟩;rintro⟨z,_⟩ _ u;simp only at hs u⊢;rcases sF (nv l) (nv k)with h2|h2
     . rw[(hs.2 (by omega)).1]at u;rw[u];refine VK ?_;unfold iv;cases b<;>simp<;>omega
     . rw[(hr.2 h2).2]at h1;exact absurd h1 (by decide)
def JU (x:A2 Ej.args) (hw:awf Ej.args x) (hp:Ej.pre x):AI x:=by
 obtain⟨⟨b,l⟩,⟨c,k⟩,_⟩:=x;change Bool at b c;change List Int at l k;obtain⟨hl,hk⟩:D6 l/\D6 k:=hp;simp only[AI,N2,F5];refine⟨⟨hl,hk⟩, ?_⟩;rintro⟨r,_⟩ _ u;refine⟨trivial, ?_⟩;rintro⟨z,_⟩ _ hz;simp only at u hz⊢;subst u;rw[hz];refine VK ?_;unfold iv;cases b<;>cases c<;>simp<;>grind
def DE:An:= {}
def HY:An:= {plan:= [(3,[1],[4],false,(.p 0 (.q 1 (.p 2 (.or 3 (.e 4 (.p 5 .done)) (.e 4 (.e 3 (.p 5 .done))))))))]}
def LA:An:= {}
def HZ:An:= {}
def Ye:An:= {join:= [(4,⟨[0,1,4],[0],[(5,false,vU)],[],[]⟩)],loop:= [(5,⟨[0,1,4,5],[0],[(6,false,vU),(7,false,vU)],[],[]⟩)],plan:= [(6,[],[],true,(pZ9 0 6 .done)),(7,[],[13],true,(pZ9 0 5 (pZ9 7 4 (.e 5 (.p 6 (.e 11 (.p 12 (.e 13 .done))))))))]}
def FO:An:= {join:= [(8,⟨[2,4],[1],[(1,false,[.val (.sl (.int .u32))])],[(0,41,[.val .bool, .val (.sl (.int .u32))])],[]⟩)]}
def KZ:An:= {}
def Kn:A2 K7.args->Prop:=fun(x:C5)=>True/\F5 fun r=>r.1=ic x.1->(r.1,[(1:Int)])=ri x.1
def Ph:A2 Ae.args->Prop:=fun(x:G5)=>let d:=(1:Int);let c:=(0:Nat);let b:Prop:=(nv x.1.2=c->x.1.1=zi/\x.1.2= [d]);let a:Prop:=(nv x.1.2≠c->x.1.1=x.1.1/\x.1.2=x.1.2);True/\Cg fun r=>r.1=Cm (nv x.1.2) (nv [])->(iB (decide (r.1=0)) ((nv x.1.2=c->(false,[])=zi/\ [d]= [d])/\(nv x.1.2≠c->(false,[])=x.1.1/\ [d]=x.1.2)) ((b/\a)/\b/\a))
abbrev eU:=(Bool×List Int)×List Int×Unit
def Tk:A2 V5.args->Prop:=fun(x:G5)=>True/\∀(r:eU),lA r.1/\Ix r.2.1/\True->(nv x.1.2=0->r.1=zi/\r.2.1= [(1:Int)])/\(nv x.1.2≠0->r.1=x.1.1/\r.2.1=x.1.2)->True/\Cg fun a=>a.1=(iv r.1).sign->a.1=(rv x.1).num.sign
def Pj:A2 Af.args->Prop:=fun(x:G5)=>let e:=(0:Int);let c:Prop:=(¬I7 x.1->true=false);let b:=(18446744073709551616:Nat);True/\∀(r:A4b),HO r.1/\True/\True->(nv x.1.1.2<b->r.1=(↑(nv x.1.1.2):Int)/\r.2.1=true)/\(b<=nv x.1.1.2->r.2.1=false)->True/\∀(f:A4b),let d:=(decide (2147483648<=f.1));let a:=(K8 (K8 (!r.2.1) true !f.2.1) true (decide (2147483648<=r.1)));HO f.1/\True/\True->(nv x.1.2<b->f.1=(↑(nv x.1.2):Int)/\f.2.1=true)/\(b<=nv x.1.2->f.2.1=false)->(iB (K8 a true d) ((I7 x.1->e=Rq x.1/\e=Ns x.1/\false=true)/\(¬I7 x.1->false=false)) ((iB (decide (f.1=e)) ((I7 x.1->e=Rq x.1/\(1:Int)=Ns x.1/\true=true)/\c) ((iB x.1.1.1 ((I7 x.1->i64.wrap (-i64.wrap r.1)=Rq x.1/\i64.wrap f.1=Ns x.1/\true=true)/\c) ((I7 x.1->i64.wrap r.1=Rq x.1/\i64.wrap f.1=Ns x.1/\true=true)/\c))))))
def Jn:A2 Q8.args->Prop:=fun(x:Ce)=>let a:=(0:Int);∃(J:C5->Prop),((iB (decide (x.1<a)) (J (u64.wrap (-u64.wrap x.1),())) (J (u64.wrap x.1,()))))/\∀(p:C5),(Ty.int u64).wf p.1/\True->J p->∃(I:Ce->Prop),∃(μ: _->Nat),I (u64.wrap x.2.1,p)/\∀(c:Ce),let b:=(c.2.1,Int.tmod c.1 c.2.1,());(Ty.int u64).wf c.1/\(Ty.int u64).wf c.2.1/\True->I c->(iB (decide (c.2.1≠a)) (c.2.1≠a/\I b/\μ b<μ c) (c.1≠a/\c.1≠a/\True/\N2 fun r=>r.1=nc (u64.wrap (Int.tdiv p.1 c.1)).toNat->True/\N2 fun d=>d.1=nc (u64.wrap ((u64.wrap x.2.1).tdiv c.1)).toNat->((decide (x.1<a),r.1),d.1)=rc (mkRat x.1 x.2.1.toNat)))
abbrev C1m:=List Int×Bool×List Int×Unit
def Np:A2 W8.args->Prop:=fun(x:eU)=>let g:=(0:Nat);let f:=(nv x.2.1);let c:=(1:Int);let b:=(0:Int);Hg x.1.2/\F5 fun r=>let d:=(r.1.2.length:Int);r.1=ic (iv x.1)->Hg x.2.1/\N2 fun k=>k.1=nc f->(iB (decide (d=b)) (((false,[]),[c])=rc (mkRat (iv x.1) f)) ((V6 r.1.2/\V6 k.1)/\N2 fun h=>let e:=(decide (gx b h.1 b≠c));let a:=(h.1.length:Int);h.1=nc ((nv r.1.2).gcd (nv k.1))->∃(J:C1m->Prop),((decide (a≠c)=false->b<=b/\b<a)/\(iB (K8 (decide (a≠c)) true e) (D6 r.1.2/\∀(i:B0m),Ix i.1/\Ix i.2.1/\True/\True->(nv h.1=g->i.1= []/\i.2.1= []/\i.2.2.1=false)/\(nv h.1≠g->i.1=nc (nv r.1.2/nv h.1)/\i.2.1=nc (nv r.1.2%nv h.1)/\i.2.2.1=true)->D6 k.1/\∀(j:B0m),Ix j.1/\Ix j.2.1/\True/\True->(nv h.1=g->j.1= []/\j.2.1= []/\j.2.2.1=false)/\(nv h.1≠g->j.1=nc (nv k.1/nv h.1)/\j.2.1=nc (nv k.1%nv h.1)/\j.2.2.1=true)->J (j.1,r.1.1,i.1,())) (J (k.1,r.1.1,r.1.2,()))))/\∀(p:C1m),(Ty.int u32).sl.wf p.1/\Ty.bool.wf p.2.1/\(Ty.int u32).sl.wf p.2.2.1/\True->J p->((p.2.1,p.2.2.1),p.1)=rc (mkRat (iv x.1) f)))
def I6 (P:QQ×Unit->Prop):Prop:=∀r:QQ×Unit,Xz r.1/\True->P r
def Tj:A2 V4.args->Prop:=fun(x:G5)=>True/\∀(r:kN),K9 r.1/\K9 r.2.1/\True/\True->(I7 x.1->r.1=Rq x.1/\r.2.1=Ns x.1/\r.2.2.1=true)/\(¬I7 x.1->r.2.2.1=false)->(iB r.2.2.1 (0<r.2.1/\I6 fun a=>a.1=rc (mkRat r.1 r.2.1.toNat)->a.1=rc (rv x.1)) (True/\∀(r:eU),lA r.1/\Ix r.2.1/\True->(nv x.1.2=0->r.1=zi/\r.2.1= [(1:Int)])/\(nv x.1.2≠0->r.1=x.1.1/\r.2.1=x.1.2)->(nv r.2.1≠0/\V6 r.1.2/\V6 r.2.1)/\I6 fun a=>a.1=rc (mkRat (iv r.1) (nv r.2.1))->a.1=rc (rv x.1)))
def Vo (x:A2 K7.args) (hw:awf K7.args x) (_:K7.pre x):Kn x:=by
 obtain⟨v,_⟩:=x;simp only[Kn,F5];refine⟨trivial, ?_⟩;rintro⟨r,_⟩ _ u;simp only at u⊢;rw[u];rfl
def BB (x:A2 Ae.args) (hw:awf Ae.args x) (_:Ae.pre x):Ph x:=by
 obtain⟨⟨a,l⟩,_⟩:=x;change List Int at l;simp only[Ph,iB,Cg];refine⟨trivial, ?_⟩;rintro⟨r,_⟩ _ hr;simp only at hr⊢;rw[dS]at hr;refine⟨fun h=> ?_,fun h=> ?_⟩
 . have u:nv l=0:=TX.1 (hr▸qA h);exact⟨fun _=>⟨rfl,by trivial⟩,fun h=>absurd u h⟩
 . have u:nv l≠0:=fun e=>(qB h) (by rw[hr,e];rfl)
   exact⟨⟨fun h=>absurd h u,fun _=>⟨by trivial,by trivial⟩⟩,fun h=>absurd h u,fun _=>⟨by trivial,by trivial⟩⟩
def EJ (x:A2 V5.args) (hw:awf V5.args x) (_:V5.pre x):Tk x:=by
 obtain⟨⟨a,l⟩,_⟩:=x;change List Int at l;simp only[Tk,Cg];refine⟨trivial, ?_⟩;rintro⟨r,d,_⟩ _ ⟨hr,u⟩;refine⟨trivial, ?_⟩;rintro⟨s,_⟩ _ hs;simp only at hr u hs⊢;rw[hs, <-B3j];unfold B7o;split
 . rename_i h;rw[(hr h).1];rfl
 . rename_i h;rw[(u h).1]
def BC (x:A2 Af.args) (hw:awf Af.args x) (_:Af.pre x):Pj x:=by
 obtain⟨⟨⟨b,a⟩,l⟩,_⟩:=x;change Bool at b;change List Int at a l;simp only[Pj,iB];refine⟨trivial, ?_⟩;rintro⟨u,ok,_⟩ _ ⟨h1,h2⟩;refine⟨trivial, ?_⟩;rintro⟨v,a0,_⟩ _ ⟨h3,h4⟩;change Int at u v;change Bool at ok a0;simp only at h1 h2 h3 h4⊢;have hs:K8 (K8 (K8 (!ok) true !a0) true (decide (2147483648<=u))) true (decide (2147483648<=v))=(!ok|| !a0||decide (2147483648<=u) ||decide (2147483648<=v)):=by simp only[J1]
 rw[hs];have key:(!ok|| !a0||decide (2147483648<=u) ||decide (2147483648<=v))=false->I7 ((b,a),l)/\u=(nv a:Int)/\v=(nv l:Int):=fun h=>by
  simp only[rL,g0r,rS]at h;obtain⟨⟨⟨e1,e2⟩,e3⟩,e4⟩:=h;have ha:nv a<18446744073709551616:=by
   rcases sF (nv a) 18446744073709551616 with h|h
   . exact h
   . rw[h2 h]at e1;cases e1
  have hl:nv l<18446744073709551616:=by
   rcases sF (nv l) 18446744073709551616 with h|h
   . exact h
   . rw[h4 h]at e2;cases e2
  have q1:=(h1 ha).1;have q3:=(h3 hl).1;exact⟨⟨by show nv a< _;omega,by show nv l< _;omega⟩,q1,q3⟩
 have a3:I7 ((b,a),l)->(!ok|| !a0||decide (2147483648<=u) ||decide (2147483648<=v))=false:=fun h=>by
  obtain⟨g1,g2⟩:=h;change nv a< _ at g1;change nv l< _ at g2;obtain⟨q1,q2⟩:=h1 (by omega);obtain⟨q3,q4⟩:=h3 (by omega);simp only[rL,g0r,rS];exact⟨⟨⟨q2,q4⟩,by omega⟩,by omega⟩
 refine⟨fun h=>⟨fun hs=> ?_,fun _=>trivial⟩,fun h=> ?_⟩
 . rw[a3 hs]at h;cases h
 . obtain⟨a2,hu,hv⟩:=key h;have a1:=a2;obtain⟨g1,g2⟩:=a2;change nv a< _ at g1;change nv l< _ at g2;refine⟨fun hz=> ?_,fun hz=>⟨fun hb=> ?_,fun hb=> ?_⟩⟩
   . have hz:=qA hz;have h0:nv l=0:=by omega
     exact⟨fun _=>⟨by unfold Rq;rw[qT h0],by unfold Ns;rw[qT h0],trivial⟩,fun h=>absurd a1 h⟩
   . have hz:=qB hz;have h0:nv l≠0:=by omega
     refine⟨fun _=>⟨?_, ?_,trivial⟩,fun h=>absurd a1 h⟩
     . unfold Rq;rw[qL h0,wv (a:=u) (by omega),wv (by omega)];unfold iv;simp only[hb,xS];omega
     . unfold Ns;rw[qL h0,wv (by omega)];exact hv
   . have hz:=qB hz;have h0:nv l≠0:=by omega
     refine⟨fun _=>⟨?_, ?_,trivial⟩,fun h=>absurd a1 h⟩
     . unfold Rq;rw[qL h0,wv (a:=u) (by omega)];unfold iv;simp only[hb];simpa using hu
     . unfold Ns;rw[qL h0,wv (by omega)];exact hv
def Tl (x:A2 Q8.args) (hw:awf Q8.args x) (hp:Q8.pre x):Jn x:=by
 obtain⟨n,d,_⟩:=x;change Int at n d;have d0:0<d:=hp;have hn:=(show i64.min<=n/\n<=i64.max from hw.1);have hd1:=(show i64.min<=d/\d<=i64.max from hw.2.1);rw[Ug,CB]at hn hd1;obtain⟨n0,n1⟩:=hn;have d1:=hd1.2;have i1:i64.min= -9223372036854775808:=Ug;simp only[Jn,iB,N2];refine⟨fun p=>p.1=(n.natAbs:Int),⟨fun h=> ?_,fun h=> ?_⟩, ?_⟩
 . have h:=qA h;show u64.wrap (-u64.wrap n)= _;rw[Cb,Cb];omega
 . have h:=qB h;show u64.wrap n= _;rw[Cb];omega
 rintro⟨s,_⟩ _ hs;simp only at hs⊢;subst hs;have hd:u64.wrap d=d:=W9 (by omega) (by omega);refine⟨fun p=>0<=p.1/\0<=p.2.1/\(p.1≠0\/p.2.1≠0)/\p.1.toNat.gcd p.2.1.toNat=d.toNat.gcd n.natAbs,fun p=>p.2.1.toNat, ?_, ?_⟩
 . refine⟨by omega,by show(0:Int)<=(n.natAbs:Int);omega, .inl (by omega), ?_⟩;rw[hd];rfl
 rintro⟨g,t,_⟩ _ ⟨h0,h1,h2,h3⟩;change Int at g t;simp only at h0 h1 h2 h3⊢;refine⟨fun h=> ?_,fun h=> ?_⟩
 . have h:=qA h;have e:Int.tmod g t=g%t:=tW h0;have e2:=g2d g h;have e3:=zD g (b:=t) (by omega);rw[e];refine⟨h,⟨h1,e2, .inl h, ?_⟩,by omega⟩;rw[<-h3,Int.toNat_emod h0 h1,wV t.toNat, <-g2y,wV]
 . have h:t=0:=by simpa using h
   subst h;have hg:g≠0:=by omega
   refine⟨hg,hg,trivial, ?_⟩;rintro⟨r,_⟩ _ hr;refine⟨trivial, ?_⟩;rintro⟨q,_⟩ _ hq;simp only at hr hq⊢;have hG:g.toNat=d.toNat.gcd n.natAbs:=by rw[<-h3];simp
   have a4:0<g:=by omega
   have a1:g=((d.toNat.gcd n.natAbs:Nat):Int):=by omega
   obtain⟨hn,a3⟩:=Oh (x:=n) (d:=d.toNat) (by omega);have e1:(u64.wrap (Int.tdiv (n.natAbs:Int) g)).toNat=n.natAbs/d.toNat.gcd n.natAbs:=by
    rw[IntWalk.u64_quo _ _ ⟨by omega,by omega,by omega⟩,a1, <-g4f,qM]
   have e2:(u64.wrap (Int.tdiv d g)).toNat=d.toNat/d.toNat.gcd n.natAbs:=by
    rw[IntWalk.u64_quo _ _ ⟨by omega,by omega,by omega⟩,a1]
    conv=>lhs;rw[show d=((d.toNat:Nat):Int)from by omega]
    rw[<-g4f,qM];simp only[qM]
   rw[hr,hq,hd,e1,e2];unfold rc;rw[hn,a3];unfold ic;have u:((d.toNat.gcd n.natAbs:Nat):Int)∣n:=xY.2 (yL ..);have a0:0<d.toNat.gcd n.natAbs:=by omega
   generalize d.toNat.gcd n.natAbs=G at u a0;obtain⟨c,rfl⟩:=u;rw[xQ _ (by omega)];have a2:(G:Int)*c<0↔c<0:=by
    constructor
    . intro h;rcases g3x c 0 with h1|h1
      . exact h1
      . have:=tJ (xK (sQ.2 a0)) h1;omega
    . intro h;exact yR (by omega) h
   rw[vQ,uN,xV _ a0];simp only[a2]
def Un (x:D3):mkRat (Rq x) (Ns x).toNat=rv x:=by
 unfold Rq Ns rv;split
 . rename_i h;rw[h,yQ];rfl
 . rename_i h;rw[qM]
def A8x (x:D3):0<Ns x:=by
 unfold Ns;split
 . decide
 . omega
def Xv (x:A2 W8.args) (hw:awf W8.args x) (hp:W8.pre x):Np x:=by
 obtain⟨⟨b,l⟩,k,_⟩:=x;have hl:A6 l:=A3 hw.1.2.2;have hk:A6 k:=A3 hw.2.1.2;change Bool at b;change List Int at l k;obtain⟨hD,ll,lk⟩:nv k≠0/\l.length<=8796093022208/\k.length<=8796093022208:=hp;simp only[Np,iB,N2,F5];have nl:=C7 hl;have nk:=C7 hk;refine⟨by show l.length<=35184372088832;omega, ?_⟩;rintro⟨⟨s,r⟩,_⟩ _ hr;refine⟨by show k.length<=35184372088832;omega, ?_⟩;rintro⟨d,_⟩ _ hd;simp only at hr hd⊢;have a4:s=decide (iv (b,l)<0):=tT (·.1) hr;have a3:r=nc (iv (b,l)).natAbs:=tT (·.2) hr;have ea:(iv (b,l)).natAbs=nv l:=I4 _;have u:nv r=(iv (b,l)).natAbs:=by rw[a3,E7]
 have a0:nv d=nv k:=by rw[hd,E7]
 have a7:r.length<=l.length:=by rw[a3,ea];exact nl
 have a5:d.length<=k.length:=by rw[hd];exact nk
 refine⟨fun h=> ?_,fun h=> ?_⟩
 . have h:=qA h;have h0:r= []:=qO (by omega);rw[h0,dS]at u;have:iv (b,l)=0:=Int.natAbs_eq_zero.1 u.symm;rw[this,Rat.zero_mkRat,A0p]
 have h:=qB h;refine⟨⟨by omega,by omega⟩, ?_⟩;rintro⟨g,_⟩ _ hg;simp only at hg⊢;rw[u,a0]at hg;have a6:Nat.gcd (iv (b,l)).natAbs (nv k)≠0:=Nat.ne_of_gt (g1k _ (sV hD));have a1:nv g=Nat.gcd (iv (b,l)).natAbs (nv k):=by rw[hg,E7]
 refine⟨fun p=>((p.2.1,p.2.2.1),p.1)=rc (mkRat (iv (b,l)) (nv k)),⟨fun h1=> ?_,fun h1=> ?_,fun h1=> ?_⟩, ?_⟩
 . have h1:=qB h1;exact⟨qI _,by omega⟩
 . refine⟨by show r.length<= _;omega, ?_⟩;rintro⟨q,m,ok,_⟩ _ hq;refine⟨by show d.length<= _;omega, ?_⟩;rintro⟨q',m',a8,_⟩ _ a2;simp only at hq a2⊢;rw[eH hD,(hq.2 (by omega)).1,(a2.2 (by omega)).1,u,a0,a1,a4]
 . have h1:g.length=1/\gx 0 g 0=1:=by
    rw[J1]at h1;simp only[rL,rS]at h1;omega
   obtain⟨z,rfl⟩:∃z,g= [z]:=g2a.1 h1.1;have hz:z=1:=h1.2;subst hz;have h2:Nat.gcd (iv (b,l)).natAbs (nv k)=1:=by rw[<-a1];rfl
   rw[B3f hD h2];show((s,r),d)= _;rw[hd, <-hr]
 . rintro⟨a,s',c,_⟩ _ hJ;exact hJ
def EH (x:A2 V4.args) (hw:awf V4.args x) (hp:V4.pre x):Tj x:=by
 obtain⟨q,_⟩:=x;change D3 at q;obtain⟨h1,h2⟩:q.1.2.length<=2199023255552/\q.2.length<=2199023255552:=hp;simp only[Tj,iB,I6];refine⟨trivial, ?_⟩;rintro⟨n,d,ok,_⟩ _ ⟨s1,s2⟩;change Int at n d;simp only at s1 s2⊢;refine⟨fun h=> ?_,fun h=>⟨trivial, ?_⟩⟩
 . have hs:I7 q:=qU fun hn=>by rw[s2 hn]at h;cases h
   obtain⟨rfl,rfl,_⟩:=s1 hs;refine⟨A8x q, ?_⟩;rintro⟨r,_⟩ _ hr;simp only at hr⊢;rw[hr,Un]
 . rintro⟨n',d',_⟩ _ u;simp only at u⊢;obtain⟨a0,hv⟩:=Mi u;obtain⟨l1,l2⟩:=Ie (k:=2199023255552) u h1 h2 (by decide);refine⟨⟨a0,by show n'.2.length<= _;omega,by show d'.length<= _;omega⟩, ?_⟩;rintro⟨r,_⟩ _ hr;simp only at hr⊢;rw[hr,hv]
def PF:An:= {plan:= [(13,[0,4],[10],true,(.q 0 (.p 1 (.p 2 (.q 4 (.p 5 (.p 6 (.or 3 (.or 7 (.or 8 (.e 9 (.e 10 .done)) (.e 9 (.e 8 (.e 10 .done)))) (.e 9 (.e 7 (.e 8 (.e 10 .done))))) (.e 9 (.e 3 (.e 7 (.e 8 (.e 10 .done))))))))))))),(14,[0],[5],true,(.q 0 (.p 1 (.p 2 (.e 3 (.e 4 (.e 5 .done)))))))]}
def PL:An:= {}
def PJ:An:= {}
def PK:An:= {}
def DD:An:= {plan:= [(1,[0,2],[],true,(.q 0 (.q 2 (.e 1 (.e 3 (.p 4 (.p 5 .done))))))),(10,[0,4],[],true,(.q 0 (.p 1 (.p 2 (.q 4 (.p 5 (.p 6 (.e 3 (.e 7 (.e 8 (.p 9 .done)))))))))))]}
def PH:An:= {}
def PG:An:= {}
def Wi:A2 Cz.args->Prop:=fun(x:Ed)=>let g:=(0:Int);let e:=(0:Nat);let a:=(rv x.1+rv x.2.1);True/\Cg fun r=>r.1=(rv x.1).num.sign->(iB (decide (r.1=g)) (E3 x.2.1/\I6 fun r=>r.1=rc (rv x.2.1)->r.1=rc a) (True/\Cg fun r=>r.1=(rv x.2.1).num.sign->(iB (decide (r.1=g)) (E3 x.1/\I6 fun r=>r.1=rc (rv x.1)->r.1=rc a) (True/\∀(r:kN),K9 r.1/\K9 r.2.1/\True/\True->(I7 x.1->r.1=Rq x.1/\r.2.1=Ns x.1/\r.2.2.1=true)/\(¬I7 x.1->r.2.2.1=false)->True/\∀(q:kN),K9 q.1/\K9 q.2.1/\True/\True->(I7 x.2.1->q.1=Rq x.2.1/\q.2.1=Ns x.2.1/\q.2.2.1=true)/\(¬I7 x.2.1->q.2.2.1=false)->(iB (K8 r.2.2.1 q.2.2.1 false) (g<i64.wrap (r.2.1*q.2.1)/\I6 fun m=>m.1=rc (mkRat (i64.wrap (i64.wrap (r.1*q.2.1)+i64.wrap (q.1*r.2.1))) (i64.wrap (r.2.1*q.2.1)).toNat)->m.1=rc a) (True/\∀(r:eU),lA r.1/\Ix r.2.1/\True->(nv x.1.2=e->r.1=zi/\r.2.1= [(1:Int)])/\(nv x.1.2≠e->r.1=x.1.1/\r.2.1=x.1.2)->True/\∀(m:eU),let j:Prop:=(D6 r.1.2/\D6 m.2.1);let h:=(iv r.1*iv (false,m.2.1));let f:Prop:=(D6 m.1.2/\D6 r.2.1);let d:=(iv m.1*iv (false,r.2.1));let c:=(nv r.2.1*nv m.2.1);let b:Prop:=(D6 r.2.1/\D6 m.2.1);lA m.1/\Ix m.2.1/\True->(nv x.2.1.2=e->m.1=zi/\m.2.1= [(1:Int)])/\(nv x.2.1.2≠e->m.1=x.2.1.1/\m.2.1=x.2.1.2)->True/\Cg fun s=>s.1=Cm (nv r.2.1) (nv m.2.1)->(iB (decide (s.1=g)) ((D6 r.1.2/\D6 m.1.2)/\F5 fun p=>p.1=ic (iv r.1+iv m.1)->(nv r.2.1≠e/\V6 p.1.2/\V6 r.2.1)/\I6 fun o=>o.1=rc (mkRat (iv p.1) (nv r.2.1))->o.1=rc a) ((j/\F5 fun p=>p.1=ic h->(f/\F5 fun o=>let k:=(iv p.1+iv o.1);let i:Prop:=(D6 p.1.2/\D6 o.1.2);o.1=ic d->(i/\F5 fun n=>n.1=ic k->b/\N2 fun l=>l.1=nc c->(nv l.1≠e/\V6 n.1.2/\V6 l.1)/\I6 fun r=>r.1=rc (mkRat (iv n.1) (nv l.1))->r.1=rc a)/\i/\F5 fun n=>n.1=ic k->b/\N2 fun l=>l.1=nc c->(nv l.1≠e/\V6 n.1.2/\V6 l.1)/\I6 fun r=>r.1=rc (mkRat (iv n.1) (nv l.1))->r.1=rc a)/\f/\F5 fun o=>o.1=ic d->(D6 p.1.2/\D6 o.1.2)/\F5 fun n=>n.1=ic (iv p.1+iv o.1)->b/\N2 fun l=>l.1=nc c->(nv l.1≠e/\V6 n.1.2/\V6 l.1)/\I6 fun r=>r.1=rc (mkRat (iv n.1) (nv l.1))->r.1=rc a)/\j/\F5 fun p=>p.1=ic h->f/\F5 fun o=>o.1=ic d->(D6 p.1.2/\D6 o.1.2)/\F5 fun n=>n.1=ic (iv p.1+iv o.1)->b/\N2 fun l=>l.1=nc c->(nv l.1≠e/\V6 n.1.2/\V6 l.1)/\I6 fun r=>r.1=rc (mkRat (iv n.1) (nv l.1))->r.1=rc a))))))))
def Wn:A2 Ad.args->Prop:=fun(x:Ed)=>let a:=((!x.2.1.1.1,x.2.1.1.2),x.2.1.2);(E3 x.1/\E3 a)/\I6 fun r=>r.1=rc (rv x.1+rv a)->r.1=rc (rv x.1-rv x.2.1)
def Wl:A2 U3.args->Prop:=fun(x:Ed)=>let b:=(rv x.1*rv x.2.1);let a:=(0:Nat);True/\∀(r:kN),K9 r.1/\K9 r.2.1/\True/\True->(I7 x.1->r.1=Rq x.1/\r.2.1=Ns x.1/\r.2.2.1=true)/\(¬I7 x.1->r.2.2.1=false)->True/\∀(d:kN),K9 d.1/\K9 d.2.1/\True/\True->(I7 x.2.1->d.1=Rq x.2.1/\d.2.1=Ns x.2.1/\d.2.2.1=true)/\(¬I7 x.2.1->d.2.2.1=false)->(iB (K8 r.2.2.1 d.2.2.1 false) ((0:Int)<i64.wrap (r.2.1*d.2.1)/\I6 fun c=>c.1=rc (mkRat (i64.wrap (r.1*d.1)) (i64.wrap (r.2.1*d.2.1)).toNat)->c.1=rc b) (True/\∀(r:eU),lA r.1/\Ix r.2.1/\True->(nv x.1.2=a->r.1=zi/\r.2.1= [(1:Int)])/\(nv x.1.2≠a->r.1=x.1.1/\r.2.1=x.1.2)->True/\∀(c:eU),lA c.1/\Ix c.2.1/\True->(nv x.2.1.2=a->c.1=zi/\c.2.1= [(1:Int)])/\(nv x.2.1.2≠a->c.1=x.2.1.1/\c.2.1=x.2.1.2)->(D6 r.1.2/\D6 c.1.2)/\F5 fun f=>f.1=ic (iv r.1*iv c.1)->(D6 r.2.1/\D6 c.2.1)/\N2 fun e=>e.1=nc (nv r.2.1*nv c.2.1)->(nv e.1≠a/\V6 f.1.2/\V6 e.1)/\I6 fun r=>r.1=rc (mkRat (iv f.1) (nv e.1))->r.1=rc b))
def Wm:A2 Ac.args->Prop:=fun(x:G5)=>E3 x.1/\I6 fun r=>r.1=rc (rv x.1)->Hg r.1.1.2/\F5 fun a=>a.1=ic (-iv r.1.1)->(a.1,r.1.2)=rc (-rv x.1)
def Km:A2 U2.args->Prop:=fun(x:Ed)=>let c:=(0:Nat);let b:=(rv x.1);let a:=(rv x.2.1);True/\Cg fun r=>r.1=b.num.sign->True/\Cg fun f=>f.1=a.num.sign->(iB (decide (r.1≠f.1)) (True/\Cg fun e=>e.1=J8 r.1 f.1->e.1=SG b a) (True/\∀(r:kN),K9 r.1/\K9 r.2.1/\True/\True->(I7 x.1->r.1=Rq x.1/\r.2.1=Ns x.1/\r.2.2.1=true)/\(¬I7 x.1->r.2.2.1=false)->True/\∀(e:kN),K9 e.1/\K9 e.2.1/\True/\True->(I7 x.2.1->e.1=Rq x.2.1/\e.2.1=Ns x.2.1/\e.2.2.1=true)/\(¬I7 x.2.1->e.2.2.1=false)->(iB (K8 r.2.2.1 e.2.2.1 false) (True/\Cg fun d=>d.1=J8 (i64.wrap (r.1*e.2.1)) (i64.wrap (e.1*r.2.1))->d.1=SG b a) (True/\∀(r:eU),lA r.1/\Ix r.2.1/\True->(nv x.1.2=c->r.1=zi/\r.2.1= [(1:Int)])/\(nv x.1.2≠c->r.1=x.1.1/\r.2.1=x.1.2)->True/\∀(d:eU),lA d.1/\Ix d.2.1/\True->(nv x.2.1.2=c->d.1=zi/\d.2.1= [(1:Int)])/\(nv x.2.1.2≠c->d.1=x.2.1.1/\d.2.1=x.2.1.2)->(D6 r.1.2/\D6 d.2.1)/\F5 fun g=>g.1=ic (iv r.1*iv (false,d.2.1))->(D6 d.1.2/\D6 r.2.1)/\F5 fun h=>h.1=ic (iv d.1*iv (false,r.2.1))->True/\Cg fun r=>r.1=J8 (iv g.1) (iv h.1)->r.1=SG b a))))
def Wk:A2 Ab.args->Prop:=fun(x:G5)=>let a:=(rv x.1);True/\Cg fun r=>r.1=a.num.sign->(iB (decide (r.1=0)) ((rv x.1=(0:Rat)->false=false)/\(rv x.1≠(0:Rat)->dQ=rc a⁻¹/\false=true)) (E3 x.1/\I6 fun r=>r.1=rc a->(rv x.1=(0:Rat)->true=false)/\(rv x.1≠(0:Rat)->((r.1.1.1,r.1.2),r.1.1.2)=rc a⁻¹/\true=true)))
def Wj:A2 Da.args->Prop:=fun(x:Ed)=>let b:=(rv x.1/rv x.2.1);let a:=((x.2.1.1.1,x.2.1.2),x.2.1.1.2);True/\Cg fun r=>r.1=(rv x.2.1).num.sign->(iB (decide (r.1=0)) ((rv x.2.1=(0:Rat)->false=false)/\(rv x.2.1≠(0:Rat)->dQ=rc b/\false=true)) ((E3 x.1/\E3 a)/\I6 fun r=>r.1=rc (rv x.1*rv a)->(rv x.2.1=(0:Rat)->true=false)/\(rv x.2.1≠(0:Rat)->r.1=rc b/\true=true)))
def EU {q:Rat} (h:q.num.sign=0):q=0:=g0h.1 (yS.1 h)
def Lp {x:D3} (h:I7 x): -2147483647<=Rq x/\Rq x<=2147483647/\0<Ns x/\Ns x<=2147483647:=by
 obtain⟨h1,u⟩:=h;have:=I4 x.1;unfold Rq Ns;split
 . omega
 . omega
def Rn {a b M N:Int} (h1: -M<=a) (h2:a<=M) (u:0<=b) (h4:b<=N): -(M*N)<=a*b/\a*b<=M*N:=by
 have hM:0<=M:=by omega
 have a1:M*b<=M*N:=tV h4 hM;have a2:a*b<=M*b:=sJ h2 u;have a3: -M*b<=a*b:=sJ h1 u;rw[Int.neg_mul]at a3;omega
def A3s {a b c d:Int} (ha: -2147483647<=a/\a<=2147483647) (hb: -2147483647<=b/\b<=2147483647) (hc:0<c/\c<=2147483647) (u:0<d/\d<=2147483647):
 i64.wrap (c*d)=c*d/\0<c*d/\i64.wrap (i64.wrap (a*d)+i64.wrap (b*c))=a*d+b*c:=by
 have h1:=Rn ha.1 ha.2 (xK u.1) u.2;have h2:=Rn hb.1 hb.2 (xK hc.1) hc.2;have h3:=Rn (a:=c) (b:=d) (M:=2147483647) (by omega) hc.2 (xK u.1) u.2;have h4:0<c*d:=Int.mul_pos hc.1 u.1;rw[wv (a:=c*d) (by omega),wv (a:=a*d) (by omega),wv (a:=b*c) (by omega),wv (by omega)];exact⟨rfl,h4,rfl⟩
def HE (x:A2 Cz.args) (hw:awf Cz.args x) (hp:Cz.pre x):Wi x:=by
 obtain⟨p,q,_⟩:=x;have ag:A6 p.1.2:=A3 hw.1.1.2.2;have ah:A6 p.2:=A3 hw.1.2.2;have ai:A6 q.1.2:=A3 hw.2.1.1.2.2;have aj:A6 q.2:=A3 hw.2.1.2.2;change D3 at p q;obtain⟨a7,a8⟩:E3 p/\E3 q:=hp;obtain⟨a3,a4⟩:=a7;obtain⟨a5,a6⟩:=a8;simp only[Wi,iB,N2,Cg,F5,I6];refine⟨trivial, ?_⟩;rintro⟨s,_⟩ _ hs;simp only at hs⊢;refine⟨fun h=>⟨⟨a5,a6⟩, ?_⟩,fun h=>⟨trivial, ?_⟩⟩
 . rintro⟨r,_⟩ _ hr;simp only at hr⊢;rw[hs]at h;rw[hr,EU (qA h),tH]
 rintro⟨t,_⟩ _ ht;simp only at ht⊢;refine⟨fun h=>⟨⟨a3,a4⟩, ?_⟩,fun h=>⟨trivial, ?_⟩⟩
 . rintro⟨r,_⟩ _ hr;simp only at hr⊢;rw[ht]at h;rw[hr,EU (qA h),rO]
 rintro⟨an,ad,ae,_⟩ _ ⟨a1,a2⟩;refine⟨trivial, ?_⟩;rintro⟨bn,bd,af,_⟩ _ ⟨b1,b2⟩;change Int at an ad bn bd;simp only at a1 a2 b1 b2⊢;refine⟨fun h=> ?_,fun _=>⟨trivial, ?_⟩⟩
 . rw[J9,qC]at h;have sp:I7 p:=qU fun hn=>by have:=a2 hn;rw[this]at h;exact absurd h.1 (by decide)
   have sq:I7 q:=qU fun hn=>by have:=b2 hn;rw[this]at h;exact absurd h.2 (by decide)
   obtain⟨ea,ed,_⟩:=a1 sp;obtain⟨eb,ee,_⟩:=b1 sq;obtain⟨x1,x2,x3,x4⟩:=Lp sp;obtain⟨y1,y2,y3,y4⟩:=Lp sq;obtain⟨w1,w2,w3⟩:=A3s (a:=an) (b:=bn) (c:=ad) (d:=bd) (by omega) (by omega) (by omega) (by omega);rw[w1,w3];refine⟨w2, ?_⟩;rintro⟨r,_⟩ _ hr;simp only at hr⊢;rw[hr, <-Un p, <-Un q, <-ea, <-ed, <-eb, <-ee,LW (by omega) (by omega),sP (by omega),sP (by omega),g3l (by omega) (by omega)]
 . rintro⟨n,d,_⟩ ⟨ac,a9,_⟩ h1;refine⟨trivial, ?_⟩;rintro⟨m,e,_⟩ ⟨ab,aa,_⟩ h2;have ln:A6 n.2:=A3 ac.2.2;have ld:A6 d:=A3 a9.2;have lm:A6 m.2:=A3 ab.2.2;have le:A6 e:=A3 aa.2;refine⟨trivial, ?_⟩;rintro⟨c,_⟩ _ hc;change Kr at n m;change List Int at d e;simp only at h1 h2 hc⊢;obtain⟨d0,hP⟩:=Mi h1;obtain⟨e0,hQ⟩:=Mi h2;obtain⟨n1,d1⟩:=Ie (k:=2199023255552) h1 a3 a4 (by decide);obtain⟨m1,e1⟩:=Ie (k:=2199023255552) h2 a5 a6 (by decide);rw[hP,hQ];refine⟨fun h=> ?_,fun h=> ?_⟩
   . have h:=qA h;have he:nv d=nv e:=TX.1 (hc▸h);refine⟨⟨by show n.2.length<= _;omega,by show m.2.length<= _;omega⟩, ?_⟩;rintro⟨u,_⟩ _ hu;simp only at hu⊢;have l1:=TE (x:=n) (y:=m) ln lm n1 m1;refine⟨⟨d0,by show u.2.length<= _;rw[hu];omega,by show d.length<= _;omega⟩, ?_⟩;rintro⟨r,_⟩ _ hr;simp only at hr⊢;rw[hr,hu,M8, <-he,nD d0]
   . --the general case:the same four times
     have x1:=FX (x:=n) (y:=(false,e)) ln le;have x2:=FX (x:=m) (y:=(false,d)) lm ld;have g1:D6 n.2/\D6 e:=⟨by show n.2.length<= _;omega,by show e.length<= _;omega⟩;have g2:D6 m.2/\D6 d:=⟨by show m.2.length<= _;omega,by show d.length<= _;omega⟩;have fin:∀u v:Kr,u=ic (iv n*iv (false,e))->v=ic (iv m*iv (false,d))->(D6 u.2/\D6 v.2)/\∀(r_6:(Bool×List Int)×Unit),lA r_6.1/\True->r_6.1=ic (iv u+iv v)->(D6 d/\D6 e)/\∀(r_7:List Int×Unit),Ix r_7.1/\True->r_7.1=nc (nv d*nv e)->(nv r_7.1≠(0:Nat)/\V6 r_6.1.2/\V6 r_7.1)/\∀(r:QQ×Unit),Xz r.1/\True->r.1=rc (mkRat (iv r_6.1) (nv r_7.1))->r.1=rc (mkRat (iv n) (nv d)+mkRat (iv m) (nv e)):=by
      intro u v hu hv;have lu:u.2.length<=4398046511104:=by
       rw[hu];refine qZ x1 ?_;show n.2.length+e.length<= _;omega
      have lv:v.2.length<=4398046511104:=by
       rw[hv];refine qZ x2 ?_;show m.2.length+d.length<= _;omega
      refine⟨⟨by show u.2.length<= _;omega,by show v.2.length<= _;omega⟩, ?_⟩;rintro⟨w,_⟩ _ a0;refine⟨⟨g2.2,g1.2⟩, ?_⟩;rintro⟨z,_⟩ _ hz;simp only at a0 hz⊢;have l1:=TE (x:=u) (y:=v) (by rw[hu];exact iN _) (by rw[hv];exact iN _) lu lv;have l2:=GD ld le;refine⟨⟨by rw[hz,E7];exact zC d0 e0,by show w.2.length<= _;rw[a0];omega,by show z.length<= _;rw[hz];omega⟩, ?_⟩;rintro⟨r,_⟩ _ hr;simp only at hr⊢;rw[hr,a0,hz,E7,M8,hu,hv,M8,M8,Jv,Jv,LW d0 e0]
     exact⟨⟨g1,fun u _ hu=>⟨⟨g2,fun v _ hv=>⟨fin _ _ hu hv,fin _ _ hu hv⟩⟩,g2,fun v _ hv=>fin _ _ hu hv⟩⟩,g1,fun u _ hu=>⟨g2,fun v _ hv=>fin _ _ hu hv⟩⟩
def fR:An:= {loop:= [(2,⟨[0],[],[(3,false,vI)],[],[]⟩)]}
def bM:An:= {loop:= [(4,⟨[0,1],[],[(5,false,vI)],[],[]⟩)],plan:= [(6,[3,7],[],true,(pZ9 0 3 (.q 3 (pZ9 4 3 (.q 7 (.p 8 .done))))))]}
def HX:An:= {}
def lF:An:= {join:= [(8,⟨[0,1,5,7],[0],[(6,false,vU)],[],[]⟩),(10,⟨[0,1,5,7],[0],[(6,false,vU)],[],[]⟩)],loop:= [(4,⟨[0,1,5],[],[(6,false,vU),(7,false,vI)],[],[(0, .row (.int .u32) 103)]⟩)]}
def lI:An:= {join:= [(12,⟨[0,1,6,8],[0],[(9,false,vU)],[],[]⟩),(17,⟨[0,1,6,8,9],[0],[(7,false,vU),(10,false,vU)],[],[]⟩)],loop:= [(7,⟨[0,1,6],[],[(7,false,vU),(8,false,vI)],[],[(0, .row (.int .u32) 103)]⟩)]}
def RP:An:= {loop:= [(7,⟨[0,1],[],[(5,false,vI)],[],[]⟩)],plan:= [(9,[3,7],[],true,(pZ9 0 3 (.q 3 (pZ9 4 3 (.q 7 (.p 8 .done)))))),(11,[3,7],[],true,(pZ9 0 3 (.q 3 (pZ9 4 3 (.q 7 (.p 8 .done))))))]}
def lH:An:= {loop:= [(7,⟨[0,1,5,6],[],[(7,false,vU),(8,false,vI)],[],[(0, .row (.int .u32) 103)]⟩),(3,⟨[0,1,5],[],[(6,false,vI)],[],[(0, .row (.int .u32) 103)]⟩)],plan:= [(9,[6,11,16],[],true,(pZ9 0 6 (.q 6 (pZ9 7 4 (.q 11 (pZ9 12 4 (.q 16 (pZ9 17 5 .done))))))))]}
def XG:An:= {loop:= [(6,⟨[0],[],[(4,false,vU),(5,false,vI)],[],[]⟩)]}
def OI:A2 Mq.args->Prop:=fun(x:Lc)=>let f:=(1:Int);let c:=(x.1.length:Int);let a:=(0:Int);let g:=a.toNat;∃(I:C5->Prop),∃(μ: _->Nat),I (c,())/\∀(p:C5),let e:=p.1.toNat;let d:=(i64.wrap (p.1-f),());let b:=(decide (gx a x.1 (i64.wrap (p.1-f))=a));(Ty.int i64).wf p.1/\True->I p->(decide (a<p.1)=true->a<=i64.wrap (p.1-f)/\i64.wrap (p.1-f)<c)/\(iB (K8 (decide (a<p.1)) b false) (I d/\μ d<μ p) ((a<=a/\a<=p.1/\p.1<=c)/\(((0:Nat)+(List.drop g (List.take e x.1)).length)*(4:Nat)<=(140737488355328:Nat)/\(0:Nat)+(List.drop g (List.take e x.1)).length<=9223372036854775807)/\List.drop g (List.take e x.1)=nc (nv x.1)))
def KE:A2 Jf.args->Prop:=fun(x:Ev)=>let f:Prop:=(x.1=x.2.1);let e:=(0:Int);let b:=(x.2.1.length:Int);let a:=(x.1.length:Int);(iB (decide (a≠b)) (false=decide f) (∃(I:C5->Prop),∃(μ: _->Nat),I (e,())/\∀(p:C5),let d:=(i64.wrap (p.1+1),());let c:Prop:=(gx e x.1 p.1≠gx e x.2.1 p.1);(Ty.int i64).wf p.1/\True->I p->(iB (decide (p.1<a)) ((e<=p.1/\p.1<a)/\(e<=p.1/\p.1<b)/\(iB (decide c) (false=decide f) (I d/\μ d<μ p))) (true=decide f))))
def Pg:A2 Aa.args->Prop:=fun(x:C5)=>let a:=((32:Int).toNat);(0:(Ty.int u64).den)<=(32:Int)/\Hg [u32.wrap x.1,u32.wrap (Int.fdiv x.1 ((2:Int)^Min.min a u64.bits))]/\N2 fun r=>r.1=nc (nv [u32.wrap x.1,u32.wrap (Int.fdiv x.1 ((2:Int)^Min.min a u64.bits))])->r.1=nc x.1.toNat
def VX:A2 Se.args->Prop:=fun(x:Ev)=>let f:=(1:Int);let e:=(0:Int);let b:=(x.1.length:Int);let a:=(x.2.1.length:Int);(e<=i64.wrap (Max.max b a+f)/\i64.wrap (Max.max b a+f)<=i64.wrap (Max.max b a+f)/\(↑(4:Nat):Int)*i64.wrap (Max.max b a+f)<=(281474976710656:Int)/\i64.wrap (Max.max b a+f)<=(9223372036854775807:Int))/\∃(I:Sz->Prop),∃(μ: _->Nat),I (e,e,List.replicate (i64.wrap (Max.max b a+f)).toNat e,())/\∀(p:Sz),let d:=(p.2.2.1.length:Int);(Ty.int u64).wf p.1/\(Ty.int i64).wf p.2.1/\Ix p.2.2.1/\True->I p->(iB (decide (p.2.1<d)) (∃(J:C5->Prop),((iB (decide (p.2.1<b)) ((e<=p.2.1/\p.2.1<b)/\J (u64.wrap (p.1+u64.wrap (gx e x.1 p.2.1)),())) (J (p.1,()))))/\∀(g:C5),(Ty.int u64).wf g.1/\True->J g->∃(J:C5->Prop),((iB (decide (p.2.1<a)) ((e<=p.2.1/\p.2.1<a)/\J (u64.wrap (g.1+u64.wrap (gx e x.2.1 p.2.1)),())) (J g)))/\∀(h:C5),let c:=(Int.fdiv h.1 ((2:Int)^Min.min ((32:Int).toNat) u64.bits),i64.wrap (p.2.1+f),List.set p.2.2.1 p.2.1.toNat (u32.wrap h.1),());(Ty.int u64).wf h.1/\True->J h->(e<=p.2.1/\p.2.1<d)/\(0:(Ty.int u64).den)<=(32:Int)/\I c/\μ c<μ p) (Hg p.2.2.1/\N2 fun r=>r.1=nc (nv p.2.2.1)->r.1=nc (nv x.1+nv x.2.1)))
def WB:A2 Sh.args->Prop:=fun(x:Ev)=>let f:=(nv x.1-nv x.2.1);let c:=(0:Int);(D6 x.1/\D6 x.2.1)/\Cg fun r=>r.1=Cm (nv x.1) (nv x.2.1)->(iB (decide (r.1<c)) ((nv x.1<nv x.2.1->Cn Int= []/\false=false)/\(nv x.2.1<=nv x.1->Cn Int=nc f/\false=true)) (Hg x.1/\N2 fun r=>let a:=(r.1.length:Int);r.1=nc (nv x.1)->Hg x.2.1/\N2 fun j=>let e:=(j.1.length:Int);j.1=nc (nv x.2.1)->(c<=a/\a<=a/\(↑(4:Nat):Int)*a<=(281474976710656:Int)/\a<=(9223372036854775807:Int))/\∃(I:Sz->Prop),∃(μ: _->Nat),I (c,c,List.replicate a.toNat c,())/\∀(p:Sz),let d:=(gx c r.1 p.2.1);(Ty.int u64).wf p.1/\(Ty.int i64).wf p.2.1/\Ix p.2.2.1/\True->I p->(iB (decide (p.2.1<a)) (∃(J:C5->Prop),((iB (decide (p.2.1<e)) ((c<=p.2.1/\p.2.1<e)/\J (u64.wrap (p.1+u64.wrap (gx c j.1 p.2.1)),())) (J (p.1,()))))/\∀(i:C5),let g:Prop:=(u64.wrap d<i.1);(Ty.int u64).wf i.1/\True->J i->(c<=p.2.1/\p.2.1<a)/\∃(J:Ce->Prop),((iB (decide g) (J ((1:Int),u64.wrap (u64.wrap d+(4294967296:Int)),())) (J (c,u64.wrap d,()))))/\∀(h:Ce),let b:=(h.1,i64.wrap (p.2.1+1),List.set p.2.2.1 p.2.1.toNat (u32.wrap (u64.wrap (h.2.1-i.1))),());(Ty.int u64).wf h.1/\(Ty.int u64).wf h.2.1/\True->J h->(c<=p.2.1/\p.2.1<(p.2.2.1.length:Int))/\I b/\μ b<μ p) (Hg p.2.2.1/\N2 fun r=>r.1=nc (nv p.2.2.1)->(nv x.1<nv x.2.1->r.1= []/\true=false)/\(nv x.2.1<=nv x.1->r.1=nc f/\true=true)))))
def AW:A2 Er.args->Prop:=fun(x:Ev)=>let i:=(1:Int);let e:=(nv x.1);let d:=(nv x.2.1);let c:=(0:Int);Hg x.1/\N2 fun r=>let a:=(r.1.length:Int);r.1=nc e->Hg x.2.1/\N2 fun j=>let b:=(j.1.length:Int);j.1=nc d->(iB (decide (a≠b)) ((iB (decide (a<b)) ((-1:Int)=Cm e d) (i=Cm e d))) (∃(I:C5->Prop),∃(μ: _->Nat),I (i64.wrap (a-i),())/\∀(p:C5),let h:Prop:=(gx c j.1 p.1<gx c r.1 p.1);let g:Prop:=(gx c r.1 p.1<gx c j.1 p.1);let f:=(i64.wrap (p.1-i),());(Ty.int i64).wf p.1/\True->I p->(iB (decide (c<=p.1)) ((c<=p.1/\p.1<a)/\(c<=p.1/\p.1<b)/\(iB (decide g) ((-1:Int)=Cm e d) ((c<=p.1/\p.1<a)/\(c<=p.1/\p.1<b)/\(iB (decide h) (i=Cm e d) (I f/\μ f<μ p))))) (c=Cm e d))))
def WA:A2 Sg.args->Prop:=fun(x:Ev)=>let g:=(0:Int);let c:=(x.1.length:Int);let b:=(x.2.1.length:Int);(g<=i64.wrap (c+b)/\i64.wrap (c+b)<=i64.wrap (c+b)/\(↑(4:Nat):Int)*i64.wrap (c+b)<=(281474976710656:Int)/\i64.wrap (c+b)<=(9223372036854775807:Int))/\∃(I:NA->Prop),∃(μ: _->Nat),I (g,List.replicate (i64.wrap (c+b)).toNat g,())/\∀(p:NA),(Ty.int i64).wf p.1/\Ix p.2.1/\True->I p->(iB (decide (p.1<c)) (∃(I_1:Sz->Prop),∃(u: _->Nat),I_1 (g,g,p.2.1,())/\∀(j:Sz),let i:=(i64.wrap (p.1+j.2.1));let h:=(j.2.2.1.length:Int);let f:=(i64.wrap (p.1+1),List.set j.2.2.1 (i64.wrap (p.1+b)).toNat (u32.wrap j.1),());let e:Prop:=(g<=i64.wrap (p.1+j.2.1)/\i64.wrap (p.1+j.2.1)<h);let a:=(u64.wrap (j.1+u64.wrap (u64.wrap (List.getD j.2.2.1 i.toNat g)+u64.wrap (u64.wrap (gx g x.1 p.1)*u64.wrap (gx g x.2.1 j.2.1)))));let d:=(a.fdiv ((2:Int)^Min.min ((32:Int).toNat) u64.bits),i64.wrap (j.2.1+1),List.set j.2.2.1 i.toNat (u32.wrap a),());(Ty.int u64).wf j.1/\(Ty.int i64).wf j.2.1/\Ix j.2.2.1/\True->I_1 j->(iB (decide (j.2.1<b)) (e/\(g<=p.1/\p.1<c)/\(g<=j.2.1/\j.2.1<b)/\e/\(0:(Ty.int u64).den)<=(32:Int)/\I_1 d/\u d<u j) ((g<=i64.wrap (p.1+b)/\i64.wrap (p.1+b)<h)/\I f/\μ f<μ p))) (Hg p.2.1/\N2 fun r=>r.1=nc (nv p.2.1)->r.1=nc (nv x.1*nv x.2.1)))
def FA:A2 Gr.args->Prop:=fun(x:Lc)=>let d:=(0:Int);let c:=(18446744073709551616:Nat);Hg x.1/\N2 fun r=>let b:=(r.1.length:Int);r.1=nc (nv x.1)->(iB (decide ((2:Int)<b)) ((nv x.1<c->d=(↑(nv x.1):Int)/\false=true)/\(c<=nv x.1->false=false)) (∃(I:Ce->Prop),∃(μ: _->Nat),I (d,i64.wrap (b-(1:Int)),())/\∀(p:Ce),let a:=(u64.wrap (↑(BitVec.ofInt u64.bits (u64.wrap (p.1*2^Min.min ((32:Int).toNat) u64.bits)) |||BitVec.ofInt u64.bits (u64.wrap (gx d r.1 p.2.1))).toNat:Int),i64.wrap (p.2.1-1),());(Ty.int u64).wf p.1/\(Ty.int i64).wf p.2.1/\True->I p->(iB (decide (d<=p.2.1)) ((0:(Ty.int u64).den)<=(32:Int)/\(d<=p.2.1/\p.2.1<b)/\I a/\μ a<μ p) ((nv x.1<c->p.1=(↑(nv x.1):Int)/\true=true)/\(c<=nv x.1->true=false)))))
end Go.Proofs.YtiflhbllbgajeaaGreat
