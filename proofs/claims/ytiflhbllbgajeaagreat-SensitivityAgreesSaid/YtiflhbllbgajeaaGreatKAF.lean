/- Part. -/
import Derived.Test.YtiflhbllbgajeaaGreatRows
import Derived.Test.YtiflhbllbgajeaaGreatKAE
set_option linter.all false
namespace Go.Proofs.YtiflhbllbgajeaaGreat
open Go.Proofs.Tryz
open Go.Vc Go.Gw
open Go.IntKind (i64 u64 u32)
abbrev I2 (a:Int):Prop:=i64.min<=a/\a<=i64.max
abbrev MJ (a:Int):Prop:=u64.min<=a/\a<=u64.max
abbrev Kj (l:Xr):Prop:=List.length l<=(9223372036854775807:Nat)/\∀(x:Int),x∈l->u32.min<=x/\x<=u32.max
abbrev MK (l:Xr):Prop:=List.length l<=(9223372036854775807:Nat)/\∀(x:Int),x∈l->i64.min<=x/\x<=i64.max
abbrev WfZ (z:Bool×Xr):Prop:=True/\Kj z.2
abbrev Zr (q:(Bool×Xr)×Xr):Prop:=WfZ q.1/\Kj q.2
abbrev WfE (e:Int×(Bool×Xr)×Xr):Prop:=I2 e.1/\WfZ e.2.1/\Kj e.2.2
abbrev UR (l:List (Int×(Bool×Xr)×Xr)):Prop:=List.length l<=(9223372036854775807:Nat)/\∀(x:Int×(Bool×Xr)×Xr),x∈l->WfE x
abbrev QQ:=(Bool×Xr)×Xr
abbrev EE:=Int×(Bool×Xr)×Xr
abbrev dQ:QQ:=((false,[]),[])
abbrev F3:EE:=((0:Int),(false,[]),[])
abbrev MM:=Int×Int×List (List EE)
abbrev MG (l:List QQ):Prop:=List.length l<=9223372036854775807/\∀(x:QQ),x∈l->Zr x
abbrev Rw (l:List (List EE)):Prop:=List.length l<=9223372036854775807/\∀(x:List EE),x∈l->x.length<=9223372036854775807/\∀(y:EE),y∈x->WfE y
abbrev WfM (m:MM):Prop:=I2 m.1/\I2 m.2.1/\Rw m.2.2
abbrev tQ:Ty:=(.pair (.pair .bool (.sl (.int .u32))) (.sl (.int .u32)))
abbrev tE:Ty:=(.pair (.int .i64) tQ)
abbrev tM:Ty:=(.pair (.int .i64) (.pair (.int .i64) (.sl (.sl tE))))
def tys:List (Nat×TI):= [(2,{ty:=(.int .i64),agg:=false}),
 (3,{ty:=(.int .i64),agg:=false}),
 (4,{ty:= .bool,agg:=false}),
 (5,{ty:=(.int .u8),agg:=false}),
 (9,{ty:= .str,agg:=false}),
 (22,{ty:=(.sl (.int .i64)),agg:=false,elem:=3,bytes:=8}),
 (23,{ty:=(.sl (.pair (.int .i64) (.pair (.int .i64) (.pair tQ tQ)))),agg:=false,elem:=45,bytes:=128}),
 (25,{ty:=(.pair (.int .i64) (.sl (.pair (.int .i64) (.pair (.int .i64) (.pair tQ tQ))))),agg:=true,fields:= [(0,1,false),(1,1,false)]}),
 (27,{ty:=(.sl (.sl tE)),agg:=false,elem:=79,bytes:=24}),
 (29,{ty:=tM,agg:=true,fields:= [(0,1,false),(1,1,false),(2,1,false)]}),
 (31,{ty:=(.pair (.sl (.int .i64)) (.pair tM tM)),agg:=true,fields:= [(0,1,false),(1,3,true),(4,3,true)]}),
 (37,{ty:=(.sl (.pair (.int .i64) (.int .i64))),agg:=false,elem:=74,bytes:=16}),
 (39,{ty:=(.sl (.int .u32)),agg:=false,elem:=103,bytes:=4}),
 (41,{ty:=(.pair .bool (.sl (.int .u32))),agg:=true,fields:= [(0,1,false),(1,1,false)]}),
 (43,{ty:=tQ,agg:=true,fields:= [(0,2,true),(2,1,false)]}),
 (45,{ty:=(.pair (.int .i64) (.pair (.int .i64) (.pair tQ tQ))),agg:=true,fields:= [(0,1,false),(1,1,false),(2,3,true),(5,3,true)]}),
 (46,{ty:=(.sl tQ),agg:=false,elem:=43,bytes:=56}),
 (53,{ty:=(.sl (.sl tQ)),agg:=false,elem:=46,bytes:=24}),
 (74,{ty:=(.pair (.int .i64) (.int .i64)),agg:=true,elem:=3,arr:=2}),
 (79,{ty:=(.sl tE),agg:=false,elem:=106,bytes:=64}),
 (98,{ty:=(.pair (.sl (.int .i64)) (.int .i64)),agg:=true,fields:= [(0,1,false),(1,1,false)]}),
 (103,{ty:=(.int .u32),agg:=false}),
 (106,{ty:=tE,agg:=true,fields:= [(0,1,false),(1,3,true)]}),
 (109,{ty:=(.sl (.int .i64)),agg:=false,elem:=3,bytes:=8}),
 (114,{ty:=(.pair (.sl (.int .i64)) (.pair (.sl (.int .i64)) (.pair tM tM))),agg:=true,fields:= [(0,1,false),(1,1,false),(2,3,true),(5,3,true)]}),
 (124,{ty:=(.int .u64),agg:=false}),
 (144,{ty:=(.mp false (.int .i64) false (.sl (.int .i64))),agg:=false,elem:=22,key:=3}),
 (148,{ty:=(.ptr (.pair (.sl (.sl tE)) (.pair (.sl (.sl tE)) (.pair (.sl (.mp false (.int .i64) false .bool)) (.sl (.int .i64)))))),agg:=false}),
 (153,{ty:=(.sl (.mp false (.int .i64) false .bool)),agg:=false,elem:=174,bytes:=8}),
 (155,{ty:=(.pair (.sl (.sl tE)) (.pair (.sl (.sl tE)) (.pair (.sl (.mp false (.int .i64) false .bool)) (.sl (.int .i64))))),agg:=true,fields:= [(0,1,false),(1,1,false),(2,1,false),(3,1,false)]}),
 (165,{ty:=(.int .u64),agg:=false}),
 (174,{ty:=(.mp false (.int .i64) false .bool),agg:=false,elem:=4,key:=3}),
 (183,{ty:=(.pair (.int .u64) (.pair (.int .u64) (.pair (.int .u64) (.pair (.int .u64) .bool)))),agg:=true,fields:= [(0,1,false),(1,1,false),(2,1,false),(3,1,false),(4,1,false)]}),
 (201,{ty:=(.sl .bool),agg:=false,elem:=4,bytes:=1})]
def A3:I1 prog tys=true:=by kernel_rfl
def C0w:List (Nat×TI):= [(2,{ty:=(.int .i64),agg:=false}),
 (3,{ty:=(.int .i64),agg:=false}),
 (4,{ty:= .bool,agg:=false}),
 (5,{ty:=(.int .u8),agg:=false}),
 (9,{ty:= .str,agg:=false}),
 (22,{ty:=(.sl (.int .i64)),agg:=false,elem:=3,bytes:=8}),
 (23,{ty:=(.sl (.pair (.int .i64) (.pair (.int .i64) (.pair tQ tQ)))),agg:=false,elem:=45,bytes:=128}),
 (25,{ty:=(.pair (.int .i64) (.sl (.pair (.int .i64) (.pair (.int .i64) (.pair tQ tQ))))),agg:=true,fields:= [(0,1,false),(1,1,false)]}),
 (27,{ty:=(.sl (.sl tE)),agg:=false,elem:=79,bytes:=24,rows:=true}),
 (29,{ty:=tM,agg:=true,fields:= [(0,1,false),(1,1,false),(2,1,false)]}),
 (31,{ty:=(.pair (.sl (.int .i64)) (.pair tM tM)),agg:=true,fields:= [(0,1,false),(1,3,true),(4,3,true)]}),
 (37,{ty:=(.sl (.pair (.int .i64) (.int .i64))),agg:=false,elem:=74,bytes:=16}),
 (39,{ty:=(.sl (.int .u32)),agg:=false,elem:=103,bytes:=4}),
 (41,{ty:=(.pair .bool (.sl (.int .u32))),agg:=true,fields:= [(0,1,false),(1,1,false)]}),
 (43,{ty:=tQ,agg:=true,fields:= [(0,2,true),(2,1,false)]}),
 (45,{ty:=(.pair (.int .i64) (.pair (.int .i64) (.pair tQ tQ))),agg:=true,fields:= [(0,1,false),(1,1,false),(2,3,true),(5,3,true)]}),
 (46,{ty:=(.sl tQ),agg:=false,elem:=43,bytes:=56}),
 (53,{ty:=(.sl (.sl tQ)),agg:=false,elem:=46,bytes:=24,rows:=true}),
 (74,{ty:=(.pair (.int .i64) (.int .i64)),agg:=true,elem:=3,arr:=2}),
 (79,{ty:=(.sl tE),agg:=false,elem:=106,bytes:=64}),
 (98,{ty:=(.pair (.sl (.int .i64)) (.int .i64)),agg:=true,fields:= [(0,1,false),(1,1,false)]}),
 (103,{ty:=(.int .u32),agg:=false}),
 (106,{ty:=tE,agg:=true,fields:= [(0,1,false),(1,3,true)]}),
 (109,{ty:=(.sl (.int .i64)),agg:=false,elem:=3,bytes:=8}),
 (114,{ty:=(.pair (.sl (.int .i64)) (.pair (.sl (.int .i64)) (.pair tM tM))),agg:=true,fields:= [(0,1,false),(1,1,false),(2,3,true),(5,3,true)]}),
 (124,{ty:=(.int .u64),agg:=false}),
 (144,{ty:=(.mp false (.int .i64) false (.sl (.int .i64))),agg:=false,elem:=22,key:=3,rows:=true}),
 (148,{ty:=(.ptr (.pair (.sl (.sl tE)) (.pair (.sl (.sl tE)) (.pair (.sl (.mp false (.int .i64) false .bool)) (.sl (.int .i64)))))),agg:=false}),
 (153,{ty:=(.sl (.mp false (.int .i64) false .bool)),agg:=false,elem:=174,bytes:=8}),
 (155,{ty:=(.pair (.sl (.sl tE)) (.pair (.sl (.sl tE)) (.pair (.sl (.mp false (.int .i64) false .bool)) (.sl (.int .i64))))),agg:=true,fields:= [(0,1,false),(1,1,false),(2,1,false),(3,1,false)]}),
 (165,{ty:=(.int .u64),agg:=false}),
 (174,{ty:=(.mp false (.int .i64) false .bool),agg:=false,elem:=4,key:=3}),
 (183,{ty:=(.pair (.int .u64) (.pair (.int .u64) (.pair (.int .u64) (.pair (.int .u64) .bool)))),agg:=true,fields:= [(0,1,false),(1,1,false),(2,1,false),(3,1,false),(4,1,false)]}),
 (201,{ty:=(.sl .bool),agg:=false,elem:=4,bytes:=1})]
def WZ:I1 prog C0w=true:=by kernel_rfl
def WC:List (Nat×TI):= [(2,{ty:=(.int .i64),agg:=false}),
 (3,{ty:=(.int .i64),agg:=false}),
 (4,{ty:= .bool,agg:=false}),
 (5,{ty:=(.int .u8),agg:=false}),
 (9,{ty:= .str,agg:=false}),
 (22,{ty:=(.sl (.int .i64)),agg:=false,elem:=3,bytes:=8}),
 (23,{ty:=(.sl (.pair (.int .i64) (.pair (.int .i64) (.pair tQ tQ)))),agg:=false,elem:=45,bytes:=128}),
 (25,{ty:=(.pair (.int .i64) (.sl (.pair (.int .i64) (.pair (.int .i64) (.pair tQ tQ))))),agg:=true,fields:= [(0,1,false),(1,1,false)]}),
 (27,{ty:=(.sl (.sl tE)),agg:=false,elem:=79,bytes:=24,nest:= [14]}),
 (29,{ty:=tM,agg:=true,fields:= [(0,1,false),(1,1,false),(2,1,false)]}),
 (31,{ty:=(.pair (.sl (.int .i64)) (.pair tM tM)),agg:=true,fields:= [(0,1,false),(1,3,true),(4,3,true)]}),
 (37,{ty:=(.sl (.pair (.int .i64) (.int .i64))),agg:=false,elem:=74,bytes:=16}),
 (39,{ty:=(.sl (.int .u32)),agg:=false,elem:=103,bytes:=4}),
 (41,{ty:=(.pair .bool (.sl (.int .u32))),agg:=true,fields:= [(0,1,false),(1,1,false)]}),
 (43,{ty:=tQ,agg:=true,fields:= [(0,2,true),(2,1,false)]}),
 (45,{ty:=(.pair (.int .i64) (.pair (.int .i64) (.pair tQ tQ))),agg:=true,fields:= [(0,1,false),(1,1,false),(2,3,true),(5,3,true)]}),
 (46,{ty:=(.sl tQ),agg:=false,elem:=43,bytes:=56}),
 (53,{ty:=(.sl (.sl tQ)),agg:=false,elem:=46,bytes:=24}),
 (74,{ty:=(.pair (.int .i64) (.int .i64)),agg:=true,elem:=3,arr:=2}),
 (79,{ty:=(.sl tE),agg:=false,elem:=106,bytes:=64}),
 (98,{ty:=(.pair (.sl (.int .i64)) (.int .i64)),agg:=true,fields:= [(0,1,false),(1,1,false)]}),
 (103,{ty:=(.int .u32),agg:=false}),
 (106,{ty:=tE,agg:=true,fields:= [(0,1,false),(1,3,true)]}),
 (109,{ty:=(.sl (.int .i64)),agg:=false,elem:=3,bytes:=8}),
 (114,{ty:=(.pair (.sl (.int .i64)) (.pair (.sl (.int .i64)) (.pair tM tM))),agg:=true,fields:= [(0,1,false),(1,1,false),(2,3,true),(5,3,true)]}),
 (124,{ty:=(.int .u64),agg:=false}),
 (144,{ty:=(.mp false (.int .i64) false (.sl (.int .i64))),agg:=false,elem:=22,key:=3}),
 (148,{ty:=(.ptr (.pair (.sl (.sl tE)) (.pair (.sl (.sl tE)) (.pair (.sl (.mp false (.int .i64) false .bool)) (.sl (.int .i64)))))),agg:=false}),
 (153,{ty:=(.sl (.mp false (.int .i64) false .bool)),agg:=false,elem:=174,bytes:=8,nest:= [17]}),
 (155,{ty:=(.pair (.sl (.sl tE)) (.pair (.sl (.sl tE)) (.pair (.sl (.mp false (.int .i64) false .bool)) (.sl (.int .i64))))),agg:=true,fields:= [(0,1,false),(1,1,false),(2,1,false),(3,1,false)]}),
 (165,{ty:=(.int .u64),agg:=false}),
 (174,{ty:=(.mp false (.int .i64) false .bool),agg:=false,elem:=4,key:=3,nest:= [44,66]}),
 (183,{ty:=(.pair (.int .u64) (.pair (.int .u64) (.pair (.int .u64) (.pair (.int .u64) .bool)))),agg:=true,fields:= [(0,1,false),(1,1,false),(2,1,false),(3,1,false),(4,1,false)]}),
 (201,{ty:=(.sl .bool),agg:=false,elem:=4,bytes:=1})]
def HC:I1 prog WC=true:=by kernel_rfl
abbrev C8:=Int×Unit
abbrev D5:=QQ×Unit
def Pf:A6:= {args:= [.val true tQ],res:= [.val false (.int .i64)],shared:=false,pre:=fun(x:D5)=>D8 x.1,post:=fun(x:D5) (r:C8)=>r.1=(rv x.1).num.sign}
abbrev X1 (a:List AM) (r:List RT) (p:A2 a->Prop) (q:A2 a->Ci r->Prop):A6:= {args:=a,res:=r,shared:=true,pre:=p,post:=q}
abbrev mkM (a:List AM) (r:List RT) (p:A2 a->Prop) (q:A2 a->Ci r->Prop) (m:A2 a->Ci r->Qe a->Prop):A6:= {args:=a,res:=r,shared:=true,pre:=p,post:=q,mpost:=m}
def Cz:A6:=X1 [.val false (.int .i64)] [.val true tQ] (fun(x:C8)=>True) (fun(x:C8) (r:D5)=>r.1=ri x.1)
abbrev V4:=Bool×Unit
abbrev T4:=QQ×QQ×Unit
def Ku:A6:= {args:= [.val true tQ, .val true tQ],res:= [.val false .bool],shared:=false,pre:=fun(x:T4)=>True,post:=fun(x:T4) (r:V4)=>r.1=decide (x.1=x.2.1)}
def Nj:A6:=X1 [.val true tQ] [.val true tQ] (fun(x:D5)=>D8 x.1) (fun(x:D5) (r:D5)=>r.1=rc (-(rv x.1)))
def Va:A6:=X1 [.val true tQ, .val true tQ] [.val true tQ] (fun(x:T4)=>D8 x.1/\D8 x.2.1) (fun(x:T4) (r:D5)=>r.1=rc (rv x.1+rv x.2.1))
def Jz:A6:=X1 [] [.val true tQ] (fun(x:Unit)=>True) (fun(x:Unit) (r:D5)=>r.1=rc 0)
abbrev Dl:=Int×Int×Unit
def Vb:A6:=X1 [.val false (.int .i64), .val false (.int .i64)] [.val true tQ] (fun(x:Dl)=>True) (fun(x:Dl) (r:D5)=>r.1=rc (Rat.divInt x.1 x.2.1))
def Bj:A6:=X1 [.val true tQ, .val true tQ] [.val true tQ] (fun(x:T4)=>D8 x.1/\D8 x.2.1) (fun(x:T4) (r:D5)=>r.1=rc (rv x.1-rv x.2.1))
abbrev MH:=(Bool×Xr)×Unit
def Pa:A6:= {args:= [.val true (.pair .bool (.sl (.int .u32)))],res:= [.val false (.int .i64)],shared:=false,pre:=fun(x:MH)=>Iu x.1.2,post:=fun(x:MH) (r:C8)=>r.1=(iv x.1).sign}
def Pd:A6:=X1 [.val true tQ] [.val true tQ] (fun(x:D5)=>D8 x.1) (fun(x:D5) (r:D5)=>r.1=rc (rv x.1))
def Vd:A6:=X1 [.val true tQ, .val true tQ] [.val true tQ] (fun(x:T4)=>D8 x.1/\D8 x.2.1) (fun(x:T4) (r:D5)=>r.1=rc (rv x.1-rv x.2.1))
abbrev jF:=(Bool×Xr)×(Bool×Xr)×Unit
def Pb:A6:=X1 [.val true (.pair .bool (.sl (.int .u32))), .val true (.pair .bool (.sl (.int .u32)))] [.val true tQ] (fun(x:jF)=>Ad x.1.2/\Ad x.2.1.2) (fun(x:jF) (r:D5)=>r.1=rc (Gq x.1 x.2.1))
def Gg:A6:=X1 [.val false (.int .i64)] [.val true (.pair .bool (.sl (.int .u32)))] (fun(x:C8)=>True) (fun(x:C8) (r:MH)=>r.1=ic x.1)
def Kt:A6:= {args:= [.val true (.pair .bool (.sl (.int .u32))), .val true (.pair .bool (.sl (.int .u32)))],res:= [.val false .bool],shared:=false,pre:=fun(x:jF)=>True,post:=fun(x:jF) (r:V4)=>r.1=decide (x.1=x.2.1)}
abbrev Dk:=Xr×Xr×Unit
def Ks:A6:= {args:= [.val false (.sl (.int .u32)), .val false (.sl (.int .u32))],res:= [.val false .bool],shared:=false,pre:=fun(x:Dk)=>True,post:=fun(x:Dk) (r:V4)=>r.1=decide (x.1=x.2.1)}
def Ux:A6:=X1 [.val true (.pair .bool (.sl (.int .u32))), .val true (.pair .bool (.sl (.int .u32)))] [.val true (.pair .bool (.sl (.int .u32)))] (fun(x:jF)=>E8 x.1.2/\E8 x.2.1.2) (fun(x:jF) (r:MH)=>r.1=ic (iv x.1*iv x.2.1))
def Ve:A6:=X1 [.val true tQ] [.val true (.pair .bool (.sl (.int .u32)))] (fun(x:D5)=>D8 x.1) (fun(x:D5) (r:MH)=>r.1=ic ((rv x.1).den:Int))
def Uy:A6:=X1 [.val true (.pair .bool (.sl (.int .u32)))] [.val true (.pair .bool (.sl (.int .u32)))] (fun(x:MH)=>Iu x.1.2) (fun(x:MH) (r:MH)=>r.1=ic (-iv x.1))
def Uv:A6:=X1 [.val true (.pair .bool (.sl (.int .u32))), .val true (.pair .bool (.sl (.int .u32)))] [.val true (.pair .bool (.sl (.int .u32)))] (fun(x:jF)=>E8 x.1.2/\E8 x.2.1.2) (fun(x:jF) (r:MH)=>r.1=ic (iv x.1+iv x.2.1))
def Ek:A6:=X1 [.val true tQ, .val true tQ] [.val true tQ] (fun(x:T4)=>D8 x.1/\D8 x.2.1) (fun(x:T4) (r:D5)=>r.1=rc (rv x.1+rv x.2.1))
def W4:A6:=X1 [.val true tQ, .val true tQ] [.val true tQ] (fun(x:T4)=>D8 x.1/\D8 x.2.1) (fun(x:T4) (r:D5)=>r.1=rc (rv x.1*rv x.2.1))
def Cn:A6:= {args:= [.val true tQ],res:= [.val false .bool],shared:=false,pre:=fun(x:D5)=>D8 x.1,post:=fun(x:D5) (r:V4)=>r.1=decide (x.1=rc (rv x.1))}
def Bi:A6:=X1 [.val true tQ] [.val true tQ] (fun(x:D5)=>D8 x.1) (fun(x:D5) (r:D5)=>r.1=rc (-(rv x.1)))
def M9:A6:=X1 [.val false (.int .i64)] [.val true tQ] (fun(x:C8)=>True) (fun(x:C8) (r:D5)=>r.1=ri x.1)
def Y0:A6:= {args:= [.val true tQ],res:= [.val false (.int .i64)],shared:=false,pre:=fun(x:D5)=>True,post:=fun(x:D5) (r:C8)=>r.1=(rv x.1).num.sign}
def Oz:A6:=X1 [.val true (.pair .bool (.sl (.int .u32)))] [.val true (.pair .bool (.sl (.int .u32)))] (fun(x:MH)=>Iu x.1.2) (fun(x:MH) (r:MH)=>r.1=ic (iv x.1))
def Uw:A6:=X1 [.val true (.pair .bool (.sl (.int .u32))), .val true (.pair .bool (.sl (.int .u32)))] [.val true (.pair .bool (.sl (.int .u32)))] (fun(x:jF)=>Ad x.1.2/\Ad x.2.1.2) (fun(x:jF) (r:MH)=>r.1=ic (Nat.gcd (nv x.1.2) (nv x.2.1.2):Int))
def Ig:A6:=X1 [.val true (.pair .bool (.sl (.int .u32))), .val true (.pair .bool (.sl (.int .u32)))] [.val true (.pair .bool (.sl (.int .u32))), .val true (.pair .bool (.sl (.int .u32))), .val false .bool] (fun(x:jF)=>Ad x.1.2/\Ad x.2.1.2) (fun(x:jF) (r:(Bool×Xr)×(Bool×Xr)×Bool×Unit)=>iv x.2.1≠0->r.1=ic (iv x.1/iv x.2.1)/\r.2.1=ic (iv x.1%iv x.2.1)/\r.2.2.1=true)
abbrev C0o:=Bool×Xr×Unit
def Oy:A6:=X1 [.val false .bool, .val false (.sl (.int .u32))] [.val true (.pair .bool (.sl (.int .u32)))] (fun(x:C0o)=>Iu x.2.1) (fun(x:C0o) (r:MH)=>r.1=ic (iv (x.1,x.2.1)))
abbrev Br:=Xr×Unit
def Bg:A6:=X1 [.val false (.int .u64)] [.val false (.sl (.int .u32))] (fun(x:C8)=>True) (fun(x:C8) (r:Br)=>r.1=nc x.1.toNat)
def Ur:A6:=X1 [.val false (.sl (.int .u32)), .val false (.sl (.int .u32))] [.val false (.sl (.int .u32))] (fun(x:Dk)=>E8 x.1/\E8 x.2.1) (fun(x:Dk) (r:Br)=>r.1=nc (nv x.1*nv x.2.1))
def Uo:A6:=X1 [.val false (.sl (.int .u32)), .val false (.sl (.int .u32))] [.val false (.sl (.int .u32))] (fun(x:Dk)=>E8 x.1/\E8 x.2.1) (fun(x:Dk) (r:Br)=>r.1=nc (nv x.1+nv x.2.1))
abbrev C4u:=Xr×Bool×Unit
def Us:A6:=X1 [.val false (.sl (.int .u32)), .val false (.sl (.int .u32))] [.val false (.sl (.int .u32)), .val false .bool] (fun(x:Dk)=>E8 x.1/\E8 x.2.1) (fun(x:Dk) (r:C4u)=>(nv x.1<nv x.2.1->r.1= []/\r.2.1=false)/\(nv x.2.1<=nv x.1->r.1=nc (nv x.1-nv x.2.1)/\r.2.1=true))
def X9:A6:=X1 [.val true tQ] [.val true tQ] (fun(x:D5)=>D8 x.1) (fun(x:D5) (r:D5)=>r.1=rc (rv x.1))
abbrev A1f:=Int×Int×Bool×Unit
def Bm:A6:= {args:= [.val true tQ],res:= [.val false (.int .i64), .val false (.int .i64), .val false .bool],shared:=false,pre:=fun(x:D5)=>True,post:=fun(x:D5) (r:A1f)=>(J9 x.1->r.1=Tv x.1/\r.2.1=Qa x.1/\r.2.2.1=true)/\(¬J9 x.1->r.2.2.1=false)}
def S7:A6:=X1 [.val false (.int .i64), .val false (.int .i64)] [.val true tQ] (fun(x:Dl)=>0<x.2.1) (fun(x:Dl) (r:D5)=>r.1=rc (mkRat x.1 x.2.1.toNat))
abbrev ty8:=(Bool×Xr)×Xr×Unit
def Bl:A6:=X1 [.val true tQ] [.val true (.pair .bool (.sl (.int .u32))), .val false (.sl (.int .u32))] (fun(x:D5)=>True) (fun(x:D5) (r:ty8)=>(nv x.1.2=0->r.1=zi/\r.2.1= [1])/\(nv x.1.2≠0->r.1=x.1.1/\r.2.1=x.1.2))
def Z8:A6:= {args:= [.val false (.sl (.int .u32)), .val false (.sl (.int .u32))],res:= [.val false (.int .i64)],shared:=false,pre:=fun(x:Dk)=>True,post:=fun(x:Dk) (r:C8)=>r.1=Dt (nv x.1) (nv x.2.1)}
def Ab:A6:=X1 [.val true (.pair .bool (.sl (.int .u32))), .val false (.sl (.int .u32))] [.val true tQ] (fun(x:ty8)=>nv x.2.1≠0/\Ad x.1.2/\Ad x.2.1) (fun(x:ty8) (r:D5)=>r.1=rc (mkRat (iv x.1) (nv x.2.1)))
def Fy:A6:=X1 [.val true (.pair .bool (.sl (.int .u32))), .val true (.pair .bool (.sl (.int .u32)))] [.val true (.pair .bool (.sl (.int .u32)))] (fun(x:jF)=>E8 x.1.2/\E8 x.2.1.2) (fun(x:jF) (r:MH)=>r.1=ic (iv x.1+iv x.2.1))
def Fz:A6:=X1 [.val true (.pair .bool (.sl (.int .u32))), .val true (.pair .bool (.sl (.int .u32)))] [.val true (.pair .bool (.sl (.int .u32)))] (fun(x:jF)=>E8 x.1.2/\E8 x.2.1.2) (fun(x:jF) (r:MH)=>r.1=ic (iv x.1*iv x.2.1))
def Gd:A6:=X1 [.val false (.sl (.int .u32)), .val false (.sl (.int .u32))] [.val false (.sl (.int .u32))] (fun(x:Dk)=>E8 x.1/\E8 x.2.1) (fun(x:Dk) (r:Br)=>r.1=nc (nv x.1*nv x.2.1))
def Ga:A6:=X1 [.val true (.pair .bool (.sl (.int .u32)))] [.val true (.pair .bool (.sl (.int .u32)))] (fun(x:MH)=>Iu x.1.2) (fun(x:MH) (r:MH)=>r.1=ic (-iv x.1))
def Y8:A6:= {args:= [.val false (.int .i64), .val false (.int .i64)],res:= [.val false (.int .i64)],shared:=false,pre:=fun(x:Dl)=>True,post:=fun(x:Dl) (r:C8)=>r.1=M0 x.1 x.2.1}
def Z7:A6:=X1 [.val false (.int .i64)] [.val true (.pair .bool (.sl (.int .u32)))] (fun(x:C8)=>True) (fun(x:C8) (r:MH)=>r.1=ic x.1)
abbrev A7o:=QQ×Bool×Unit
def Em:A6:=X1 [.val true tQ, .val true tQ] [.val true tQ, .val false .bool] (fun(x:T4)=>D8 x.1/\D8 x.2.1) (fun(x:T4) (r:A7o)=>(rv x.2.1=0->r.2.1=false)/\(rv x.2.1≠0->r.1=rc (rv x.1/rv x.2.1)/\r.2.1=true))
def Ee:A6:= {args:= [.val true (.pair .bool (.sl (.int .u32)))],res:= [.val false (.int .i64)],shared:=false,pre:=fun(x:MH)=>True,post:=fun(x:MH) (r:C8)=>r.1=(iv x.1).sign}
def Uq:A6:=X1 [.val false (.sl (.int .u32)), .val false (.sl (.int .u32))] [.val false (.sl (.int .u32))] (fun(x:Dk)=>Ad x.1/\Ad x.2.1) (fun(x:Dk) (r:Br)=>r.1=nc (Nat.gcd (nv x.1) (nv x.2.1)))
abbrev C7m:=Xr×Xr×Bool×Unit
def Ic:A6:=X1 [.val false (.sl (.int .u32)), .val false (.sl (.int .u32))] [.val false (.sl (.int .u32)), .val false (.sl (.int .u32)), .val false .bool] (fun(x:Dk)=>Ad x.1/\Ad x.2.1) (fun(x:Dk) (r:C7m)=>(nv x.2.1=0->r.2.2.1=false)/\(nv x.2.1≠0->r.1=nc (nv x.1/nv x.2.1)/\r.2.1=nc (nv x.1%nv x.2.1)/\r.2.2.1=true))
def Uu:A6:=X1 [.val true (.pair .bool (.sl (.int .u32)))] [.val true (.pair .bool (.sl (.int .u32)))] (fun(x:MH)=>Iu x.1.2) (fun(x:MH) (r:MH)=>r.1=ic ((iv x.1).natAbs:Int))
def Uz:A6:=X1 [.val true (.pair .bool (.sl (.int .u32))), .val true (.pair .bool (.sl (.int .u32)))] [.val true (.pair .bool (.sl (.int .u32)))] (fun(x:jF)=>E8 x.1.2/\E8 x.2.1.2) (fun(x:jF) (r:MH)=>r.1=ic (iv x.1-iv x.2.1))
def Ox:A6:=X1 [.val false (.sl (.int .u32))] [.val false (.sl (.int .u32))] (fun(x:Br)=>Iu x.1) (fun(x:Br) (r:Br)=>r.1=nc (nv x.1))
def Gf:A6:= {args:= [.val false (.sl (.int .u32)), .val false (.sl (.int .u32))],res:= [.val false (.int .i64)],shared:=false,pre:=fun(x:Dk)=>E8 x.1/\E8 x.2.1,post:=fun(x:Dk) (r:C8)=>r.1=Dt (nv x.1) (nv x.2.1)}
abbrev B0s:=Int×Bool×Unit
def Be:A6:= {args:= [.val false (.sl (.int .u32))],res:= [.val false (.int .u64), .val false .bool],shared:=false,pre:=fun(x:Br)=>True,post:=fun(x:Br) (r:B0s)=>(nv x.1<18446744073709551616->r.1=(nv x.1:Int)/\r.2.1=true)/\(18446744073709551616<=nv x.1->r.2.1=false)}
def Q8:A6:=X1 [.val false (.int .u64)] [.val false (.sl (.int .u32))] (fun(x:C8)=>True) (fun(x:C8) (r:Br)=>r.1=nc x.1.toNat)
def Cy:A6:=X1 [.val false (.sl (.int .u32))] [.val false (.sl (.int .u32))] (fun(x:Br)=>True) (fun(x:Br) (r:Br)=>r.1=nc (nv x.1))
def Ed:A6:=X1 [.val true (.pair .bool (.sl (.int .u32)))] [.val true (.pair .bool (.sl (.int .u32)))] (fun(x:MH)=>Iu x.1.2) (fun(x:MH) (r:MH)=>r.1=ic (iv x.1))
def Ei:A6:=X1 [.val false (.sl (.int .u32))] [.val false (.sl (.int .u32))] (fun(x:Br)=>Iu x.1) (fun(x:Br) (r:Br)=>r.1=nc (nv x.1))
def Gc:A6:=X1 [.val false (.sl (.int .u32)), .val false (.sl (.int .u32))] [.val false (.sl (.int .u32))] (fun(x:Dk)=>Ad x.1/\Ad x.2.1) (fun(x:Dk) (r:Br)=>r.1=nc (Nat.gcd (nv x.1) (nv x.2.1)))
def Bd:A6:=X1 [.val false (.sl (.int .u32)), .val false (.sl (.int .u32))] [.val false (.sl (.int .u32)), .val false (.sl (.int .u32)), .val false .bool] (fun(x:Dk)=>E8 x.1) (fun(x:Dk) (r:C7m)=>(nv x.2.1=0->r.1= []/\r.2.1= []/\r.2.2.1=false)/\(nv x.2.1≠0->r.1=nc (nv x.1/nv x.2.1)/\r.2.1=nc (nv x.1%nv x.2.1)/\r.2.2.1=true))
def Ba:A6:=X1 [.val false .bool, .val false (.sl (.int .u32))] [.val true (.pair .bool (.sl (.int .u32)))] (fun(x:C0o)=>True) (fun(x:C0o) (r:MH)=>r.1=(x.1&&decide (x.2.1≠ []),x.2.1))
def Gb:A6:=X1 [.val false (.sl (.int .u32)), .val false (.sl (.int .u32))] [.val false (.sl (.int .u32))] (fun(x:Dk)=>E8 x.1/\E8 x.2.1) (fun(x:Dk) (r:Br)=>r.1=nc (nv x.1+nv x.2.1))
def Ge:A6:=X1 [.val false (.sl (.int .u32)), .val false (.sl (.int .u32))] [.val false (.sl (.int .u32)), .val false .bool] (fun(x:Dk)=>E8 x.1/\E8 x.2.1) (fun(x:Dk) (r:C4u)=>(nv x.1<nv x.2.1->r.1= []/\r.2.1=false)/\(nv x.2.1<=nv x.1->r.1=nc (nv x.1-nv x.2.1)/\r.2.1=true))
def Cj:A6:= {args:= [.val false (.int .i64)],res:= [.val false .bool],shared:=false,pre:=fun(x:C8)=>True,post:=fun(x:C8) (r:V4)=>r.1=false}
def Bh:A6:=X1 [.val true tQ] [.val true tQ, .val false .bool] (fun(x:D5)=>D8 x.1) (fun(x:D5) (r:A7o)=>(rv x.1=0->r.2.1=false)/\(rv x.1≠0->r.1=rc (rv x.1)⁻¹/\r.2.1=true))
def Ie:A6:= {args:= [.val false (.sl (.int .u32))],res:= [.val false (.int .u64), .val false .bool],shared:=false,pre:=fun(x:Br)=>Iu x.1,post:=fun(x:Br) (r:B0s)=>(nv x.1<18446744073709551616->r.1=(nv x.1:Int)/\r.2.1=true)/\(18446744073709551616<=nv x.1->r.2.1=false)}
def Ow:A6:= {args:= [.val false (.sl (.int .u32))],res:= [.val false (.int .i64)],shared:=false,pre:=fun(x:Br)=>E8 x.1,post:=fun(x:Br) (r:C8)=>r.1=(L6 (nv x.1):Int)}
abbrev ON:=Xr×Int×Unit
def Ut:A6:= {args:= [.val false (.sl (.int .u32)), .val false (.int .i64)],res:= [.val false (.int .u32)],shared:=false,pre:=fun(x:ON)=>0<=x.2.1,post:=fun(x:ON) (r:C8)=>r.1=((nv x.1/2^x.2.1.toNat%2:Nat):Int)}
def Ej:A6:= {args:= [.val false (.sl (.int .u32))],res:= [.val false (.int .u64)],shared:=false,pre:=fun(x:Br)=>x.1.length<=2,post:=fun(x:Br) (r:C8)=>r.1=(nv x.1:Int)}
def Aa:A6:= {args:= [.val false (.sl (.int .u32)), .val false (.sl (.int .u32))],res:= [.val true (.pair (.int .u64) (.pair (.int .u64) (.pair (.int .u64) (.pair (.int .u64) .bool))))],shared:=false,pre:=fun(x:Dk)=>E8 x.1/\3<=x.1.length/\Pj x.1/\nv x.2.1<=nv x.1/\x.2.1.length<=x.1.length,post:=fun(x:Dk) (r:(Int×(Int×(Int×(Int×Bool))))×Unit)=>C3l (nv x.1) (nv x.2.1) r.1.1 r.1.2.1 r.1.2.2.1 r.1.2.2.2.1 r.1.2.2.2.2}
abbrev C7n:=Xr×Int×Xr×Int×Unit
def Z9:A6:=X1 [.val false (.sl (.int .u32)), .val false (.int .u64), .val false (.sl (.int .u32)), .val false (.int .u64)] [.val false (.sl (.int .u32))] (fun(x:C7n)=>Ad x.1/\Ad x.2.2.1/\nv x.2.2.1*x.2.2.2.1.toNat<=nv x.1*x.2.1.toNat) (fun(x:C7n) (r:Br)=>r.1=nc (nv x.1*x.2.1.toNat-nv x.2.2.1*x.2.2.2.1.toNat))
def N9:A6:=X1 [.val false (.sl (.int .u32)), .val false (.int .u32)] [.val false (.sl (.int .u32)), .val false (.sl (.int .u32))] (fun(x:ON)=>E8 x.1/\x.2.1≠0) (fun(x:ON) (r:Dk)=>r.1=nc (nv x.1/x.2.1.toNat)/\r.2.1=nc (nv x.1%x.2.1.toNat))
def Q9:A6:=X1 [.val false (.sl (.int .u32)), .val false (.sl (.int .u32))] [.val false (.sl (.int .u32)), .val false (.sl (.int .u32))] (fun(x:Dk)=>E8 x.1/\2<=x.2.1.length/\x.2.1.length<=x.1.length/\Pj x.2.1) (fun(x:Dk) (r:Dk)=>r.1=nc (nv x.1/nv x.2.1)/\r.2.1=nc (nv x.1%nv x.2.1))
def Ib:A6:= {args:= [.val false (.int .u32)],res:= [.val false (.int .i64)],shared:=false,pre:=fun(x:C8)=>True,post:=fun(x:C8) (r:C8)=>r.1=(L6 x.1.toNat:Int)}
def W3:A6:= {args:= [.val true tQ, .val true tQ],res:= [.val false (.int .i64)],shared:=false,pre:=fun(x:T4)=>D8 x.1/\D8 x.2.1,post:=fun(x:T4) (r:C8)=>r.1=YD (rv x.1) (rv x.2.1)}
def L5:A6:= {args:= [.val false (.int .u32)],res:= [.val false (.int .i64)],shared:=false,pre:=fun(x:C8)=>True,post:=fun(x:C8) (r:C8)=>r.1=32-(L6 x.1.toNat:Int)}
abbrev C7o:=Xr×Int×Int×Unit
def Bf:A6:= {args:= [.val false (.sl (.int .u32)), .val false (.int .i64), .val false (.int .i64)],res:= [.val false (.int .u64)],shared:=false,pre:=fun(x:C7o)=>3<=x.2.1/\(x.1.length:Int)<=x.2.1/\x.2.1<=17592186044416/\0<=x.2.2.1/\x.2.2.1<=31/\nv x.1*2^x.2.2.1.toNat<4294967296^x.2.1.toNat,post:=fun(x:C7o) (r:C8)=>r.1=((nv x.1*2^x.2.2.1.toNat/4294967296^(x.2.1.toNat-2):Nat):Int)}
def R5:A6:= {args:= [.val false (.sl (.int .u32)), .val false (.int .i64)],res:= [.own (.int .u32) 103],shared:=false,pre:=fun(x:ON)=>E8 x.1/\0<=x.2.1/\x.2.1<=31,post:=fun(x:ON) (r:Br)=>r.1.length=x.1.length+1/\nv r.1=nv x.1*2^x.2.1.toNat}
def N2:A6:=X1 [.val false (.sl (.int .u32)), .val false (.int .i64)] [.val false (.sl (.int .u32)), .val false .bool] (fun(x:ON)=>E8 x.1) (fun(x:ON) (r:C4u)=>(x.2.1<0->r.1= []/\r.2.1=false)/\(0<=x.2.1->r.1=nc (nv x.1/2^x.2.1.toNat)/\r.2.1=true))
def S4:A6:= {args:= [.val false (.int .i64), .val false (.int .i64)],res:= [.val false (.int .i64)],shared:=false,pre:=fun(x:Dl)=>True,post:=fun(x:Dl) (r:C8)=>r.1=M0 x.1 x.2.1}
def Z6:A6:= {args:= [.val true (.pair .bool (.sl (.int .u32))), .val true (.pair .bool (.sl (.int .u32)))],res:= [.val false (.int .i64)],shared:=false,pre:=fun(x:jF)=>True,post:=fun(x:jF) (r:C8)=>r.1=M0 (iv x.1) (iv x.2.1)}
def W2:A6:= {args:= [.val false (.int .i64), .val false (.ptr (.sl (.int .u32)))],res:= [.val false (.int .u64)],shared:=false,pre:=fun(x:Int×Xr×Unit)=>0<=x.1,post:=fun(x:Int×Xr×Unit) (r:C8)=>r.1=(if x.1<(x.2.1.length:Int)then x.2.1.getD x.1.toNat 0 else 0)}
def Y9:A6:= {args:= [.val false (.int .i64)],res:= [.val false .bool],shared:=false,pre:=fun(x:C8)=>True,post:=fun(x:C8) (r:V4)=>r.1=false}
def pZ9:Nat→Nat→Pl→Pl
 | _,0,k=>k
 |i,n+1,k=> .p i (pZ9 (i+1) n k)
def vI:List Ym:= [.val (.int .i64)]
def vU:List Ym:= [.val (.int .u64)]
def XN:An:= {loop:= [(2,⟨[0],[],[(3,false,vI)],[],[]⟩)]}
def Zu:An:= {}
def VD:An:= {loop:= [(3,⟨[6,7],[],[(3,false,vU),(8,false,vI)],[],[]⟩)]}
def MW:An:= {}
def JS:An:= {loop:= [(7,⟨[0,1],[],[(5,false,vI)],[],[]⟩)],plan:= [(9,[3,7],[],true,(pZ9 0 3 (.q 3 (pZ9 4 3 (.q 7 (.p 8 .done)))))),(11,[3,7],[],true,(pZ9 0 3 (.q 3 (pZ9 4 3 (.q 7 (.p 8 .done))))))]}
def VC:An:= {}
abbrev Sq:=Xr×Unit
def FB:A2 Cy.args->Prop:=fun(x:Sq)=>let e:=(1:Int);let c:=(x.1.length:Int);let a:=(0:Int);∃(I:C8->Prop),∃(b: _->Nat),I (c,())/\∀(p:C8),let d:=(i64.wrap (p.1-e),());let f:=(decide (gx a x.1 (i64.wrap (p.1-e))=a));(Ty.int i64).wf p.1/\True->I p->(decide (a<p.1)=true->a<=i64.wrap (p.1-e)/\i64.wrap (p.1-e)<c)/\(iB (L8 (decide (a<p.1)) f false) (I d/\b d<b p) ((a<=a/\a<=p.1/\p.1<=c)/\List.drop a.toNat (List.take p.1.toNat x.1)=nc (nv x.1)))
def O9 (P:Xr×Unit->Prop):Prop:=∀r:Xr×Unit,Kj r.1/\True->P r
def Jh:A2 Q8.args->Prop:=fun(x:C8)=>(0:(Ty.int u64).den)<=(32:Int)/\True/\O9 fun r=>r.1=nc (nv [u32.wrap x.1,u32.wrap (Int.fdiv x.1 ((2:Int)^Min.min ((32:Int).toNat) u64.bits))])->r.1=nc x.1.toNat
def Zg:A2 Ej.args->Prop:=fun(x:Sq)=>let c:=(0:Int);let b:=(x.1.length:Int);∃(I:Dl->Prop),∃(d: _->Nat),I (c,c,())/\∀(p:Dl),let a:=(u64.wrap (↑(BitVec.ofInt u64.bits p.1|||BitVec.ofInt u64.bits (u64.wrap (u64.wrap (gx c x.1 p.2.1)*(2:Int)^Min.min (i64.wrap (32*p.2.1)).toNat u64.bits))).toNat:Int),i64.wrap (p.2.1+1),());(Ty.int u64).wf p.1/\(Ty.int i64).wf p.2.1/\True->I p->(iB (decide (p.2.1<b)) ((c<=p.2.1/\p.2.1<b)/\(0:(Ty.int i64).den)<=i64.wrap (32*p.2.1)/\I a/\d a<d p) (p.1=(↑(nv x.1):Int)))
def rT1 (P:Int×Unit->Prop):Prop:=∀r:Int×Unit,MJ r.1/\True->P r
def Rl:A2 Be.args->Prop:=fun(x:Sq)=>let a:=(18446744073709551616:Nat);True/\O9 fun r=>let b:Prop:=((2:Int)<(r.1.length:Int));r.1=nc (nv x.1)->(iB (decide b) ((nv x.1<a->(0:Int)=(↑(nv x.1):Int)/\false=true)/\(a<=nv x.1->false=false)) (List.length r.1<=2/\rT1 fun c=>c.1=(↑(nv r.1):Int)->(nv x.1<a->c.1=(↑(nv x.1):Int)/\true=true)/\(a<=nv x.1->true=false)))
abbrev Fq:=Xr×Xr×Unit
def Pr:A2 Z8.args->Prop:=fun(x:Fq)=>let i:=(1:Int);let e:=(nv x.1);let d:=(nv x.2.1);let c:=(0:Int);True/\O9 fun r=>let a:=(r.1.length:Int);r.1=nc e->True/\O9 fun j=>let b:=(j.1.length:Int);j.1=nc d->(iB (decide (a≠b)) ((iB (decide (a<b)) ((-1:Int)=Dt e d) (i=Dt e d))) (∃(I:C8->Prop),∃(g: _->Nat),I (i64.wrap (a-i),())/\∀(p:C8),let k:Prop:=(gx c j.1 p.1<gx c r.1 p.1);let h:Prop:=(gx c r.1 p.1<gx c j.1 p.1);let f:=(i64.wrap (p.1-i),());(Ty.int i64).wf p.1/\True->I p->(iB (decide (c<=p.1)) ((c<=p.1/\p.1<a)/\(c<=p.1/\p.1<b)/\(iB (decide h) ((-1:Int)=Dt e d) ((c<=p.1/\p.1<a)/\(c<=p.1/\p.1<b)/\(iB (decide k) (i=Dt e d) (I f/\g f<g p))))) (c=Dt e d))))
def Zf:A2 Ei.args->Prop:=fun(x:Sq)=>True/\O9 fun r=>let a:=(r.1.length:Int);r.1=nc (nv x.1)->((0:Int)<=a/\a<=a/\(↑(4:Nat):Int)*a<=(281474976710656:Int)/\a<=(9223372036854775807:Int))/\Nq (List.replicate a.toNat (0:Int)) r.1=nc (nv x.1)
def PE (x:A2 Cy.args) (k:awf Cy.args x) (_:Cy.pre x):FB x:=by
 obtain⟨l,_⟩:=x;have t:l.length<=9223372036854775807:=k.1.1;have o:A8 l:=A4 k.1.2;change Xr at l;simp only[FB,iB];refine⟨fun p=>0<=p.1/\p.1<=(l.length:Int)/\∀i x,p.1.toNat<=i->l[i]? =some x->x=0,fun p=>p.1.toNat,⟨qD _,qG _,fun i x j a=> ?_⟩, ?_⟩
 . rw[rQ (by simpa using j)]at a;cases a
 rintro⟨n,_⟩ _ ⟨c,f,b⟩;change Int at n;simp only at c f b⊢;refine⟨fun h=> ?_,fun h=> ?_,fun h=> ?_⟩
 . have h:=qA h;rw[wv (by omega)];exact⟨by omega,by omega⟩
 . rw[J6]at h;simp only[qC,rT]at h;obtain⟨s,g⟩:=h;rw[wv (by omega)]at g⊢;refine⟨⟨by omega,by omega,fun i x j a=> ?_⟩,by omega⟩;by_cases r:i=(n-1).toNat
   . subst r;rw[H1 (d:=(0:Int)) (by omega) (by omega)]at a;cases a;exact g
   . exact b i x (by omega) a
 . refine⟨⟨qG _,c,f⟩, ?_⟩;show(l.take n.toNat).drop 0= _;rw[tV];refine A6q o (by omega) b ?_;rw[J6]at h;simp only[xF,rR]at h;rcases h with h|h
   . exact .inl (by omega)
   . by_cases u:n=0
     . exact .inl (by omega)
     . rw[wv (by omega)]at h;refine .inr ⟨gx 0 l (n-1), ?_,h⟩;have:=H1 (d:=(0:Int)) (l:=l) (i:=n-1) (by omega) (by omega);rw[<-this];congr 1;omega
def Su (x:A2 Q8.args) (c:awf Q8.args x) (_:Q8.pre x):Jh x:=by
 obtain⟨v,_⟩:=x;change Int at v;have b:u64.min<=v/\v<=u64.max:=c.1;rw[mQ,HD]at b;simp only[Jh,O9];refine⟨by decide,trivial, ?_⟩;rintro⟨r,_⟩ _ a;simp only at a⊢;rw[a];congr 1;rw[show Min.min (Int.toNat 32) u64.bits=32 from rfl];simp only[nv,Dg];rw[sH _ (by decide),show(2:Int)^32=4294967296 from rfl];omega
def LX (x:A2 Ej.args) (u:awf Ej.args x) (s:Ej.pre x):Zg x:=by
 obtain⟨l,_⟩:=x;have n:A8 l:=A4 u.1.2;have y:l.length<=2:=s;change Xr at l;simp only[Zg,iB];refine⟨fun p=>0<=p.2.1/\p.2.1<=(l.length:Int)/\p.1=(nv (l.take p.2.1.toNat):Int),fun p=>((l.length:Int)-p.2.1).toNat,⟨qG _,qD _,rfl⟩, ?_⟩;rintro⟨v,i,_⟩ z ⟨f,o,d⟩;change Int at v i;simp only at f o d⊢;refine⟨fun h=> ?_,fun h=> ?_⟩
 . have h:=qA h;have g:=Xa n f h;have j:=Ht (l:=l.take i.toNat) fun x hx=>n x (rS hx)
   rw[qU,sW (by omega)]at j;have t:=NT f h;rw[wv (a:=32*i) (by omega),wv (a:=i+1) (by omega),Ac g.1 (by omega)];have r:Min.min (32*i).toNat u64.bits=32*i.toNat:=by
    show Min.min (32*i).toNat 64= _;omega
   rw[r];have c:i.toNat=0\/i.toNat=1:=by omega
   refine⟨⟨f,h⟩,by show(0:Int)<=32*i;omega, ?_⟩;have w:u64.wrap (((BitVec.ofInt 64 v|||BitVec.ofInt 64 (u64.wrap (gx 0 l i*2^(32*i.toNat)))).toNat:Nat):Int)=(nv (l.take (i+1).toNat):Int):=by
    rw[t];generalize gx 0 l i=b at g;rcases c with c|c
    . rw[c]at j⊢;have A:v=0:=by rw[d,c];simp[nv]
      rw[Ac (a:=b*2^(32*0)) (by omega) (by omega),aO (v:=v) (b:=b) (k:=32*0) (by omega) (by omega) g.1 (by omega) (by omega),Ac (by omega) (by omega)];simp[nv];omega
    . rw[c]at j⊢;rw[c]at d;rw[Ac (a:=b*2^(32*1)) (by omega) (by omega),aO (v:=v) (b:=b) (k:=32*1) (by omega) (by omega) g.1 (by omega) (by omega),Ac (by omega) (by omega)];omega
   exact⟨⟨by omega,by omega,w⟩,by omega⟩
 . have h:=qB h;rw[D4 (by omega)]at d;exact d
def FA (x:A2 Be.args) (f:awf Be.args x) (_:Be.pre x):Rl x:=by
 obtain⟨l,_⟩:=x;change Xr at l;simp only[Rl,iB,O9,rT1];refine⟨trivial, ?_⟩;rintro⟨r,_⟩ _ a;simp only at a⊢;subst a;refine⟨fun h=> ?_,fun h=> ?_⟩
 . have h:=qA h;have:=B5e (k:=2) (n:=nv l) (by omega);refine⟨fun c=> ?_,fun _=>trivial⟩;rw[show(4294967296:Nat)^2=18446744073709551616 from rfl]at this;omega
 . have h:=qB h;have b:(nc (nv l)).length<=2:=by omega
   refine⟨b, ?_⟩;rintro⟨r,_⟩ _ a;simp only at a⊢;have d:=rF (Ng (nv l)) (rX (by decide) b);rw[F4]at a;refine⟨fun _=>⟨a,trivial⟩,fun c=> ?_⟩;rw[show(4294967296:Nat)^2=18446744073709551616 from rfl]at d;omega
def AW (x:A2 Z8.args) (A:awf Z8.args x) (_:Z8.pre x):Pr x:=by
 obtain⟨b,c,_⟩:=x;change Xr at b c;simp only[Pr,iB,O9];refine⟨trivial, ?_⟩;rintro⟨r,_⟩ ⟨⟨y,_⟩,_⟩ o;simp only at o y⊢;subst o;refine⟨trivial, ?_⟩;rintro⟨s,_⟩ ⟨⟨z,_⟩,_⟩ t;simp only at t z⊢;subst t;have k:=K6 (nv b);have l:=K6 (nv c);refine⟨fun j=>⟨fun h=> ?_,fun h=> ?_⟩,fun j=> ?_⟩
 . have h:=qA h;exact(Qp (GP (by omega))).symm
 . have h:=qB h;have j:=qA j;exact(WR (GP (by omega))).symm
 . have n:(nc (nv b)).length=(nc (nv c)).length:=by have:=qB j;omega
   have u:=F4 (nv b);have v:=F4 (nv c);generalize nc (nv b)=r at*;generalize nc (nv c)=s at*;rw[<-u, <-v];refine⟨fun p=> -1<=p.1/\p.1<(r.length:Int)/\r.drop (p.1+1).toNat=s.drop (p.1+1).toNat,fun p=>(p.1+1).toNat, ?_, ?_⟩
   . rw[wv (by omega)];refine⟨by omega,by omega, ?_⟩;rw[sD (by omega),sD (by omega)]
   rintro⟨i,_⟩ _ ⟨w,d,a⟩;change Int at i;simp only at w d a⊢;refine⟨fun h=> ?_,fun h=> ?_⟩
   . have h:=qA h;refine⟨⟨h,d⟩,⟨h,by omega⟩,fun g=> ?_,fun g=>⟨⟨h,d⟩,⟨h,by omega⟩,fun f=> ?_,fun f=> ?_⟩⟩
     . exact(Qp (lS k l n h d a (qA g))).symm
     . exact(WR (lS l k n.symm h (by omega) a.symm (qA f))).symm
     . have g:=qB g;have f:=qB f;rw[wv (by omega)];refine⟨⟨by omega,by omega, ?_⟩,by omega⟩;rw[show i-1+1=i from by omega,Y4 h d,Y4 h (by omega),a,show gx 0 r i=gx 0 s i from by omega]
   . have h:=qB h;rw[show(i+1).toNat=0 from by omega,tV,tV]at a;rw[a,gX]
def QP {a:Type} {l:List a} {d:a} :Nq (List.replicate ((l.length:Nat):Int).toNat d) l=l:=by
 unfold Nq;rw[rC,qH,uT,sD (by simp),vV]
def LW (x:A2 Ei.args) (d:awf Ei.args x) (c:Ei.pre x):Zf x:=by
 obtain⟨l,_⟩:=x;have b:A8 l:=A4 d.1.2;have g:l.length<=35184372088832:=c;simp only[Zf,O9];refine⟨trivial, ?_⟩;rintro⟨r,_⟩ _ a;simp only at a⊢;have f:r.length<=l.length:=by rw[a];exact D2 b
 refine⟨⟨by omega,qG _,by simp;omega,by omega⟩, ?_⟩;rw[QP,a]
def XJ:An:= {join:= [(4,⟨[],[],[(0,false,[.val (.sl (.int .u32))]),(1,false,[.val (.sl (.int .u32))])],[],[]⟩),(12,⟨[0,1,5,7,24,25,26],[0],[(6,false,vU)],[],[]⟩)],loop:= [(7,⟨[0,1,5,24,25],[],[(6,false,vU),(26,false,vI)],[],[(0, .row (.int .u32) 103)]⟩)]}
def XM:An:= {join:= [(12,⟨[1,6,8,22,23,24],[0],[(10,false,vU)],[],[]⟩)],loop:= [(7,⟨[1,6,22,23],[],[(7,false,vU),(24,false,vI)],[],[(0, .row (.int .u32) 103)]⟩)]}
def XL:An:= {join:= [(18,⟨[1,5,29,30,31],[],[],[],[(0, .row (.int .u32) 103)]⟩)],loop:= [(11,⟨[1,5,6,7,29,30,31,38,39],[],[(8,false,vU),(40,false,vI)],[],[(0, .row (.int .u32) 103)]⟩),(6,⟨[1,5,29,30],[],[(31,false,vI)],[],[(0, .row (.int .u32) 103)]⟩)]}
def Ti:An:= {loop:= [(4,⟨[0,1,4],[],[(6,false,vU),(7,false,vI)],[],[(0, .row (.int .u32) 103)]⟩)]}
def Zv:An:= {join:= [(15,⟨[0,6,7,8,29,30,31],[0],[(10,false,vU)],[],[]⟩)],loop:= [(10,⟨[0,6,7,29,30],[],[(31,false,vI)],[],[(0, .row (.int .u32) 103)]⟩)]}
def JW:An:= {loop:= [(4,⟨[0,1,5,13,14],[],[(6,false,vU),(15,false,vI)],[],[(0, .row (.int .u32) 103)]⟩)]}
abbrev Vn:=Int×Int×Xr×Unit
def EV:A2 Gb.args->Prop:=fun(x:Fq)=>let f:=(1:Int);let c:=(0:Int);True/\O9 fun r=>r.1=nc (nv x.1)->True/\O9 fun j=>let e:Prop:=((r.1.length:Int)<(j.1.length:Int));j.1=nc (nv x.2.1)->∃(J:Fq->Prop),((iB (decide e) (J (j.1,r)) (J (r.1,j))))/\∀(p:Fq),let d:=(p.2.1.length:Int);let a:=(p.1.length:Int);(Ty.int u32).sl.wf p.1/\(Ty.int u32).sl.wf p.2.1/\True->J p->(c<=i64.wrap (a+f)/\i64.wrap (a+f)<=i64.wrap (a+f)/\(↑(4:Nat):Int)*i64.wrap (a+f)<=(281474976710656:Int)/\i64.wrap (a+f)<=(9223372036854775807:Int))/\∃(I:Vn->Prop),∃(j: _->Nat),I (c,c,List.replicate (i64.wrap (a+f)).toNat c,())/\∀(i:Vn),let h:=(gx c p.1 i.2.1);let g:=(i.2.2.1.length:Int);(Ty.int u64).wf i.1/\(Ty.int i64).wf i.2.1/\Kj i.2.2.1/\True->I i->(iB (decide (i.2.1<a)) ((c<=i.2.1/\i.2.1<a)/\∃(J:C8->Prop),((iB (decide (i.2.1<d)) ((c<=i.2.1/\i.2.1<d)/\J (u64.wrap (u64.wrap (i.1+u64.wrap h)+u64.wrap (gx c p.2.1 i.2.1)),())) (J (u64.wrap (i.1+u64.wrap h),()))))/\∀(p:C8),let b:=(Int.fdiv p.1 ((2:Int)^Min.min ((32:Int).toNat) u64.bits),i64.wrap (i.2.1+f),List.set i.2.2.1 i.2.1.toNat (u32.wrap p.1),());(Ty.int u64).wf p.1/\True->J p->(c<=i.2.1/\i.2.1<g)/\(0:(Ty.int u64).den)<=(32:Int)/\I b/\j b<j i) ((c<=a/\a<g)/\True/\O9 fun r=>r.1=nc (nv (List.set i.2.2.1 a.toNat (u32.wrap i.1)))->r.1=nc (nv x.1+nv x.2.1)))
def Cw (P:Int×Unit->Prop):Prop:=∀r:Int×Unit,I2 r.1/\True->P r
def EZ:A2 Ge.args->Prop:=fun(x:Fq)=>let f:=(nv x.1-nv x.2.1);let c:=(0:Int);True/\O9 fun r=>let a:=(r.1.length:Int);r.1=nc (nv x.1)->True/\O9 fun g=>let d:=(g.1.length:Int);g.1=nc (nv x.2.1)->True/\Cw fun i=>i.1=Dt (nv r.1) (nv g.1)->(iB (decide (i.1<c)) ((nv x.1<nv x.2.1->O8 Int= []/\false=false)/\(nv x.2.1<=nv x.1->O8 Int=nc f/\false=true)) ((c<=a/\a<=a/\(↑(4:Nat):Int)*a<=(281474976710656:Int)/\a<=(9223372036854775807:Int))/\∃(I:Vn->Prop),∃(j: _->Nat),I (c,c,List.replicate a.toNat c,())/\∀(p:Vn),let e:=(u64.wrap (gx c r.1 p.2.1)-p.1);(Ty.int u64).wf p.1/\(Ty.int i64).wf p.2.1/\Kj p.2.2.1/\True->I p->(iB (decide (p.2.1<a)) ((c<=p.2.1/\p.2.1<a)/\∃(J:C8->Prop),((iB (decide (p.2.1<d)) ((c<=p.2.1/\p.2.1<d)/\J (u64.wrap (u64.wrap e-u64.wrap (gx c g.1 p.2.1)),())) (J (u64.wrap e,()))))/\∀(h:C8),let b:=(Int.fdiv h.1 ((2:Int)^Min.min ((63:Int).toNat) u64.bits),i64.wrap (p.2.1+1),List.set p.2.2.1 p.2.1.toNat (u32.wrap h.1),());(Ty.int u64).wf h.1/\True->J h->(c<=p.2.1/\p.2.1<(p.2.2.1.length:Int))/\(0:(Ty.int u64).den)<=(63:Int)/\I b/\j b<j p) (True/\O9 fun r=>r.1=nc (nv p.2.2.1)->(nv x.1<nv x.2.1->r.1= []/\true=false)/\(nv x.2.1<=nv x.1->r.1=nc f/\true=true)))))
abbrev LH:=Int×Xr×Unit
def EY:A2 Gd.args->Prop:=fun(x:Fq)=>let j:=(nv x.1*nv x.2.1);let e:=(0:Int);True/\O9 fun r=>let c:=(r.1.length:Int);r.1=nc (nv x.1)->True/\O9 fun l=>let b:=(l.1.length:Int);l.1=nc (nv x.2.1)->(iB (L8 (decide (c=e)) true (decide (b=e))) (O8 Int=nc j) ((e<=i64.wrap (c+b)/\i64.wrap (c+b)<=i64.wrap (c+b)/\(↑(4:Nat):Int)*i64.wrap (c+b)<=(281474976710656:Int)/\i64.wrap (c+b)<=(9223372036854775807:Int))/\∃(I:LH->Prop),∃(a: _->Nat),I (e,List.replicate (i64.wrap (c+b)).toNat e,())/\∀(p:LH),(Ty.int i64).wf p.1/\Kj p.2.1/\True->I p->(iB (decide (p.1<c)) (∃(J:Sq->Prop),((e<=p.1/\p.1<c)/\(iB (decide (gx e r.1 p.1=e)) (J (p.2.1,())) (∃(I:Vn->Prop),∃(a: _->Nat),I (e,e,p.2.1,())/\∀(k:Vn),let i:=(i64.wrap (p.1+k.2.1));let h:=(k.2.2.1.length:Int);let f:Prop:=(e<=i64.wrap (p.1+k.2.1)/\i64.wrap (p.1+k.2.1)<h);let c:=(u64.wrap (k.1+u64.wrap (u64.wrap (u64.wrap (gx e r.1 p.1)*u64.wrap (gx e l.1 k.2.1))+u64.wrap (List.getD k.2.2.1 i.toNat e))));let d:=(c.fdiv ((2:Int)^Min.min ((32:Int).toNat) u64.bits),i64.wrap (k.2.1+1),List.set k.2.2.1 i.toNat (u32.wrap c),());(Ty.int u64).wf k.1/\(Ty.int i64).wf k.2.1/\Kj k.2.2.1/\True->I k->(iB (decide (k.2.1<b)) ((e<=k.2.1/\k.2.1<b)/\f/\f/\(0:(Ty.int u64).den)<=(32:Int)/\I d/\a d<a k) ((e<=i64.wrap (p.1+b)/\i64.wrap (p.1+b)<h)/\J (List.set k.2.2.1 (i64.wrap (p.1+b)).toNat (u32.wrap k.1),()))))))/\O9 fun k=>let g:=(i64.wrap (p.1+1),k);J k->I g/\a g<a p) (True/\O9 fun r=>r.1=nc (nv p.2.1)->r.1=nc j))))
abbrev WB:=Xr×Int×Unit
def Hg:A2 N9.args->Prop:=fun(x:WB)=>let e:=(u64.wrap x.2.1);let d:=(0:Int);let c:=(x.1.length:Int);(d<=c/\c<=c/\(↑(4:Nat):Int)*c<=(281474976710656:Int)/\c<=(9223372036854775807:Int))/\∃(I:Vn->Prop),∃(f: _->Nat),I (d,i64.wrap (c-(1:Int)),List.replicate c.toNat d,())/\∀(p:Vn),let a:=(u64.wrap (↑(BitVec.ofInt u64.bits (u64.wrap (p.1*2^Min.min ((32:Int).toNat) u64.bits)) |||BitVec.ofInt u64.bits (u64.wrap (gx d x.1 p.2.1))).toNat:Int));let b:=(a.tmod e,i64.wrap (p.2.1-1),List.set p.2.2.1 p.2.1.toNat (u32.wrap (u64.wrap (a.tdiv e))),());(Ty.int u64).wf p.1/\(Ty.int i64).wf p.2.1/\Kj p.2.2.1/\True->I p->(iB (decide (d<=p.2.1)) ((0:(Ty.int u64).den)<=(32:Int)/\(d<=p.2.1/\p.2.1<c)/\u64.wrap x.2.1≠d/\(d<=p.2.1/\p.2.1<(p.2.2.1.length:Int))/\u64.wrap x.2.1≠d/\I b/\f b<f p) (True/\O9 fun r=>r.1=nc (nv p.2.2.1)->True/\O9 fun f=>f.1=nc p.1.toNat->r.1=nc (nv x.1/x.2.1.toNat)/\f.1=nc (nv x.1%x.2.1.toNat)))
def Ji:A2 N2.args->Prop:=fun(x:WB)=>let i:=(1:Int);let g:=(nv x.1/(2:Nat)^x.2.1.toNat);let f:=(32:Int);let e:=(i64.wrap (Int.tdiv x.2.1 f));let d:=(0:Int);(iB (decide (x.2.1<d)) ((x.2.1<d->O8 Int= []/\false=false)/\(d<=x.2.1->O8 Int=nc g/\false=true)) (True/\O9 fun r=>let b:=(r.1.length:Int);let c:Prop:=(b<=i64.wrap (Int.tdiv x.2.1 f));let a:=(↑(List.drop e.toNat (List.take b.toNat r.1)).length:Int);r.1=nc (nv x.1)->f≠d/\(iB (decide c) ((x.2.1<d->O8 Int= []/\true=false)/\(d<=x.2.1->O8 Int=nc g/\true=true)) (f≠d/\(d<=i64.wrap (Int.tdiv x.2.1 f)/\i64.wrap (Int.tdiv x.2.1 f)<=b/\b<=b)/\f≠d/\(d<=a/\a<=a/\(↑(4:Nat):Int)*a<=(281474976710656:Int)/\a<=(9223372036854775807:Int))/\∃(I:LH->Prop),∃(j: _->Nat),I (d,List.replicate a.toNat d,())/\∀(p:LH),let k:Prop:=(i64.wrap (p.1+i)<a);let h:=(gx d (List.drop e.toNat (List.take b.toNat r.1)) p.1);(Ty.int i64).wf p.1/\Kj p.2.1/\True->I p->(iB (decide (p.1<a)) ((d<=p.1/\p.1<a)/\∃(J:C8->Prop),((iB (decide k) ((d<=i64.wrap (p.1+i)/\i64.wrap (p.1+i)<a)/\(0:(Ty.int u64).den)<=f/\J (u64.wrap (↑(BitVec.ofInt u64.bits (u64.wrap h) |||BitVec.ofInt u64.bits (u64.wrap (u64.wrap (gx d (List.drop e.toNat (List.take b.toNat r.1)) (i64.wrap (p.1+i)))*(2:Int)^Min.min f.toNat u64.bits))).toNat:Int),())) (J (u64.wrap h,()))))/\∀(l:C8),let c:=(i64.wrap (p.1+i),List.set p.2.1 p.1.toNat (u32.wrap (Int.fdiv l.1 ((2:Int)^Min.min (Int.tmod x.2.1 f).toNat u64.bits))),());(Ty.int u64).wf l.1/\True->J l->(0:(Ty.int i64).den)<=Int.tmod x.2.1 f/\(d<=p.1/\p.1<(p.2.1.length:Int))/\I c/\j c<j p) (True/\O9 fun r=>r.1=nc (nv p.2.1)->(x.2.1<d->r.1= []/\true=false)/\(d<=x.2.1->r.1=nc g/\true=true)))))))
def Pv:A2 R5.args->Prop:=fun(x:WB)=>let f:=(1:Int);let d:=(0:Int);let b:=(x.1.length:Int);(d<=i64.wrap (b+f)/\i64.wrap (b+f)<=i64.wrap (b+f)/\(↑(4:Nat):Int)*i64.wrap (b+f)<=(281474976710656:Int)/\i64.wrap (b+f)<=(9223372036854775807:Int))/\∃(I:Vn->Prop),∃(h: _->Nat),I (d,d,List.replicate (i64.wrap (b+f)).toNat d,())/\∀(p:Vn),let g:=(p.2.2.1.length:Int);let e:=(List.set p.2.2.1 b.toNat (u32.wrap p.1));let a:=(u64.wrap (↑(BitVec.ofInt u64.bits p.1|||BitVec.ofInt u64.bits (u64.wrap (u64.wrap (gx d x.1 p.2.1)*(2:Int)^Min.min x.2.1.toNat u64.bits))).toNat:Int));let c:=(a.fdiv ((2:Int)^Min.min ((32:Int).toNat) u64.bits),i64.wrap (p.2.1+f),List.set p.2.2.1 p.2.1.toNat (u32.wrap a),());(Ty.int u64).wf p.1/\(Ty.int i64).wf p.2.1/\Kj p.2.2.1/\True->I p->(iB (decide (p.2.1<b)) ((d<=p.2.1/\p.2.1<b)/\(0:(Ty.int i64).den)<=x.2.1/\(d<=p.2.1/\p.2.1<g)/\(0:(Ty.int u64).den)<=(32:Int)/\I c/\h c<h p) ((d<=b/\b<g)/\e.length=x.1.length+(1:Nat)/\nv e=nv x.1*2^x.2.1.toNat))
def A4k (v:Int) (_:0<=v):Int.fdiv v (2^Min.min (Int.toNat 32) u64.bits)=v/4294967296:=by
 rw[show Min.min (Int.toNat 32) u64.bits=32 from rfl,sH _ (by decide)];rfl
def C4h (v:Int) (_:0<=v):Int.fdiv v (2^Min.min (Int.toNat 63) u64.bits)=v/9223372036854775808:=by
 rw[show Min.min (Int.toNat 63) u64.bits=63 from rfl,sH _ (by decide)];rfl
def OC {v b:Int} {k:Nat} (v0:0<=v) (v1:v<2^k) (b0:0<=b) (a:b*2^k<18446744073709551616) (c:v<18446744073709551616):(((BitVec.ofInt 64 (b*2^k) |||BitVec.ofInt 64 v).toNat:Nat):Int)=v+b*2^k:=by
 rw[BitVec.or_comm];exact aO v0 v1 b0 a c
def OY (x:A2 Gb.args) (y:awf Gb.args x) (H:Gb.pre x):EV x:=by
 obtain⟨a,b,_⟩:=x;have F:A8 a:=A4 y.1.2;have G:A8 b:=A4 y.2.1.2;change Xr at a b;obtain⟨R,T⟩:a.length<=17592186044416/\b.length<=17592186044416:=H;have U:=D2 F;have V:=D2 G;simp only[EV,iB,O9];refine⟨trivial, ?_⟩;rintro⟨M,_⟩ _ g;refine⟨trivial, ?_⟩;rintro⟨W,_⟩ _ w;simp only at g w⊢;subst g w;refine⟨fun p=>p.2.1.length<=p.1.length/\p.1.length<=17592186044416/\nv p.1+nv p.2.1=nv a+nv b,⟨fun h=> ?_,fun h=> ?_⟩, ?_⟩
 . have h:=qA h;refine⟨by show(nc (nv a)).length<=(nc (nv b)).length;omega,by show(nc (nv b)).length<= _;omega, ?_⟩;show nv (nc (nv b))+nv (nc (nv a))= _;rw[F4,F4,wB]
 . have h:=qB h;refine⟨by show(nc (nv b)).length<=(nc (nv a)).length;omega,by show(nc (nv a)).length<= _;omega, ?_⟩;show nv (nc (nv a))+nv (nc (nv b))= _;rw[F4,F4]
 rintro⟨P,Q,_⟩ ⟨I,J,_⟩ ⟨n,A,o⟩;change Xr at P Q;simp only at n A o⊢;have s:A8 P:=A4 I.2;have t:A8 Q:=A4 J.2;rw[wv (a:=(P.length:Int)+1) (by omega)];refine⟨⟨by omega,qG _,by simp;omega,by omega⟩, ?_⟩;refine⟨fun p=>0<=p.2.1/\p.2.1<=(P.length:Int)/\0<=p.1/\p.1<=1/\p.2.2.1.length=P.length+1/\nv (p.2.2.1.take p.2.1.toNat)+4294967296^p.2.1.toNat*p.1.toNat=nv (P.take p.2.1.toNat)+nv (Q.take p.2.1.toNat),fun p=>((P.length:Int)-p.2.1).toNat,⟨qG _,qD _,qG _,by show(0:Int)<=1;omega,by rw[rC];omega,by simp[nv]⟩, ?_⟩;rintro⟨f,i,out,_⟩ ⟨_,_,O,_⟩ ⟨d,B,D,E,r,j⟩;change Int at f i;change Xr at out;simp only at d B D E r j⊢;have N:=N6 s i.toNat;have dQ:=N6 t i.toNat;refine⟨fun k=> ?_,fun k=> ?_⟩
 . have h:i<(P.length:Int):=qA k;rw[Hc s d h,Ac (a:=(dg P i.toNat:Int)) (by omega) (by omega),Ac (a:=f+(dg P i.toNat:Int)) (by omega) (by omega)];refine⟨⟨d,h⟩,fun p=>p.1=f+(dg P i.toNat:Int)+(dg Q i.toNat:Int),⟨fun c=> ?_,fun c=> ?_⟩, ?_⟩
   . have c:=qA c;refine⟨⟨d,c⟩, ?_⟩;show u64.wrap _= _;rw[Hc t d c,Ac (a:=(dg Q i.toNat:Int)) (by omega) (by omega),Ac (by omega) (by omega)]
   . have c:=qB c;show f+(dg P i.toNat:Int)= _;rw[Ry (l:=Q) (by omega)];omega
   rintro⟨z,_⟩ _ u;change Int at z;simp only at u⊢;subst u;refine⟨⟨d,by omega⟩,by decide, ?_⟩;rw[A4k _ (by omega),wv (by omega),Dg];refine⟨⟨by omega,by omega,by omega,by omega,by rw[qJ];exact r, ?_⟩,by omega⟩;rw[show(i+1).toNat=i.toNat+1 from by omega,U5 (by omega),J0 P,J0 Q,sA];exact iD j (by omega)
 . have h:=qB k;refine⟨⟨by omega,by omega⟩,trivial, ?_⟩;rintro⟨M,_⟩ _ g;simp only at g⊢;rw[g];congr 1;rw[show i.toNat=P.length from by omega,qX (qZ P.length),qX n]at j;rw[qH,w32 (by omega) (by omega)];have e:=U5 (l:=out) (i:=P.length) (v:=f) (by omega);rw[qX (by rw[qJ];omega)]at e;rw[e,j,o]
def PD (x:A2 Ge.args) (F:awf Ge.args x) (O:Ge.pre x):EZ x:=by
 obtain⟨a,d,_⟩:=x;have I:A8 a:=A4 F.1.2;have J:A8 d:=A4 F.2.1.2;change Xr at a d;obtain⟨Y,Z⟩:a.length<=17592186044416/\d.length<=17592186044416:=O;have T:=D2 I;have a0:=D2 J;simp only[EZ,iB,O9,Cw];refine⟨trivial, ?_⟩;rintro⟨r,_⟩ _ c;refine⟨trivial, ?_⟩;rintro⟨s,_⟩ _ g;refine⟨trivial, ?_⟩;rintro⟨w,_⟩ _ k;simp only at c g k⊢;rw[c,g,F4,F4]at k;subst k;refine⟨fun h=> ?_,fun h=> ?_⟩
 . have h:=qA h;refine⟨fun _=>⟨by trivial,by trivial⟩,fun v=> ?_⟩;unfold Dt at h;rw[qL (by omega)]at h;split at h<;>omega
 . have h:=qB h;have v:nv d<=nv a:=by
    rcases sE (nv a) (nv d)with j|j
    . rw[Qp j]at h;omega
    . exact j
   have A:A8 r:=c▸K6 _;have D:A8 s:=g▸K6 _;have B:nv r=nv a:=by rw[c,F4]
   have E:nv s=nv d:=by rw[g,F4]
   have X:r.length<=a.length:=by rw[c];exact T
   have Q:s.length<=r.length:=by rw[c,g];exact L2 v
   rw[<-B, <-E]at v⊢;clear c g B E;refine⟨⟨by omega,qG _,by simp;omega,by omega⟩, ?_⟩;refine⟨fun p=>0<=p.2.1/\p.2.1<=(r.length:Int)/\0<=p.1/\p.1<=1/\p.2.2.1.length=r.length/\nv (r.take p.2.1.toNat)+4294967296^p.2.1.toNat*p.1.toNat=nv (p.2.2.1.take p.2.1.toNat)+nv (s.take p.2.1.toNat),fun p=>((r.length:Int)-p.2.1).toNat,⟨qG _,qD _,qG _,by show(0:Int)<=1;omega,by simp,by simp[nv]⟩, ?_⟩;rintro⟨o,i,out,_⟩ ⟨_,_,R,_⟩ ⟨f,j,G,H,u,n⟩;change Int at o i;change Xr at out;simp only at f j G H u n⊢;have N:A8 out:=A4 R.2;have U:=N6 A i.toNat;have V:=N6 D i.toNat;refine⟨fun t=> ?_,fun t=> ?_⟩
   . have h:i<(r.length:Int):=qA t;rw[Hc A f h,Ac (a:=(dg r i.toNat:Int)) (by omega) (by omega)];refine⟨⟨f,h⟩,fun p=>p.1=((dg r i.toNat:Int)-o-(dg s i.toNat:Int))%18446744073709551616,⟨fun b=> ?_,fun b=> ?_⟩, ?_⟩
     . have b:=qA b;refine⟨⟨f,b⟩, ?_⟩;show u64.wrap _= _;rw[Hc D f b,Ac (a:=(dg s i.toNat:Int)) (by omega) (by omega),Dh,Dh];omega
     . have b:=qB b;show u64.wrap _= _;rw[Ry (l:=s) (by omega),Dh];omega
     rintro⟨w,_⟩ _ k;change Int at w;simp only at k⊢;refine⟨⟨f,by omega⟩,by decide, ?_⟩;rw[C4h _ (by omega),wv (by omega),Dg];refine⟨⟨by omega,by omega,by omega,by omega,by rw[qJ];exact u, ?_⟩,by omega⟩;rw[show(i+1).toNat=i.toNat+1 from by omega,U5 (by omega),J0 r,J0 s,sA];exact ZT n (by omega)
   . have h:=qB t;refine⟨trivial, ?_⟩;rintro⟨q,_⟩ _ z;simp only at z⊢;refine⟨fun W=>by omega,fun _=>⟨?_,by trivial⟩⟩;rw[z];congr 1;rw[show i.toNat=r.length from by omega,qX (qZ _),qX (by omega),qX Q]at n;have y:nv out<4294967296^out.length:=Ht N;rw[u]at y;have M:o.toNat=0:=KA (P:=4294967296^r.length) (x:=nv out) (by omega) y;rw[M,wN,tD]at n;omega
def PC (x:A2 Gd.args) (T:awf Gd.args x) (ac:Gd.pre x):EY x:=by
 obtain⟨g,n,_⟩:=x;have a6:A8 g:=A4 T.1.2;have a7:A8 n:=A4 T.2.1.2;change Xr at g n;obtain⟨aj,am⟩:g.length<=17592186044416/\n.length<=17592186044416:=ac;have ae:=D2 a6;have af:=D2 a7;simp only[EY,iB,O9];refine⟨trivial, ?_⟩;rintro⟨a,_⟩ _ d;refine⟨trivial, ?_⟩;rintro⟨b,_⟩ _ f;simp only at d f⊢;have J:A8 a:=d▸K6 _;have N:A8 b:=f▸K6 _;have ai:a.length<=17592186044416:=by rw[d];omega
 have ak:b.length<=17592186044416:=by rw[f];omega
 have X:nv a=nv g:=by rw[d,F4]
 have Y:nv b=nv n:=by rw[f,F4]
 rw[<-X, <-Y];clear d f X Y ae af;refine⟨fun h=> ?_,fun _=> ?_⟩
 . rw[J1]at h;simp only[uC,rT]at h;have:nv a*nv b=0:=by
    rcases h with h|h
    . rw[qS (l:=a) (by omega)];simp[nv]
    . rw[qS (l:=b) (by omega)];simp[nv]
   rw[this,Q4]
 have a2:i64.wrap ((a.length:Int)+(b.length:Int))=((a.length+b.length:Nat):Int):=by
  rw[wv (by omega)];omega
 rw[a2];refine⟨⟨by omega,qG _,by simp;omega,by omega⟩, ?_⟩;refine⟨fun p=>0<=p.1/\p.1<=(a.length:Int)/\p.2.1.length=a.length+b.length/\nv p.2.1=nv (a.take p.1.toNat)*nv b/\∀j,p.1.toNat+b.length<=j->dg p.2.1 j=0,fun p=>((a.length:Int)-p.1).toNat,⟨qG _,qD _,by rw[rC,qH],by simp[nv,Tx],fun j _=>NK _ _⟩, ?_⟩;rintro⟨i,out,_⟩ ⟨_,ah,_⟩ ⟨A,a4,B,t,D⟩;change Int at i;change Xr at out;simp only at A a4 B t D⊢;refine⟨fun z=> ?_,fun z=> ?_⟩
 . have h:i<(a.length:Int):=qA z;have Z:=N6 J i.toNat;rw[Hc J A h];refine⟨fun p=>p.1.length=a.length+b.length/\nv p.1=nv (a.take (i.toNat+1))*nv b/\∀j,i.toNat+1+b.length<=j->dg p.1 j=0,⟨⟨A,h⟩,fun G=> ?_,fun G=> ?_⟩, ?_⟩
   . have G:(dg a i.toNat:Int)=0:=qA G;refine⟨B, ?_,fun j u=>D j (by omega)⟩;show nv out= _;rw[t,J0,show dg a i.toNat=0 from by omega,wN,tD]
   . refine⟨fun p=>0<=p.2.1/\p.2.1<=(b.length:Int)/\0<=p.1/\p.1<=4294967295/\p.2.2.1.length=a.length+b.length/\nv p.2.2.1+4294967296^(i.toNat+p.2.1.toNat)*p.1.toNat=nv out+4294967296^i.toNat*(dg a i.toNat*nv (b.take p.2.1.toNat))/\∀j,i.toNat+b.length<=j->dg p.2.2.1 j=0,fun p=>((b.length:Int)-p.2.1).toNat,⟨qG _,qD _,qG _,by show(0:Int)<=4294967295;omega,B,by simp[nv],D⟩, ?_⟩;rintro⟨c,j,o,_⟩ ⟨_,_,ad,_⟩ ⟨w,a3,H,I,y,r,s⟩;change Int at c j;change Xr at o;simp only at w a3 H I y r s⊢;have O:A8 o:=A4 ad.2;refine⟨fun E=> ?_,fun E=> ?_⟩
     . have u:j<(b.length:Int):=qA E;have a0:=N6 N j.toNat;rw[wv (a:=i+j) (by omega)];refine⟨⟨w,u⟩,⟨by omega,by omega⟩,⟨by omega,by omega⟩,by decide, ?_⟩;rw[Hc N w u,Ao O,show(i+j).toNat=i.toNat+j.toNat from by omega];have ag:=N6 O (i.toNat+j.toNat);have aa:dg a i.toNat*dg b j.toNat<=4294967295*4294967295:=yO Z a0;have ab:(dg a i.toNat:Int)*(dg b j.toNat:Int)=((dg a i.toNat*dg b j.toNat:Nat):Int):=(uL _ _).symm;rw[Ac (a:=(dg a i.toNat:Int)) (by omega) (by omega),Ac (a:=(dg b j.toNat:Int)) (by omega) (by omega),Ac (a:=(dg o (i.toNat+j.toNat):Int)) (by omega) (by omega),ab];generalize a5:dg a i.toNat*dg b j.toNat=M at aa;rw[Ac (a:=(M:Int)) (by omega) (by omega),Ac (a:=(M:Int)+(dg o (i.toNat+j.toNat):Int)) (by omega) (by omega),Ac (by omega) (by omega),A4k _ (by omega),wv (by omega),Dg];refine⟨⟨by omega,by omega,by omega,by omega,by rw[qJ];exact y, ?_,fun q Q=> ?_⟩,by omega⟩
       . have F:=Lu (l:=o) (k:=i.toNat+j.toNat) (v:=(c+((M:Int)+(dg o (i.toNat+j.toNat):Int)))%4294967296) (by omega);rw[show(j+1).toNat=j.toNat+1 from by omega,J0 b, <-uK i.toNat,sA,sY (dg a i.toNat)];have a1:dg a i.toNat*(4294967296^j.toNat*dg b j.toNat)=4294967296^j.toNat*M:=by rw[<-a5,zQ]
         rw[a1,sY (4294967296^i.toNat), <-sO (4294967296^i.toNat) (4294967296^j.toNat), <-uV, <-uK (nv out), <-r];generalize 4294967296^(i.toNat+j.toNat)=P at*;have a8:((c+((M:Int)+(dg o (i.toNat+j.toNat):Int)))%4294967296).toNat+4294967296*((c+((M:Int)+(dg o (i.toNat+j.toNat):Int)))/4294967296).toNat=c.toNat+dg o (i.toNat+j.toNat)+M:=by omega
         have a9:=tL (P* ·) a8;simp only[sY, <-sO]at a9;omega
       . rw[BV (by omega),qL (by omega)];exact s q Q
     . have u:=qB E;rw[wv (a:=i+(b.length:Int)) (by omega),w32 H I];refine⟨⟨by omega,by omega⟩,⟨by show(o.set _ _).length= _;rw[qJ];exact y, ?_,fun q Q=> ?_⟩⟩
       . show nv (o.set _ _)= _;have F:=Lu (l:=o) (k:=(i+(b.length:Int)).toNat) (v:=c) (by omega);rw[s _ (by omega),wN,tD]at F;rw[F,show(i+(b.length:Int)).toNat=i.toNat+b.length from by omega];rw[show j.toNat=b.length from by omega,qX (qZ b.length)]at r;rw[r,J0,uJ,t,sO]
       . show dg (o.set _ _) q=0;rw[BV (by omega),qL (by omega)];exact s q (by omega)
   . rintro⟨o,_⟩ _ ⟨U,V,W⟩;simp only at U V W⊢;rw[wv (by omega),show(i+1).toNat=i.toNat+1 from by omega];exact⟨⟨by omega,by omega,U,V,W⟩,by omega⟩
 . have h:=qB z;refine⟨trivial, ?_⟩;rintro⟨an,_⟩ _ R;simp only at R⊢;rw[R,t,qX (by omega)]
def Pt (x:A2 N9.args) (D:awf N9.args x) (P:N9.pre x):Hg x:=by
 obtain⟨l,d,_⟩:=x;have O:A8 l:=A4 D.1.2;change Xr at l;change Int at d;have J:u32.min<=d/\d<=u32.max:=D.2.1;rw[XB,XA]at J;obtain⟨X,o⟩:l.length<=17592186044416/\d≠0:=P;simp only[Hg,iB,O9];have T:u64.wrap d=d:=Ac (by omega) (by omega);rw[T,wv (a:=(l.length:Int)-1) (by omega)];refine⟨⟨by omega,qG _,by simp;omega,by omega⟩, ?_⟩;refine⟨fun p=> -1<=p.2.1/\p.2.1<(l.length:Int)/\0<=p.1/\p.1<d/\p.2.2.1.length=l.length/\nv (l.drop (p.2.1+1).toNat)=nv (p.2.2.1.drop (p.2.1+1).toNat)*d.toNat+p.1.toNat,fun p=>(p.2.1+1).toNat,⟨by show(-1:Int)<=(l.length:Int)-1;omega,by show(l.length:Int)-1< _;omega,qG _,by show(0:Int)<d;omega,by simp, ?_⟩, ?_⟩
 . show nv (l.drop ((l.length:Int)-1+1).toNat)=nv ((List.replicate _ 0).drop ((l.length:Int)-1+1).toNat)* _ + _;rw[sD (by omega),sD (by rw[rC];omega)];simp[nv]
 rintro⟨c,i,q,_⟩ _ ⟨H,j,s,I,u,g⟩;change Int at c i;change Xr at q;simp only at H j s I u g⊢;refine⟨fun r=> ?_,fun r=> ?_⟩
 . have h:0<=i:=qA r;have w:=Xa O h j;have M:=Y4 (l:=l) h j;rw[show Min.min (Int.toNat 32) u64.bits=32 from rfl];generalize gx 0 l i=b at*;have E:u64.wrap (c*2^32)=c*2^32:=Ac (by omega) (by omega);have F:u64.wrap b=b:=Ac (by omega) (by omega);have G:(((BitVec.ofInt u64.bits (c*2^32) |||BitVec.ofInt u64.bits b).toNat:Nat):Int)=b+c*4294967296:=OC (v:=b) (b:=c) (k:=32) w.1 (by omega) s (by omega) (by omega);rw[E,F,G,Ac (a:=b+c*4294967296) (by omega) (by omega),wv (a:=i-1) (by omega)];have t:0<=b+c*4294967296:=by omega
   rw[tU t,IntWalk.u64_quo _ _ ⟨t,by omega,by omega⟩];have y:=g0b t (show 0<=d by omega);have V:(b+c*4294967296)/d<4294967296:=by
    rw[g1w (by omega)];have:(c+1)*4294967296<=d*4294967296:=sI (by omega) (by decide);omega
   have A:=g2d (b+c*4294967296) o;have Q:=zF (b+c*4294967296) (b:=d) (by omega);have U:=yF (b+c*4294967296) d;rw[w32 y (by omega)];generalize (b+c*4294967296)/d=f at*;generalize (b+c*4294967296)%d=ri at*;refine⟨by decide,⟨h,j⟩,o,⟨h,by omega⟩,o,⟨by omega,by omega,A,Q,by rw[qJ];exact u, ?_⟩,by omega⟩;rw[show i-1+1=i from by omega,M];have N:(q.set i.toNat f).drop i.toNat=f::q.drop (i+1).toNat:=by
    have n:i.toNat<q.length:=by omega
    rw[xI (by rw[qJ];exact n),List.getElem_set_self,yU (by omega),show(i+1).toNat=i.toNat+1 from by omega]
   rw[N];simp only[nv];rw[g];have R:(b.toNat:Int)+4294967296*c.toNat=f.toNat*d.toNat+ri.toNat:=by
    rw[sP w.1,sP s,sP y,sP (show 0<=d by omega),sP A,g1y f];omega
   have W:b.toNat+4294967296*c.toNat=f.toNat*d.toNat+ri.toNat:=by
    have:((b.toNat+4294967296*c.toNat:Nat):Int)=((f.toNat*d.toNat+ri.toNat:Nat):Int):=by
     rw[wW,wW,uL,uL];exact R
    exact g1i this
   rw[sY, <-sO,uJ];omega
 . have h:¬0<=i:=qB r;rw[show(i+1).toNat=0 from by omega,tV,tV]at g;refine⟨trivial, ?_⟩;rintro⟨Y,_⟩ _ z;refine⟨trivial, ?_⟩;rintro⟨Z,_⟩ _ B;simp only at z B⊢;have n:c.toNat<d.toNat:=by omega
   rw[tF]at g;rw[z,B,g,g2g,tR n,g2f (by omega),uB n,tD];exact⟨rfl,rfl⟩
def AZ (x:A2 R5.args) (F:awf R5.args x) (E:R5.pre x):Pv x:=by
 obtain⟨l,s,_⟩:=x;have u:A8 l:=A4 F.1.2;change Xr at l;change Int at s;obtain⟨Q,G,R⟩:l.length<=17592186044416/\0<=s/\s<=31:=E;simp only[Pv,iB];rw[wv (a:=(l.length:Int)+1) (by omega)];refine⟨⟨by omega,qG _,by simp;omega,by omega⟩, ?_⟩;have N:(2:Nat)^s.toNat<=2^31:=rX (by decide) (by omega);have J:0<(2:Nat)^s.toNat:=tO (by decide);have d:((2:Int)^s.toNat)=((2^s.toNat:Nat):Int):=by rw[xK];rfl
 refine⟨fun p=>0<=p.2.1/\p.2.1<=(l.length:Int)/\0<=p.1/\p.1<2^s.toNat/\p.2.2.1.length=l.length+1/\nv (p.2.2.1.take p.2.1.toNat)+4294967296^p.2.1.toNat*p.1.toNat=nv (l.take p.2.1.toNat)*2^s.toNat,fun p=>((l.length:Int)-p.2.1).toNat,⟨qG _,qD _,qG _,by show(0:Int)<2^s.toNat;rw[d];omega,by rw[rC];omega,by simp[nv]⟩, ?_⟩;rintro⟨c,i,out,_⟩ ⟨_,_,O,_⟩ ⟨f,y,t,o,r,g⟩;change Int at c i;change Xr at out;simp only at f y t o r g⊢;have H:c<((2^s.toNat:Nat):Int):=by rw[<-d];exact o
 refine⟨fun n=> ?_,fun n=> ?_⟩
 . have j:i<(l.length:Int):=qA n;have dl:=N6 u i.toNat;have D:Min.min (Int.toNat s) u64.bits=s.toNat:=by show Min.min (Int.toNat s) 64= _;omega
   rw[Hc u f j,D,d];have h:(dg l i.toNat:Int)*((2^s.toNat:Nat):Int)=((dg l i.toNat*2^s.toNat:Nat):Int):=(uL _ _).symm;have I:dg l i.toNat*2^s.toNat<=4294967295*2^s.toNat:=rJ _ dl;have w:(((BitVec.ofInt u64.bits c|||BitVec.ofInt u64.bits ((dg l i.toNat*2^s.toNat:Nat):Int)).toNat:Nat):Int)=c+((dg l i.toNat*2^s.toNat:Nat):Int):=by
    have:=aO (v:=c) (b:=(dg l i.toNat:Int)) (k:=s.toNat) t o (by omega) (by rw[d,h];omega) (by omega);rw[d,h]at this;exact this
   rw[Ac (a:=(dg l i.toNat:Int)) (by omega) (by omega),h,Ac (a:=((dg l i.toNat*2^s.toNat:Nat):Int)) (by omega) (by omega),w,Ac (by omega) (by omega),A4k _ (by omega),wv (by omega),Dg];generalize z:dg l i.toNat*2^s.toNat=M at*;refine⟨⟨f,j⟩,G,⟨f,by omega⟩,by decide,⟨by omega,by omega,by omega, ?_,by rw[qJ];exact r, ?_⟩,by omega⟩
   . generalize 2^s.toNat=T at*;omega
   . rw[show(i+1).toNat=i.toNat+1 from by omega,U5 (by omega),J0 l,sA,uJ, <-g,sO (4294967296^i.toNat) (dg l i.toNat),z];generalize 4294967296^i.toNat=P at*;have A:((c+(M:Int))%4294967296).toNat+4294967296*((c+(M:Int))/4294967296).toNat=c.toNat+M:=by omega
     have B:=tL (P* ·) A;simp only[sY, <-sO]at B;omega
 . have j:¬i<(l.length:Int):=qB n;rw[qH,w32 (by omega) (by omega)];refine⟨⟨by omega,by omega⟩,by rw[qJ];exact r, ?_⟩;have e:=U5 (l:=out) (i:=l.length) (v:=c) (by omega);rw[qX (by rw[qJ];omega)]at e;rw[show i.toNat=l.length from by omega,qX (qZ l.length)]at g;rw[e,g]
def Sv (x:A2 N2.args) (J:awf N2.args x) (R:N2.pre x):Ji x:=by
 obtain⟨a,n,_⟩:=x;have Q:A8 a:=A4 J.1.2;have G:=(show i64.min<=n/\n<=i64.max from J.2.1);rw[Wv,GK]at G;change Xr at a;change Int at n;have a3:a.length<=17592186044416:=R;have V:=D2 Q;have Y: -9223372036854775808<=n/\n<=9223372036854775807:=G;simp only[Ji,iB,O9];refine⟨fun h=> ?_,fun h=>⟨trivial, ?_⟩⟩
 . have h:=qA h;exact⟨fun _=>⟨by trivial,by trivial⟩,fun g=>by omega⟩
 have h:=qB h;have z:0<=n:=by omega
 rintro⟨r,_⟩ _ o;simp only at o⊢;have A:i64.wrap (Int.tdiv n 32)=((n.toNat/32:Nat):Int):=by
  rw[yN z,wv (by omega)];omega
 have B:(Int.tmod n 32).toNat=n.toNat%32:=by rw[tU z];omega
 have N:(0:Int)<=Int.tmod n 32:=zC _ z;have D:n.toNat=32*(n.toNat/32)+n.toNat%32:=by omega
 have O:n.toNat%32<=31:=by omega
 have E:Min.min (n.toNat%32) u64.bits=n.toNat%32:=by show Min.min (n.toNat%32) 64= _;omega
 rw[A,B,E];have T:nv r=nv a:=by rw[o,F4]
 have I:A8 r:=o▸K6 _;have a0:r.length<=a.length:=by rw[o];exact V
 have u:=iW (l:=r) I (k:=n.toNat/32) (s:=n.toNat%32);rw[<-D,T]at u;clear A B E;refine⟨by decide,fun g=> ?_,fun g=> ?_⟩
 . have g:=qA g;refine⟨fun c=>by omega,fun _=>⟨?_,by trivial⟩⟩;rw[u,sD (by omega),lR,g4c,Q4]
 . have g:=qB g;rw[u];rw[show(((n.toNat/32:Nat):Int)).toNat=n.toNat/32 from qH _,show((r.length:Int)).toNat=r.length from qH _,qX (qZ _)];have f:A8 (r.drop (n.toNat/32)):=fun y hy=>I y (vF hy)
   have a1:(r.drop (n.toNat/32)).length<=r.length:=by rw[sN];omega
   refine⟨by decide,⟨by omega,by omega,qG _⟩,by decide,⟨by omega,qG _,by omega,by omega⟩, ?_⟩;clear u D;generalize r.drop (n.toNat/32)=t at*;generalize n.toNat%32=s at*;have P:nv t/2^s<4294967296^t.length:=xZ (wY _ _) (Ht f);refine⟨fun p=>0<=p.1/\p.1<=(t.length:Int)/\p.2.1.length=t.length/\nv (p.2.1.take p.1.toNat)=nv t/2^s%4294967296^p.1.toNat,fun p=>((t.length:Int)-p.1).toNat,⟨qG _,qD _,by simp,by simp[nv];omega⟩, ?_⟩;rintro⟨i,out,_⟩ ⟨_,a2,_⟩ ⟨j,U,M,w⟩;change Int at i;change Xr at out;simp only at j U M w⊢;have W:=N6 f i.toNat;have X:=N6 f (i.toNat+1);refine⟨fun c=> ?_,fun c=> ?_⟩
   . have c:=qA c;rw[wv (a:=i+1) (by omega)];refine⟨⟨j,c⟩,fun p=>p.1=((dg t i.toNat+dg t (i.toNat+1)*4294967296:Nat):Int),⟨fun d=> ?_,fun d=> ?_⟩, ?_⟩
     . have d:=qA d;refine⟨⟨by omega,d⟩,by decide, ?_⟩;show u64.wrap _= _;rw[Hc f j c,Hc f (by omega) d,show(i+1).toNat=i.toNat+1 from by omega];rw[show Min.min (Int.toNat 32) u64.bits=32 from rfl];rw[Ac (a:=(dg t i.toNat:Int)) (by omega) (by omega),Ac (a:=(dg t (i.toNat+1):Int)) (by omega) (by omega),Ac (a:=(dg t (i.toNat+1):Int)*2^32) (by omega) (by omega)];have:=aO (v:=(dg t i.toNat:Int)) (b:=(dg t (i.toNat+1):Int)) (k:=32) (by omega) (by omega) (by omega) (by omega) (by omega);rw[show u64.bits=64 from rfl,this,Ac (by omega) (by omega)];omega
     . have d:=qB d;show u64.wrap _= _;rw[Hc f j c,Ac (by omega) (by omega),Ry (i:=i.toNat+1) (by omega)];omega
     rintro⟨a4,_⟩ _ F;simp only at F⊢;refine⟨N,⟨j,by omega⟩,⟨by omega,by omega,by rw[qJ];exact M, ?_⟩,by omega⟩;rw[show(i+1).toNat=i.toNat+1 from by omega,U5 (by omega),w,sA,Nat.mod_mul,B0f f _ O];congr 2;rw[F,Dg];have:Int.fdiv ((dg t i.toNat+dg t (i.toNat+1)*4294967296:Nat):Int) (2^s)=(((dg t i.toNat+dg t (i.toNat+1)*4294967296)/2^s:Nat):Int):=by
      rw[show((2:Int)^s)=((2^s:Nat):Int)from by rw[xK];rfl,sH _ (qD _)];rfl
     rw[this];generalize (dg t i.toNat+dg t (i.toNat+1)*4294967296)/2^s=Z;omega
   . have c:=qB c;refine⟨trivial, ?_⟩;rintro⟨q,_⟩ _ H;simp only at H⊢;refine⟨fun h=>by omega,fun _=>⟨?_,by trivial⟩⟩;rw[show i.toNat=t.length from by omega,qX (by omega),tR P]at w;rw[H,w]
def dJ:An:= {join:= [(4,⟨[],[],[(0,false,[.val (.int .u32)]),(2,false,vI)],[],[]⟩),(7,⟨[],[],[(0,false,[.val (.int .u32)]),(2,false,vI)],[],[]⟩)]}
def Wh:An:= {}
def HJ:An:= {}
def MX:An:= {plan:= [(2,[],[],true,(pZ9 0 3 (pZ9 5 3 (.p 10 (pZ9 12 3 (.p 16 (.p 17 (.e 3 (.p 4 (.e 8 (.p 9 (.p 11 (.e 15 (pZ9 18 3 .done))))))))))))))]}
def JV:An:= {loop:= [(7,⟨[4],[0],[(7,false,vU),(8,false,vU),(9,false,vU),(10,false,vU),(11,false,vU),(12,false,vU),(13,false,vU),(14,false,vU),(15,false,[.val .bool])],[],[]⟩)],plan:= [(9,[],[],true,(pZ9 0 6 .done))]}
def JU:An:= {}
def Fe:ByteArray:=ByteArray.mk (([(0:UInt8),1,2,2,3,3,3,3,4,4,4,4,4,4,4,4,5,5,5,5,5,5,5,5,5,5,5,5,5,5,5,5,6,6,6,6,6,6,6,6,6,6,6,6,6,6,6,6,6,6,6,6,6,6,6,6,6,6,6,6,6,6,6,6].append [(7:UInt8),7,7,7,7,7,7,7,7,7,7,7,7,7,7,7,7,7,7,7,7,7,7,7,7,7,7,7,7,7,7,7,7,7,7,7,7,7,7,7,7,7,7,7,7,7,7,7,7,7,7,7,7,7,7,7,7,7,7,7,7,7,7,7]).append ([(8:UInt8),8,8,8,8,8,8,8,8,8,8,8,8,8,8,8,8,8,8,8,8,8,8,8,8,8,8,8,8,8,8,8,8,8,8,8,8,8,8,8,8,8,8,8,8,8,8,8,8,8,8,8,8,8,8,8,8,8,8,8,8,8,8,8].append [(8:UInt8),8,8,8,8,8,8,8,8,8,8,8,8,8,8,8,8,8,8,8,8,8,8,8,8,8,8,8,8,8,8,8,8,8,8,8,8,8,8,8,8,8,8,8,8,8,8,8,8,8,8,8,8,8,8,8,8,8,8,8,8,8,8,8])).toArray
def JG:A2 Ib.args->Prop:=fun(x:C8)=>∃(J:Dl->Prop),((iB (decide (65536<=x.1)) ((0:(Ty.int u64).den)<=(16:Int)/\J (Int.fdiv x.1 ((2:Int)^Min.min ((16:Int).toNat) u32.bits),(16:Int),())) (J (x.1,(0:Int),()))))/\∀(p:Dl),(Ty.int u32).wf p.1/\(Ty.int i64).wf p.2.1/\True->J p->∃(J:Dl->Prop),((iB (decide (256<=p.1)) ((0:(Ty.int u64).den)<=(8:Int)/\J (Int.fdiv p.1 ((2:Int)^Min.min ((8:Int).toNat) u32.bits),i64.wrap (p.2.1+8),())) (J (p.1,p.2.1,()))))/\∀(p:Dl),(Ty.int u32).wf p.1/\(Ty.int i64).wf p.2.1/\True->J p->((0:Int)<=IntKind.u8.wrap p.1/\IntKind.u8.wrap p.1<(↑(Fe).data.toList.length:Int))/\i64.wrap (p.2.1+i64.wrap (JY (Fe) (IntKind.u8.wrap p.1)))=(↑(L6 x.1.toNat):Int)
def Ik:A2 L5.args->Prop:=fun(x:C8)=>True/\Cw fun r=>r.1=(↑(L6 x.1.toNat):Int)->i64.wrap (32-r.1)=(32:Int)-(↑(L6 x.1.toNat):Int)
def Mh:A2 W2.args->Prop:=fun(x:LH)=>let c:=(↑x.2.1.length:Int);let b:=(0:Int);let a:=(x.2.1.length:Int);(iB (decide (x.1<a)) ((b<=x.1/\x.1<a)/\u64.wrap (gx b x.2.1 x.1)=if x.1<c then x.2.1.getD x.1.toNat b else b) (b=if x.1<c then x.2.1.getD x.1.toNat b else b))
def Rm:A2 Bf.args->Prop:=fun(x:Xr×Int×Int×Unit)=>let d:=(32:Int);let c:=(2:Int);let b:=(x.1.length:Int);let a:=(0:Int);a<=i64.wrap (x.2.1-1)/\rT1 fun r=>(r.1=if i64.wrap (x.2.1-1)<b then List.getD x.1 (i64.wrap (x.2.1-1)).toNat a else a)->(0:(Ty.int u64).den)<=d/\a<=i64.wrap (x.2.1-c)/\rT1 fun e=>(e.1=if i64.wrap (x.2.1-c)<b then List.getD x.1 (i64.wrap (x.2.1-c)).toNat a else a)->(0:(Ty.int i64).den)<=x.2.2.1/\a<=i64.wrap (x.2.1-3)/\rT1 fun f=>(f.1=if i64.wrap (x.2.1-3)<b then List.getD x.1 (i64.wrap (x.2.1-3)).toNat a else a)->(0:(Ty.int i64).den)<=i64.wrap (d-x.2.2.1)/\u64.wrap (↑(BitVec.ofInt u64.bits (u64.wrap (u64.wrap (↑(BitVec.ofInt u64.bits (u64.wrap (r.1*c^Min.min d.toNat u64.bits)) |||BitVec.ofInt u64.bits e.1).toNat:Int)*c^Min.min x.2.2.1.toNat u64.bits)) |||BitVec.ofInt u64.bits (Int.fdiv f.1 (c^Min.min (i64.wrap (d-x.2.2.1)).toNat u64.bits))).toNat:Int)=(↑(nv x.1*2^x.2.2.1.toNat/(4294967296:Nat)^(x.2.1.toNat-(2:Nat))):Int)
abbrev C7v:=Int×Int×Int×Int×Int×Int×Int×Int×Bool×Unit
def Pu:A2 Aa.args->Prop:=fun(x:Fq)=>let l:=(17592186044416:Int);let k:=(2:Nat);let j:=(1:Int);let i:=(4294967296:Nat);let f:=(↑(nv x.1):Int);let d:=(↑(nv x.2.1):Int);let c:=(0:Int);let a:=(x.1.length:Int);(c<=i64.wrap (a-j)/\i64.wrap (a-j)<a)/\True/\Cw fun r=>r.1=32-(↑(L6 (gx c x.1 (i64.wrap (a-j))).toNat):Int)->((3:Int)<=a/\a<=a/\a<=l/\c<=r.1/\r.1<=31/\nv x.1*k^Int.toNat r.1<i^a.toNat)/\rT1 fun m=>m.1=(↑(nv x.1*k^Int.toNat r.1/i^(a.toNat-k)):Int)->((3:Int)<=a/\(x.2.1.length:Int)<=a/\a<=l/\c<=r.1/\r.1<=31/\nv x.2.1*k^Int.toNat r.1<i^a.toNat)/\rT1 fun n=>n.1=(↑(nv x.2.1*k^Int.toNat r.1/i^(a.toNat-k)):Int)->∃(I:C7v->Prop),∃(b: _->Nat),I (m.1,n.1,c,j,c,c,c,j,false,())/\∀(p:C7v),let h:=(decide (p.2.2.2.2.2.2.2.1<=p.2.1));let g:=(u64.wrap (Int.tdiv p.1 p.2.1)*p.2.2.2.2.1);let e:=(u64.wrap (Int.tdiv p.1 p.2.1)*p.2.2.2.2.2.2.2.1);let a:=(decide (u64.wrap (p.2.2.2.2.2.2.1+p.2.2.2.2.2.2.2.1)<=u64.wrap (p.1-p.2.1)));(Ty.int u64).wf p.1/\(Ty.int u64).wf p.2.1/\(Ty.int u64).wf p.2.2.1/\(Ty.int u64).wf p.2.2.2.1/\(Ty.int u64).wf p.2.2.2.2.1/\(Ty.int u64).wf p.2.2.2.2.2.1/\(Ty.int u64).wf p.2.2.2.2.2.2.1/\(Ty.int u64).wf p.2.2.2.2.2.2.2.1/\Ty.bool.wf p.2.2.2.2.2.2.2.2.1/\True->I p->(iB (L8 h a false) (p.2.1≠c/\p.2.1≠c/\I (p.2.1,Int.tmod p.1 p.2.1,p.2.2.2.1,p.2.2.2.2.1,u64.wrap (p.2.2.2.1+u64.wrap g),p.2.2.2.2.2.2.1,p.2.2.2.2.2.2.2.1,u64.wrap (p.2.2.2.2.2.2.1+u64.wrap e), !p.2.2.2.2.2.2.2.2.1,())/\b (p.2.1,Int.tmod p.1 p.2.1,p.2.2.2.1,p.2.2.2.2.1,u64.wrap (p.2.2.2.1+u64.wrap g),p.2.2.2.2.2.2.1,p.2.2.2.2.2.2.2.1,u64.wrap (p.2.2.2.2.2.2.1+u64.wrap e), !p.2.2.2.2.2.2.2.2.1,())<b p) (p.2.2.2.2.2.1=c\/∃(A':Int),∃(B':Int),(A'=if p.2.2.2.2.2.2.2.2.1=true then p.2.2.1*f-p.2.2.2.2.2.1*d else p.2.2.2.2.2.1*d-p.2.2.1*f)/\(B'=if p.2.2.2.2.2.2.2.2.1=true then p.2.2.2.2.2.2.1*d-p.2.2.2.1*f else p.2.2.2.1*f-p.2.2.2.2.2.2.1*d)/\c<=B'/\B'<=A'/\f=p.2.2.2.2.2.2.1*A'+p.2.2.2.2.2.1*B'/\d=p.2.2.2.1*A'+p.2.2.1*B'/\j<=p.2.2.2.2.2.1/\j<=p.2.2.2.2.2.2.1/\c<=p.2.2.1/\c<=p.2.2.2.1))
abbrev A4x:=Xr×Bool×Unit
def Ps:A2 Z9.args->Prop:=fun(x:Xr×Int×Xr×Int×Unit)=>True/\O9 fun r=>r.1=nc x.2.1.toNat->(E8 x.1/\E8 r.1)/\O9 fun a=>a.1=nc (nv x.1*nv r.1)->True/\O9 fun r=>r.1=nc x.2.2.2.1.toNat->(E8 x.2.2.1/\E8 r.1)/\O9 fun b=>b.1=nc (nv x.2.2.1*nv r.1)->(E8 a.1/\E8 b.1)/\∀(r:A4x),Kj r.1/\True/\True->(nv a.1<nv b.1->r.1= []/\r.2.1=false)/\(nv b.1<=nv a.1->r.1=nc (nv a.1-nv b.1)/\r.2.1=true)->r.1=nc (nv x.1*x.2.1.toNat-nv x.2.2.1*x.2.2.2.1.toNat)
def C4k:∀k:Fin 256,JY Fe (k.val:Int)=(L6 k.val:Int):=by decide+kernel
def SU (x:A2 Ib.args) (D:awf Ib.args x) (_:Ib.pre x):JG x:=by
 obtain⟨v,_⟩:=x;change Int at v;have B:=(show u32.min<=v/\v<=u32.max from D.1);rw[XB,XA]at B;simp only[JG,iB];have l:Int.fdiv v (2^Min.min (Int.toNat 16) u32.bits)=v/65536:=by
  rw[show Min.min (Int.toNat 16) u32.bits=16 from rfl,sH _ (by decide)];rfl
 rw[l];refine⟨fun p=>0<=p.1/\p.1<65536/\0<=p.2.1/\p.2.1<=16/\(L6 v.toNat:Int)=L6 p.1.toNat+p.2.1,⟨fun h=> ?_,fun h=> ?_⟩, ?_⟩
 . have h:=qA h;have e:=NH (n:=v.toNat) (k:=16) (by omega);refine⟨by decide,by show(0:Int)<=v/65536;omega,by show v/65536<65536;omega,by show(0:Int)<=16;omega,by show(16:Int)<=16;omega, ?_⟩;show(L6 v.toNat:Int)=L6 (v/65536).toNat+16;rw[e,show(v/65536).toNat=v.toNat/2^16 from by omega];omega
 . have h:=qB h;refine⟨by show(0:Int)<=v;omega,by show v<65536;omega,by show(0:Int)<=0;omega,by show(0:Int)<=16;omega, ?_⟩;show(L6 v.toNat:Int)=L6 v.toNat+0;omega
 rintro⟨w,n,_⟩ _ ⟨i,t,j,y,c⟩;change Int at w n;simp only at i t j y c⊢;have o:Int.fdiv w (2^Min.min (Int.toNat 8) u32.bits)=w/256:=by
  rw[show Min.min (Int.toNat 8) u32.bits=8 from rfl,sH _ (by decide)];rfl
 rw[o,wv (a:=n+8) (by omega)];refine⟨fun p=>0<=p.1/\p.1<256/\0<=p.2.1/\p.2.1<=24/\(L6 v.toNat:Int)=L6 p.1.toNat+p.2.1,⟨fun h=> ?_,fun h=> ?_⟩, ?_⟩
 . have h:=qA h;have e:=NH (n:=w.toNat) (k:=8) (by omega);refine⟨by decide,by show(0:Int)<=w/256;omega,by show w/256<256;omega,by show 0<=n+8;omega,by show n+8<=24;omega, ?_⟩;show(L6 v.toNat:Int)=L6 (w/256).toNat+(n+8);rw[c,e,show(w/256).toNat=w.toNat/2^8 from by omega];omega
 . have h:=qB h;exact⟨i,by show w<256;omega,j,by show n<=24;omega,c⟩
 rintro⟨u,m,_⟩ _ ⟨b,f,r,s,g⟩;change Int at u m;simp only at b f r s g⊢;have E:IntKind.u8.wrap u=u:=IntWalk.u8_in _ ⟨b,by omega⟩;have A:(Fe.data.toList.length:Int)=256:=by decide+kernel
 have d:=C4k ⟨u.toNat,by omega⟩;simp only at d;rw[show((u.toNat:Nat):Int)=u from by omega]at d;have H:L6 u.toNat<=8:=by
  rcases sE 8 (L6 u.toNat)with h|h
  . have z:u.toNat≠0:=fun e=>by rw[e,FZ]at h;omega
    have F:=(FY z).1;have G:2^8<=2^(L6 u.toNat-1):=rX (by decide) (by omega);omega
  . exact h
 rw[E,d];refine⟨⟨b,by rw[A];exact f⟩, ?_⟩;rw[wv (a:=(L6 u.toNat:Int)) (by omega),wv (by omega),g];omega
def XZ {v:Nat} (h:v<4294967296):L6 v<=32:=by
 rcases sE 32 (L6 v)with a|a
 . have b:v≠0:=fun e=>by rw[e,FZ]at a;omega
   have c:=(FY b).1;have b:2^32<=2^(L6 v-1):=rX (by decide) (by omega);omega
 . exact a
def Qg (x:A2 L5.args) (c:awf L5.args x) (_:L5.pre x):Ik x:=by
 obtain⟨v,_⟩:=x;change Int at v;have b:=(show u32.min<=v/\v<=u32.max from c.1);rw[XB,XA]at b;simp only[Ik,Cw];refine⟨trivial, ?_⟩;rintro⟨r,_⟩ _ a;simp only at a⊢;have:=XZ (v:=v.toNat) (by omega);rw[a,wv (by omega)]
def Yg (x:A2 W2.args) (g:awf W2.args x) (f:W2.pre x):Mh x:=by
 obtain⟨i,l,_⟩:=x;have c:A8 l:=A4 g.2.1.2;change Int at i;change Xr at l;have a:0<=i:=f;simp only[Mh,iB];refine⟨fun h=> ?_,fun h=> ?_⟩
 . have h:=qA h;have b:=Xa c a h;rw[qP h, <-E5 (d:=(0:Int)) a h,Ac b.1 (by omega)];exact⟨⟨a,h⟩,rfl⟩
 . have h:=qB h;rw[qL h]
def B8y {l:Xr} (h:A8 l) {i:Int} (a:0<=i):(if i<(l.length:Int)then l.getD i.toNat 0 else 0)=(dg l i.toNat:Int):=by
 split
 . exact Ao h
 . rw[Ry (by omega)];rfl
def FC (x:A2 Bf.args) (V:awf Bf.args x) (T:Bf.pre x):Rm x:=by
 obtain⟨l,n,s,_⟩:=x;have c:A8 l:=A4 V.1.2;change Xr at l;change Int at n s;obtain⟨a8,a7,a9,Z,a0,j⟩:3<=n/\(l.length:Int)<=n/\n<=17592186044416/\0<=s/\s<=31/\nv l*2^s.toNat<4294967296^n.toNat:=T;simp only[Rm,rT1];rw[wv (a:=n-1) (by omega),wv (a:=n-2) (by omega),wv (a:=n-3) (by omega),wv (a:=32-s) (by omega)];refine⟨by omega, ?_⟩;rintro⟨a,_⟩ _ g;refine⟨by decide,by omega, ?_⟩;rintro⟨b,_⟩ _ h;refine⟨Z,by omega, ?_⟩;rintro⟨a1,_⟩ _ i;simp only at g h i⊢;rw[B8y c (by omega)]at g h i;have y:=N6 c (n-1).toNat;have z:=N6 c (n-2).toNat;have D:=N6 c (n-3).toNat;obtain⟨m,rfl⟩:∃m:Nat,n=(m:Int)+3:=⟨(n-3).toNat,by omega⟩;rw[show((m:Int)+3-1).toNat=m+2 from by omega]at g y;rw[show((m:Int)+3-2).toNat=m+1 from by omega]at h z;rw[show((m:Int)+3-3).toNat=m from by omega]at i D;rw[show((m:Int)+3).toNat=m+3 from by omega]at j⊢;rw[show m+3-2=m+1 from by omega];have o:=A6u l (n:=m) (by omega);have O:=V9 c m;have J:0<4294967296^m:=tO (by decide);subst g h i;generalize a3:dg l (m+2)=A at*;generalize a4:dg l (m+1)=B at*;generalize a5:dg l m=C at*;have U:=C0x (a:=nv l) (low:=nv (l.take m)) (lo:=C) (H:=A*4294967296+B) (P:=4294967296^m) (s:=s.toNat) J (by rw[o];grind) O (by omega);rw[sA,U];have u:(A*4294967296+B)*2^s.toNat<18446744073709551616:=by
  have E:(A*4294967296+B)*2^s.toNat*(4294967296^m*4294967296)<=nv l*2^s.toNat:=by
   have:(A*4294967296+B)*(4294967296^m*4294967296)<=nv l:=by rw[o];grind
   have:=rJ (2^s.toNat) this;rwa[zI]at this
  have d:4294967296^(m+3)=18446744073709551616*(4294967296^m*4294967296):=by
   rw[sA,sA,sA];grind
  rw[d]at j;exact xE (xZ E j)
 have Q:Min.min (Int.toNat s) u64.bits=s.toNat:=by show Min.min (Int.toNat s) 64= _;omega
 have R:Min.min (Int.toNat (32-s)) u64.bits=32-s.toNat:=by show Min.min (Int.toNat (32-s)) 64= _;omega
 rw[Q,R,show Min.min (Int.toNat 32) u64.bits=32 from rfl];have a6:A*4294967296+B<18446744073709551616:=by omega
 have W:(((BitVec.ofInt u64.bits (u64.wrap ((A:Int)*2^32)) |||BitVec.ofInt u64.bits (B:Int)).toNat:Nat):Int)=((A*4294967296+B:Nat):Int):=by
  rw[Ac (a:=(A:Int)*2^32) (by omega) (by omega)];have:=OC (v:=(B:Int)) (b:=(A:Int)) (k:=32) (by omega) (by omega) (by omega) (by omega) (by omega);rw[show u64.bits=64 from rfl,this];omega
 rw[W,Ac (a:=((A*4294967296+B:Nat):Int)) (by omega) (by omega)];have w:((2:Int)^s.toNat)=((2^s.toNat:Nat):Int):=by rw[xK];rfl
 have f:((A*4294967296+B:Nat):Int)*2^s.toNat=(((A*4294967296+B)*2^s.toNat:Nat):Int):=by rw[w,uL]
 have X:Int.fdiv (C:Int) (2^(32-s.toNat))=((C/2^(32-s.toNat):Nat):Int):=by
  have E:((2:Int)^(32-s.toNat))=((2^(32-s.toNat):Nat):Int):=by rw[xK];rfl
  rw[E,sH _ (qD _)];rfl
 have M:C/2^(32-s.toNat)<2^s.toNat:=by
  rw[tN (tO (by decide)), <-HA (by omega)];omega
 have I:(0:Int)<=(((A*4294967296+B)*2^s.toNat:Nat):Int):=qD _;rw[X,Ac (a:=((A*4294967296+B:Nat):Int)*2^s.toNat) (by rw[f];omega) (by rw[f];omega)];generalize C/2^(32-s.toNat)=L at*;have N:(L:Int)<2^s.toNat:=by rw[w];omega
 have a2:(2:Nat)^s.toNat<=2^31:=rX (by decide) (by omega);have Y:=OC (v:=(L:Int)) (b:=((A*4294967296+B:Nat):Int)) (k:=s.toNat) (by omega) N (by omega) (by rw[f];omega) (by omega);rw[show u64.bits=64 from rfl,Y,f,Ac (a:=(L:Int)+(((A*4294967296+B)*2^s.toNat:Nat):Int)) (Int.add_nonneg (qD _) I) ?_]
 . constructor
   . exact Int.sub_nonneg.2 (Int.le_trans a0 (by decide))
   . rw[wW];exact Int.add_comm _ _
 . --the shifted number and the digits behind it are below 2^64
   have d:(18446744073709551616:Nat)=18446744073709551616/2^s.toNat*2^s.toNat:=by
    refine(Nat.div_mul_cancel ?_).symm;exact⟨2^(64-s.toNat),by rw[<-uV,show s.toNat+(64-s.toNat)=64 from by omega]⟩
   have F:A*4294967296+B<18446744073709551616/2^s.toNat:=by
    rw[d]at u;exact xE u
   have r:(A*4294967296+B+1)*2^s.toNat<=18446744073709551616:=by
    rw[d];exact rJ _ F
   rw[uJ,wT]at r;have G:L+(A*4294967296+B)*2^s.toNat<18446744073709551616:=rF (by rw[wB];exact Nat.add_lt_add_left M _) r;have t:((L+(A*4294967296+B)*2^s.toNat:Nat):Int)<18446744073709551616:=sB.2 G;rw[wW]at t;exact Int.le_of_lt_add_one t
def AY (x:A2 Aa.args) (O:awf Aa.args x) (a9:Aa.pre x):Pu x:=by
 obtain⟨a,b,_⟩:=x;have k:A8 a:=A4 O.1.2;have an:A8 b:=A4 O.2.1.2;change Xr at a b;obtain⟨b4,T,J,D,aq⟩:a.length<=17592186044416/\3<=a.length/\Pj a/\nv b<=nv a/\b.length<=a.length:=a9;simp only[Pu,iB,rT1,Cw];have W:i64.wrap ((a.length:Int)-1)=(a.length:Int)-1:=wv (by omega);rw[W,Hc k (by omega) (by omega),show((a.length:Int)-1).toNat=a.length-1 from by omega];refine⟨⟨by omega,by omega⟩,trivial, ?_⟩;rintro⟨s,_⟩ _ H;change Int at s;simp only at H⊢;rw[qH]at H;have E:=SQ k J;have ar:=N6 k (a.length-1);have ap:=XZ (v:=dg a (a.length-1)) (by omega);have ao:=(FY E).2;have t:=A6i k (n:=a.length-1) (by omega) (s:=s.toNat) (by omega);rw[show a.length-1+1=a.length from by omega]at t;have a8:nv b*2^s.toNat<4294967296^a.length:=xZ (rJ _ D) t;have ax:=bR k J;rw[qH];refine⟨⟨by omega,qG _,by omega,by omega,by omega,t⟩, ?_⟩;rintro⟨X,_⟩ ⟨B,_⟩ i;refine⟨⟨by omega,by omega,by omega,by omega,by omega,a8⟩, ?_⟩;rintro⟨Y,_⟩ ⟨a7,_⟩ j;change Int at X Y;simp only at i j B a7⊢;have hK:s.toNat<=32*(a.length-2):=by omega
 rw[Nl,B0e hK]at i j;have o:0<2^(32*(a.length-2)-s.toNat):=tO (by decide);have a4:0<X:=by
  rw[i];have ag:=Xe a (n:=a.length-1) (by omega);have Z:2^(32*(a.length-2)-s.toNat)<=nv a:=by
   have ah:2^(32*(a.length-2)-s.toNat)<=4294967296^(a.length-1):=by
    rw[Nl];exact rX (by decide) (by omega)
   have ai:=sS (4294967296^(a.length-1)) (sV E);omega
  have:=(vC o).2 (by rw[wT];exact Z);omega
 have a6:Y<=X:=by rw[i,j];exact Int.ofNat_le.2 (Nat.div_le_div_right D)
 have a5:0<=Y:=by rw[j];exact qD _
 have a0:=wX (nv a) (2^(32*(a.length-2)-s.toNat));have aj:=wD (nv a) o;have a2:=wX (nv b) (2^(32*(a.length-2)-s.toNat));have ak:=wD (nv b) o;generalize 2^(32*(a.length-2)-s.toNat)=K at*;have am:X<=18446744073709551615:=by have:=B.2;rw[HD]at this;exact this
 refine⟨fun p=>∃R,Leh X Y R p.1 p.2.1 p.2.2.1 p.2.2.2.1 p.2.2.2.2.1 p.2.2.2.2.2.1 p.2.2.2.2.2.2.1 p.2.2.2.2.2.2.2.1 p.2.2.2.2.2.2.2.2.1,fun p=>p.2.1.toNat,⟨0,Leh.start a5 a6 a4⟩, ?_⟩;rintro⟨x,y,ac,l,f,Q,g,d,ev,_⟩ _ ⟨R,c⟩;change Int at x y ac l f Q g d;change Bool at ev;simp only at c⊢;have au:=c.idX;have av:=c.idY;have b3:=c.yx;have w:=c.y0;have b2:=c.x0;have aa:=c.u10;have u:=c.u20;have N:=c.v10;have ab:=c.v20;have b8:x*1<=x*d:=tT ab (by omega);have ba:0<=y*g:=tK w N;have b7:0<=x*f:=tK (by omega) u;have b9:0<=y*l:=tK w aa;have b6:1*d<=x*d:=sI (by omega) (by omega);refine⟨fun r=> ?_,fun _=> ?_⟩
 . rw[J6]at r;simp only[qC,rT]at r;obtain⟨c1,A⟩:=r;have z:1<=y:=by omega
   have b5:1*g<=y*g:=sI z N;rw[Ac (a:=g+d) (by omega) (by omega),Ac (a:=x-y) (by omega) (by omega)]at A;have h:=c.step c1 A;have az:=h.idX;have b0:=h.idY;have I:=h.u20;have b1:=h.v20;have F:0<=x/y:=g0b (by omega) w;have ay:x/y<=x:=Int.ediv_le_self _ (by omega);have G:=h.y0;have ad:1*(g+x/y*d)<=y*(g+x/y*d):=sI z (by omega);have ae:0<=x%y*d:=tK G (by omega);have T:1*(l+x/y*f)<=y*(l+x/y*f):=sI z I;have af:0<=x%y*f:=tK G u;have U:0<=x/y*d:=tK F (by omega);have V:0<=x/y*f:=tK F u;rw[tU (by omega),IntWalk.u64_quo _ _ ⟨by omega,by omega,by omega⟩];rw[Ac (a:=x/y*f) V (by omega),Ac (a:=x/y*d) U (by omega),Ac (a:=l+x/y*f) I (by omega),Ac (a:=g+x/y*d) (by omega) (by omega)];have aw:=zF x (b:=y) (by omega);exact⟨by omega,by omega,⟨x,h⟩,by omega⟩
 . by_cases M:Q=0
   . exact .inl M
   . right;have a1:(nv a:Int)=X*(K:Int)+((nv a%K:Nat):Int):=by
      rw[i, <-uL, <-wW,tF,a0]
     have a3:(nv b:Int)=Y*(K:Int)+((nv b%K:Nat):Int):=by
      rw[j, <-uL, <-wW,tF,a2]
     exact c.apply M (P:=(K:Int)) (by omega) (qD _) (by omega) (qD _) (by omega) a1 a3
def AX (x:A2 Z9.args) (d:awf Z9.args x) (l:Z9.pre x):Ps x:=by
 obtain⟨a,x,b,y,_⟩:=x;have i:A8 a:=A4 d.1.2;have j:A8 b:=A4 d.2.2.1.2;change Xr at a b;change Int at x y;have n:=(show u64.min<=x/\x<=u64.max from d.2.1);have o:=(show u64.min<=y/\y<=u64.max from d.2.2.2.1);rw[mQ,HD]at n o;obtain⟨s,t,k⟩:a.length<=8796093022208/\b.length<=8796093022208/\nv b*y.toNat<=nv a*x.toNat:=l;have u:=D2 i;have v:=D2 j;have w:(nc x.toNat).length<=2:=Hs (by omega);have z:(nc y.toNat).length<=2:=Hs (by omega);have A:=Sc (nv a) x.toNat;have B:=Sc (nv b) y.toNat;simp only[Ps,O9];refine⟨trivial, ?_⟩;rintro⟨r,_⟩ _ c;simp only at c⊢;subst c;refine⟨⟨by omega,by omega⟩, ?_⟩;rintro⟨E,_⟩ _ g;refine⟨trivial, ?_⟩;rintro⟨r,_⟩ _ c;simp only at c g⊢;subst c;refine⟨⟨by omega,by omega⟩, ?_⟩;rintro⟨F,_⟩ _ h;simp only at h⊢;rw[F4]at g h;subst g h;refine⟨⟨by omega,by omega⟩, ?_⟩;rintro⟨r,D,_⟩ _ ⟨_,f⟩;simp only at f⊢;rw[F4,F4]at f;exact(f k).1
noncomputable def Sn:H8:= []
def Rx:An:= {join:= [(8,⟨[0,1,5],[0,1,2],[(7,false,vU)],[],[]⟩)],loop:= [(4,⟨[0,1,5],[0,1,2],[(7,false,vU),(8,false,vU)],[],[]⟩),(10,⟨[0,1,5,7,84,85],[0,2],[(9,false,vU),(86,false,vI)],[],[(1, .row (.int .u32) 103)]⟩),(23,⟨[0,5,7,134,135],[0,2],[(9,false,vU),(136,false,vI)],[],[(1, .row (.int .u32) 103)]⟩)],plan:= [(2,[3,10],[],true,(pZ9 0 3 (.q 3 (pZ9 4 6 (.q 10 (pZ9 11 3 .done)))))),(3,[5,13],[],true,(pZ9 0 5 (.q 5 (pZ9 6 7 (.q 13 (pZ9 14 4 .done)))))),(4,[9,18],[],true,(pZ9 0 9 (.q 9 (pZ9 10 8 (.q 18 (pZ9 19 4 .done))))))]}
def Zw:An:= {join:= [(12,⟨[4,6,7,8,9,10,35,36],[0],[],[],[(1, .row (.int .u32) 103),(2, .row (.int .u32) 103)]⟩)],loop:= [(8,⟨[4,6,7,8,9,10,35],[0],[(36,false,vI)],[],[(1, .row (.int .u32) 103),(2, .row (.int .u32) 103)]⟩)]}
noncomputable def AO:H8:= [(141,Cy),(188,L5),(190,R5),(192,N2),(191,Hq (TN ⟨prog,tys⟩ [(53,Sn,Rx)] f191.results.toList (f191.body.getD .skip) f191.ntmps))]
abbrev C0s:=Int×Xr×Xr×Unit
def Jj:A2 Q9.args->Prop:=fun(x:Fq)=>let L:=(63:Int);let D:=(32:Int);let w:=(2:Int);let u:=D.toNat;let t:=(1:Int);let c:=(0:Int);let b:=(x.2.1.length:Int);let q:Prop:=(c<=i64.wrap (b-c-t)/\i64.wrap (b-c-t)<b-c);(c<=i64.wrap (b-t)/\i64.wrap (b-t)<b)/\True/\Cw fun r=>r.1=D-(↑(L6 (gx c x.2.1 (i64.wrap (b-t))).toNat):Int)->(E8 x.2.1/\c<=r.1/\r.1<=31)/\O9 fun Q=>let g:=(List.getD Q.1 (c+i64.wrap (b-c-t)).toNat c);Q.1.length=List.length x.2.1+1/\nv Q.1=nv x.2.1*2^Int.toNat r.1->(c<=c/\c<=b/\b<=(Q.1.length:Int))/\(E8 x.1/\c<=r.1/\r.1<=31)/\O9 fun S=>let n:=(S.1.length:Int);S.1.length=List.length x.1+1/\nv S.1=nv x.1*2^Int.toNat r.1->(c<=i64.wrap (n-b)/\i64.wrap (n-b)<=i64.wrap (n-b)/\(↑(4:Nat):Int)*i64.wrap (n-b)<=(281474976710656:Int)/\i64.wrap (n-b)<=(9223372036854775807:Int))/\∃(I:C0s->Prop),∃(d: _->Nat),I (c,S.1,List.replicate (i64.wrap (n-b)).toNat c,())/\∀(p:C0s),let M:Prop:=(p.1<i64.wrap (n-b));let G:=(p.2.1.length:Int);let a:=(i64.wrap (i64.wrap (n-b)-t)-p.1);let A:Prop:=(c<=i64.wrap a/\i64.wrap a<(p.2.2.1.length:Int));let s:=(i64.wrap a+(b-c));let i:=(u64.wrap (↑(BitVec.ofInt u64.bits (u64.wrap (u64.wrap (List.getD p.2.1 s.toNat c)*w^Min.min u u64.bits)) |||BitVec.ofInt u64.bits (u64.wrap (List.getD p.2.1 (i64.wrap a+i64.wrap (b-c-t)).toNat c))).toNat:Int));let e:=(i64.wrap (i64.wrap a+b)+t);let m:Prop:=(c<=b-c/\b-c<i64.wrap e-i64.wrap a);(Ty.int i64).wf p.1/\Kj p.2.1/\Kj p.2.2.1/\True->I p->(iB (decide M) (∃(J:Fq->Prop),((c<=i64.wrap a/\i64.wrap a<=i64.wrap e/\i64.wrap e<=G)/\m/\(0:(Ty.int u64).den)<=D/\(c<=i64.wrap (b-c-t)/\i64.wrap (b-c-t)<i64.wrap e-i64.wrap a)/\q/\u64.wrap g≠c/\q/\u64.wrap g≠c/\∃(J_1:C8->Prop),(∃(I:Dl->Prop),∃(d: _->Nat),I (u64.wrap (i.tdiv (u64.wrap g)),i.tmod (u64.wrap g),())/\∀(N:Dl),let z:=(u64.wrap (N.1-t),u64.wrap (N.2.1+u64.wrap g),());let y:Prop:=((u64.wrap (N.2.1+u64.wrap g)).fdiv (w^Min.min u u64.bits)≠c);let k:Prop:=(Int.fdiv N.1 (w^Min.min u u64.bits)≠c);let h:=(decide (u64.wrap (↑(BitVec.ofInt u64.bits (u64.wrap (N.2.1*w^Min.min u u64.bits)) |||BitVec.ofInt u64.bits (u64.wrap (List.getD p.2.1 (i64.wrap a+i64.wrap (b-c-w)).toNat c))).toNat:Int)<u64.wrap (N.1*u64.wrap (List.getD Q.1 (c+i64.wrap (b-c-w)).toNat c))));(Ty.int u64).wf N.1/\(Ty.int u64).wf N.2.1/\True->I N->(0:(Ty.int u64).den)<=D/\(decide k=false->c<=i64.wrap (b-c-w)/\i64.wrap (b-c-w)<b-c)/\(decide k=false->(0:(Ty.int u64).den)<=D)/\(decide k=false->c<=i64.wrap (b-c-w)/\i64.wrap (b-c-w)<i64.wrap e-i64.wrap a)/\(iB (L8 (decide k) true h) (q/\(0:(Ty.int u64).den)<=D/\(iB (decide y) (J_1 (u64.wrap (N.1-t),())) (I z/\d z<d N))) (J_1 (N.1,()))))/\∀(N:C8),(Ty.int u64).wf N.1/\True->J_1 N->∃(I:Vn->Prop),∃(d: _->Nat),I (c,c,p.2.1,())/\∀(O:Vn),let H:=(i64.wrap a+O.2.1);let B:Prop:=(c<=O.2.1/\O.2.1<i64.wrap e-i64.wrap a);let v:=(u64.wrap (u64.wrap (N.1*u64.wrap (List.getD Q.1 (c+O.2.1).toNat c))+O.1));let l:=(u64.wrap (u64.wrap (List.getD O.2.2.1 H.toNat c)-u64.wrap (u32.wrap v)));let j:=(u64.wrap (u64.wrap (List.getD O.2.2.1 s.toNat c)-O.1));let E:Prop:=(j.fdiv (w^Min.min L.toNat u64.bits)=c);let f:=(u64.wrap (v.fdiv (w^Min.min u u64.bits)+l.fdiv (w^Min.min L.toNat u64.bits)),i64.wrap (O.2.1+t),List.set O.2.2.1 H.toNat (u32.wrap l),());(Ty.int u64).wf O.1/\(Ty.int i64).wf O.2.1/\Kj O.2.2.1/\True->I O->(iB (decide (O.2.1<b-c)) ((c<=O.2.1/\O.2.1<b-c)/\B/\B/\(0:(Ty.int u64).den)<=D/\(0:(Ty.int u64).den)<=L/\I f/\d f<d O) (m/\m/\(0:(Ty.int u64).den)<=L/\(iB (decide E) (A/\J (List.set O.2.2.1 s.toNat (u32.wrap j),List.set p.2.2.1 (i64.wrap a).toNat (u32.wrap N.1),())) (∃(I:Vn->Prop),∃(d: _->Nat),I (c,c,List.set O.2.2.1 s.toNat (u32.wrap j),())/\∀(P:Vn),let K:=(i64.wrap a+P.2.1);let C:Prop:=(c<=P.2.1/\P.2.1<i64.wrap e-i64.wrap a);let o:=(u64.wrap (P.1+u64.wrap (u64.wrap (List.getD P.2.2.1 K.toNat c)+u64.wrap (List.getD Q.1 (c+P.2.1).toNat c))));let f:=(o.fdiv (w^Min.min u u64.bits),i64.wrap (P.2.1+t),List.set P.2.2.1 K.toNat (u32.wrap o),());(Ty.int u64).wf P.1/\(Ty.int i64).wf P.2.1/\Kj P.2.2.1/\True->I P->(iB (decide (P.2.1<b-c)) ((c<=P.2.1/\P.2.1<b-c)/\C/\C/\(0:(Ty.int u64).den)<=D/\I f/\d f<d P) (m/\m/\A/\J (List.set P.2.2.1 s.toNat (u32.wrap (List.getD P.2.2.1 s.toNat c+u32.wrap P.1)),List.set p.2.2.1 (i64.wrap a).toNat (u32.wrap (u64.wrap (N.1-t))),()))))))))/\∀(N:Fq),let F:=(i64.wrap (p.1+t),N.1,N.2.1,());Kj N.1/\Kj N.2.1/\True->J N->I F/\d F<d p) ((c<=c/\c<=b/\b<=G)/\E8 (List.drop c.toNat (List.take b.toNat p.2.1))/\∀(R:A4x),Kj R.1/\True/\True->(r.1<c->R.1= []/\R.2.1=false)/\(c<=r.1->R.1=nc (nv (List.drop c.toNat (List.take b.toNat p.2.1))/(2:Nat)^Int.toNat r.1)/\R.2.1=true)->True/\O9 fun r=>r.1=nc (nv p.2.2.1)->r.1=nc (nv x.1/nv x.2.1)/\R.1=nc (nv x.1%nv x.2.1)))
def B2y {a b:Xr} {N D S:Nat} (g:A8 a) (h:A8 b) (f:b.length=N+2) (c:dg b (N+1)≠0) (d:a.length+1=D+(N+2)):nv a*2^S<nv b*2^S*4294967296^D:=by
 have d:0<2^S:=tO (by decide);have f:=Xe b (n:=N+1) (by omega);have f:4294967296^(N+1)<=nv b:=by
  have:=sS (4294967296^(N+1)) (sV c);omega
 have c:=Ht g;rw[show a.length=(N+1)+D from by omega,uV]at c;have g:nv a<nv b*4294967296^D:=rF c (rJ _ f);have c:=xA g d;rw[zI]at c;exact c
def C2w {A B S q r:Nat} (d:0<B) (c:A*2^S=q*(B*2^S)+r) (f:r<B*2^S):q=A/B/\r/2^S=A%B:=by
 have a:0<2^S:=tO (by decide);have b:q=A/B:=by
  rw[<-zR A B a,c,tF q,g2f (g4r d a),uB f,tD]
 refine⟨b, ?_⟩;have d:=wX A B;have f:r=(A%B)*2^S:=by
  have:A*2^S=(B*(A/B)+A%B)*2^S:=by rw[d]
  rw[this,b]at c;grind
 rw[f,g3r _ a]
def C4l {v:Xr} (d:A8 v) {n:Nat} (b:4294967296^n<=nv v) (c:nv v<4294967296^(n+1)):dg v n≠0:=by
 have a:0<4294967296^n:=tO (by decide);rw[QT d,tR (by rw[tN a,tF, <-sA];exact c)];have:=(vC a).2 (by rw[wT];exact b);omega
def A8u {u:Xr} (b:A8 u) {m i:Nat} (h:nv u<4294967296^m) (a:m<=i):dg u i=0:=by
 rw[QT b,uB (rF h (rX (by decide) a))]
def jD {x y:Nat} (c:x<=4294967295) (d:y<=4294967295):u64.wrap (((BitVec.ofInt 64 (u64.wrap ((x:Int)*2^32)) |||BitVec.ofInt 64 (y:Int)).toNat:Nat):Int)=((x*4294967296+y:Nat):Int):=by
 rw[Ac (a:=(x:Int)*2^32) (by omega) (by omega)];have:=OC (v:=(y:Int)) (b:=(x:Int)) (k:=32) (by omega) (by omega) (by omega) (by omega) (by omega);rw[this,Ac (by omega) (by omega)];omega
def B8k {v:Int} :Int.fdiv v (2^32)=v/4294967296:=by
 rw[sH _ (by decide)];rfl
def C6c {v:Int} :Int.fdiv v (2^63)=v/9223372036854775808:=by
 rw[sH _ (by decide)];rfl
def gV {d x:Nat} (a:d<=4294967295) (b:x<=4294967295):d*x<=18446744065119617025:=qW (yO a b) (by decide)
def B6y {d v2 r a:Nat} (b:v2<=4294967295):L8 (decide ((d:Int)/4294967296≠0)) true (decide (((r*4294967296+a:Nat):Int)<u64.wrap ((d:Int)*(v2:Int))))=decide (4294967296<=d\/r*4294967296+a<d*v2):=by
 rw[J1];rcases sE d 4294967296 with h|h
 . have a:=gV (d:=d) (x:=v2) (by omega) b;rw[<-uL,Ac (by omega) (by omega)];have a:decide ((d:Int)/4294967296≠0)=false:=rE (by omega);rw[a,vR,vL];omega
 . have a:decide ((d:Int)/4294967296≠0)=true:=rD (by omega);rw[a,g0l];exact(rD (.inl h)).symm
def B6u {d x c y:Nat} (i:d<=4294967295) (j:x<=4294967295) (h:c<=d) (n:y<=4294967295):∃b f:Nat,
 u64.wrap (Int.fdiv (u64.wrap (u64.wrap ((d:Int)*(x:Int))+(c:Int))) (2^32)+Int.fdiv (u64.wrap ((y:Int)-u64.wrap (u32.wrap (u64.wrap (u64.wrap ((d:Int)*(x:Int))+(c:Int)))))) (2^63))=(b:Int)/\
 u32.wrap (u64.wrap ((y:Int)-u64.wrap (u32.wrap (u64.wrap (u64.wrap ((d:Int)*(x:Int))+(c:Int))))))=(f:Int)/\b<=d/\y+4294967296*b=f+(d*x+c):=by
 have l:=gV i j;obtain⟨k,g⟩:=B2j (D:=d) (v:=x) (c:=c) (t:=y) (by omega) (by omega) h;rw[<-uL,Ac (a:=((d*x:Nat):Int)) (by omega) (by omega)];generalize d*x=p at*;rw[Ac (a:=(p:Int)+(c:Int)) (by omega) (by omega),Dg,Ac (a:=((p:Int)+(c:Int))%4294967296) (by omega) (by omega),B8k,C6c,Dh ((y:Int)-_),Dg];refine⟨(p+c)/4294967296+(if y<(p+c)%4294967296 then 1 else 0),if y<(p+c)%4294967296 then y+4294967296-(p+c)%4294967296 else y-(p+c)%4294967296, ?_, ?_,g, ?_⟩
 . rw[Ac (by omega) (by omega)];split<;>omega
 . split<;>omega
 . split<;>omega
def B4q {U P V d:Nat} (a:0<P) (b:0<V) (h:P*(d*V)<=U):d<=U/P/V:=by
 rw[vC b,vC a,tF];exact h
def C4a {U P V d:Nat} (a:0<P) (b:0<V) (h:U<P*(d*V)):U/P/V<d:=by
 rw[tN b,tN a,tF];exact h
def fS {U0 U W V P d q a:Nat} (g:U0=q*V+U) (f:W+P*(d*V)=U) (i:a=q+P*d) (b:0<P) (c:0<V) (k:U/P/V=d):U0=a*V+W/\W<V*P:=by
 refine⟨by subst i;rw[g, <-f];grind, ?_⟩;have j:¬(P*((d+1)*V)<=U):=fun h=>by have:=B4q b c h;omega
 have e:P*((d+1)*V)=P*(d*V)+V*P:=by grind
 omega
def C1q {q:Xr} (f:A8 q) {Q j d:Nat} (a:nv q=Q*4294967296^(j+1)) (b:j<q.length):nv (q.set j (d:Int))=nv q+4294967296^j*d/\nv (q.set j (d:Int))=(Q*4294967296+d)*4294967296^j:=by
 have c:0<4294967296^j:=tO (by decide);have h:=Lu (l:=q) (k:=j) (v:=(d:Int)) b;rw[qH]at h;have b:dg q j=0:=by
  rw[QT f,a,sA,tF (4294967296^j), <-sO,g3r _ c,Nat.mul_mod_left]
 rw[b,wN,tD]at h;refine⟨h, ?_⟩;rw[h,a,sA];grind
def B1s {x c y:Nat} (g:x<=4294967295) (f:c<=1) (h:y<=4294967295):∃b d:Nat,
 Int.fdiv (u64.wrap ((c:Int)+u64.wrap ((y:Int)+(x:Int)))) (2^32)=(b:Int)/\
 u32.wrap (u64.wrap ((c:Int)+u64.wrap ((y:Int)+(x:Int))))=(d:Int)/\b<=1/\d+4294967296*b=c+(y+x):=by
 rw[Ac (a:=(y:Int)+(x:Int)) (by omega) (by omega),Ac (a:=(c:Int)+((y:Int)+(x:Int))) (by omega) (by omega),B8k,Dg];exact⟨(c+(y+x))/4294967296,(c+(y+x))%4294967296,by omega,by omega,by omega,by omega⟩
def Sw (x:A2 Q9.args) (bs:awf Q9.args x) (ck:Q9.pre x):Jj x:=by
 obtain⟨a,b,_⟩:=x;have cb:A8 a:=A4 bs.1.2;have I:A8 b:=A4 bs.2.1.2;change Xr at a b;obtain⟨dq,d9,df,bn⟩:a.length<=17592186044416/\2<=b.length/\b.length<=a.length/\Pj b:=ck;obtain⟨N,be⟩:∃N,b.length=N+2:=⟨b.length-2,by omega⟩;have a8:=SQ I bn;rw[show b.length-1=N+1 from by omega]at a8;simp only[Jj,iB,O9,Cw,Int.sub_zero,Int.zero_add];rw[wv (a:=(b.length:Int)-1) (by omega),wv (a:=(b.length:Int)-2) (by omega),Hc I (by omega) (by omega),show((b.length:Int)-1).toNat=N+1 from by omega,show((b.length:Int)-2).toNat=N from by omega];refine⟨⟨by omega,by omega⟩,trivial, ?_⟩;rintro⟨s,_⟩ _ bl;change Int at s;simp only at bl⊢;rw[qH]at bl;have di:=N6 I (N+1);have de:=XZ (v:=dg b (N+1)) (by omega);have dd:=(FY a8).2;refine⟨⟨by show b.length<= _;omega,by omega,by omega⟩, ?_⟩;rintro⟨v,_⟩ ⟨cs,_⟩ ⟨bq,R⟩;refine⟨⟨qG _,by omega,by simp only at bq⊢;omega⟩,⟨by show a.length<= _;omega,by omega,by omega⟩, ?_⟩;rintro⟨f,_⟩ ⟨cq,_⟩ ⟨cn,aw⟩;have t:A8 v:=A4 cs.2;have dp:A8 f:=A4 cq.2;change Xr at v f;simp only at bq R cn aw⊢;have Z:nv v<4294967296^(N+2):=by
  rw[R];exact A6i I (n:=N+1) (by omega) (s:=s.toNat) (by omega)
 have bf:4294967296^(N+1)<=nv v:=by
  have z:=Xe b (n:=N+1) (by omega);have bd:4294967296^(N+1)<=nv b:=by
   have:=sS (4294967296^(N+1)) (sV a8);omega
  rw[R];exact qW bd (g1r _ (tO (by decide)))
 have bo:=C4l t bf Z;have a0:0<nv v:=rF (tO (by decide)) bf;obtain⟨D,da⟩:∃D,f.length=D+(N+2):=⟨f.length-(N+2),by omega⟩;have bm:=B2y (S:=s.toNat) cb I be a8 (D:=D) (by omega);rw[<-aw, <-R]at bm;rw[wv (a:=(f.length:Int)-(b.length:Int)) (by omega),show(f.length:Int)-(b.length:Int)=(D:Int)from by omega];have db:1<=D:=by omega
 refine⟨⟨by omega,qG _,by omega,by omega⟩, ?_⟩;refine⟨fun p=>0<=p.1/\p.1<=(D:Int)/\p.2.1.length=f.length/\p.2.2.1.length=D/\nv f=nv p.2.2.1*nv v+nv p.2.1/\nv p.2.1<nv v*4294967296^((D:Int)-p.1).toNat/\∃Q,nv p.2.2.1=Q*4294967296^((D:Int)-p.1).toNat,fun p=>((D:Int)-p.1).toNat,⟨qG _,qD _,rfl,by simp, ?_, ?_,0, ?_⟩, ?_⟩
 . show nv f=nv (List.replicate _ 0)*nv v+nv f;rw[Tx];omega
 . show nv f<nv v*4294967296^((D:Int)-0).toNat;rw[show((D:Int)-0).toNat=D from by omega];exact bm
 . show nv (List.replicate _ 0)= _;rw[Tx];omega
 rintro⟨k,u,q,_⟩ ⟨_,cr,cp,_⟩ ⟨cy,cz,c3,b3,a9,J,Q,a7⟩;change Int at k;have F:A8 u:=A4 cr.2;have bk:A8 q:=A4 cp.2;change Xr at u q;simp only at cy cz c3 b3 a9 J a7⊢;refine⟨fun a1=> ?_,fun a1=> ?_⟩
 . have a1:=qA a1;obtain⟨j,ce⟩:∃j:Nat,(D:Int)-1-k=(j:Int):=⟨((D:Int)-1-k).toNat,by omega⟩;rw[show((D:Int)-k).toNat=j+1 from by omega]at J a7;rw[wv (a:=(D:Int)-1) (by omega),ce,wv (a:=(j:Int)) (by omega),wv (a:=(j:Int)+(b.length:Int)) (by omega),wv (a:=(j:Int)+(b.length:Int)+1) (by omega),wv (a:=k+1) (by omega)];rw[show((j:Int)+(b.length:Int)).toNat=j+N+2 from by omega,show((j:Int)+((b.length:Int)-1)).toNat=j+N+1 from by omega,show((j:Int)+((b.length:Int)-2)).toNat=j+N from by omega];have dm:j+1<=D:=by omega
   have a4:=C5y F t (j:=j) (n:=N) (by omega) Z bo (by omega) J;have du:=N6 t (N+1);have d3:=N6 t N;have d5:=N6 F (j+N+2);have d6:=N6 F (j+N+1);have d7:=N6 F (j+N);have Y:0<4294967296^j:=tO (by decide);refine⟨fun p=>p.1.length=f.length/\p.2.1.length=D/\nv f=nv p.2.1*nv v+nv p.1/\nv p.1<nv v*4294967296^j/\∃Q,nv p.2.1=Q*4294967296^j, ?_, ?_⟩
   . rw[Ao t,Ao t,Ao F,Ao F,Ao F];rw[Ac (a:=(dg v (N+1):Int)) (by omega) (by omega),Ac (a:=(dg v N:Int)) (by omega) (by omega),Ac (a:=(dg u (j+N+2):Int)) (by omega) (by omega),Ac (a:=(dg u (j+N+1):Int)) (by omega) (by omega),Ac (a:=(dg u (j+N):Int)) (by omega) (by omega)];rw[show Min.min (Int.toNat 32) u64.bits=32 from rfl,show Min.min (Int.toNat 63) u64.bits=63 from rfl,show u64.bits=64 from rfl,jD d5 d6];refine⟨⟨by omega,by omega,by omega⟩,⟨by omega,by omega⟩,by decide,⟨by omega,by omega⟩,⟨by omega,by omega⟩,by omega,⟨by omega,by omega⟩,by omega, ?_⟩;have an:=a4.est;have aa:= @dH.near _ _ _ _ _ _ _ a4;have am:= @dH.dec _ _ _ _ _ _ _ a4;have aq:= @dH.out _ _ _ _ _ _ _ a4;generalize c8:nv u/4294967296^j/nv v=QS at an aa am aq⊢;refine⟨fun p=>QS<=p.1.toNat/\p.1.toNat<=QS+1/\0<=p.1/\p.1<4294967296, ?_, ?_⟩
     . refine⟨fun p=>∃d r:Nat,p.1=(d:Int)/\p.2.1=(r:Int)/\dg u (j+N+2)*4294967296+dg u (j+N+1)=d*dg v (N+1)+r/\QS<=d/\r<4294967296,fun p=>p.1.toNat, ?_, ?_⟩
       . have bp:0<dg v (N+1):=sV bo;have cf:=(vC bp).2 an;have o:=wD (dg u (j+N+2)*4294967296+dg u (j+N+1)) bp;have cc:=wX (dg u (j+N+2)*4294967296+dg u (j+N+1)) (dg v (N+1));have dj:=wY (dg u (j+N+2)*4294967296+dg u (j+N+1)) (dg v (N+1));have dc:dg u (j+N+2)*4294967296+dg u (j+N+1)<=18446744073709551615:=by omega
         refine⟨(dg u (j+N+2)*4294967296+dg u (j+N+1))/dg v (N+1),(dg u (j+N+2)*4294967296+dg u (j+N+1))%dg v (N+1), ?_,rfl, ?_,cf,by omega⟩
         . show u64.wrap (Int.tdiv _ _)= _;have e:Int.tdiv ((dg u (j+N+2)*4294967296+dg u (j+N+1):Nat):Int) ((dg v (N+1):Nat):Int)=(((dg u (j+N+2)*4294967296+dg u (j+N+1))/dg v (N+1):Nat):Int):=rfl;rw[e];generalize (dg u (j+N+2)*4294967296+dg u (j+N+1))/dg v (N+1)=b9 at*;exact Ac (by omega) (by omega)
         . have:=cc.symm;rw[tF (dg v (N+1))]at this;exact this
       . rintro⟨ai,d2,_⟩ ⟨bi,_⟩ ⟨d,r,z,G,ar,cl,dn⟩;change Int at ai d2;simp only at z G bi⊢;subst z G;have dh:(d:Int)<=18446744073709551615:=by have:=bi.2;rw[HD]at this;exact this
         rw[B8k,B8k,jD (x:=r) (by omega) d7,B6y d3];refine⟨by decide,fun _=>⟨by omega,by omega⟩,fun _=>by decide,fun _=>⟨by omega,by omega⟩,fun E=> ?_,fun E=> ?_⟩
         . have E:=qA E;have dk:=am ar cl E;rw[Ac (a:=(r:Int)+(dg v (N+1):Int)) (by omega) (by omega),Ac (a:=(d:Int)-1) (by omega) (by omega)];obtain⟨e,rfl⟩:∃e,d=e+1:=⟨d-1,by omega⟩;have au:dg u (j+N+2)*4294967296+dg u (j+N+1)=e*dg v (N+1)+(r+dg v (N+1)):=by rw[ar,uJ,wT];omega
           refine⟨⟨by omega,by omega⟩,by decide,fun X=> ?_,fun X=> ?_⟩
           . have X:=qA X;obtain⟨d0,d1⟩:=aq au (by omega) (by omega);have c2:=aa au d0 d1;have bc:(((e+1:Nat):Int)-1).toNat=e:=by omega
             refine⟨?_, ?_, ?_, ?_⟩
             . show _ <=(((e+1:Nat):Int)-1).toNat;rw[bc];omega
             . show(((e+1:Nat):Int)-1).toNat<= _;rw[bc];exact c2
             . show(0:Int)<=((e+1:Nat):Int)-1;omega
             . show((e+1:Nat):Int)-1< _;omega
           . have X:(((r:Int)+(dg v (N+1):Int))/4294967296)=0:=g2q (qB X);refine⟨⟨e,r+dg v (N+1),by omega,by omega,au,by omega,by omega⟩,by omega⟩
         . have E:=qB E;have c2:=aa ar (by omega) (by omega);exact⟨by show _ <=(d:Int).toNat;omega,by show(d:Int).toNat<= _;omega,qD _,by show(d:Int)< _;omega⟩
     . rintro⟨ai,_⟩ _ ⟨ba,ah,bb,c4⟩;change Int at ai;simp only at ba ah bb c4⊢;obtain⟨d,rfl⟩:=uH bb;rw[qH]at ba ah;clear an aa am aq;refine⟨fun p=>∃c i:Nat,p.1=(c:Int)/\p.2.1=(i:Int)/\i<=N+2/\c<=d/\p.2.2.1.length=f.length/\nv p.2.2.1+4294967296^j*(d*nv (v.take i))=nv u+4294967296^(j+i)*c/\∀m,j+i<=m->dg p.2.2.1 m=dg u m,fun p=>((N:Int)+2-p.2.1).toNat,⟨0,0,rfl,rfl,by omega,by omega,c3,by simp[nv],fun _ _=>rfl⟩, ?_⟩;rintro⟨ag,ax,w,_⟩ ⟨_,_,ct,_⟩ ⟨c,i,z,G,ao,E,ad,a5,hK⟩;change Int at ag ax;have ab:A8 w:=A4 ct.2;change Xr at w;simp only at z G ao E ad a5 hK⊢;subst z G;refine⟨fun g=> ?_,fun g=> ?_⟩
       . have g:(i:Int)<(b.length:Int):=qA g;have b7:=N6 t i;have ae:=N6 ab (j+i);rw[show((i:Int)).toNat=i from qH _,show((j:Int)+(i:Int)).toNat=j+i from by omega,Ao t,Ao ab,Ac (a:=(dg v i:Int)) (by omega) (by omega),Ac (a:=(dg w (j+i):Int)) (by omega) (by omega),wv (a:=(i:Int)+1) (by omega)];obtain⟨af,b4,az,b0,b1,b2⟩:=B6u (d:=d) (x:=dg v i) (c:=c) (y:=dg w (j+i)) (by omega) b7 E ae;rw[az,b0];refine⟨⟨by omega,g⟩,⟨by omega,by omega⟩,⟨by omega,by omega⟩,by decide,by decide,⟨af,i+1,rfl,by omega,by omega,b1,by rw[qJ];exact ad, ?_, ?_⟩,by omega⟩
         . have O:=Lu (l:=w) (k:=j+i) (v:=(b4:Int)) (by omega);rw[qH]at O;rw[J0,show j+(i+1)=(j+i)+1 from by omega,sA _ (j+i)];exact B0k a5 O b2 (uV ..)
         . intro m o;rw[BV (by omega),qL (by omega)];exact hK m (by omega)
       . have g:=qB g;have ap:i=N+2:=by omega
         subst ap;rw[Kn t,tR Z]at a5;have av:=hK (j+N+2) (by omega);rw[Ao ab,av,Ac (a:=(dg u (j+N+2):Int)) (by omega) (by omega),C6c,show((j:Int)).toNat=j from qH _];have ch:nv u<4294967296^(j+N+3):=by
          refine rF J ?_;have e:4294967296^(j+N+3)=4294967296^(N+2)*4294967296^(j+1):=by rw[<-uV];congr 1;omega
          rw[e];exact rJ _ (wC Z)
         rw[show j+(N+2)=j+N+2 from by omega]at a5;refine⟨⟨by omega,by omega⟩,⟨by omega,by omega⟩,by decide,fun H=> ?_,fun H=> ?_⟩
         . have H:=qA H;have bh:c<=dg u (j+N+2):=by rw[Dh]at H;omega
           rw[Ac (a:=(dg u (j+N+2):Int)-(c:Int)) (by omega) (by omega),w32 (a:=(dg u (j+N+2):Int)-(c:Int)) (by omega) (by omega),w32 (a:=(d:Int)) (by omega) (by omega)];have O:=Lu (l:=w) (k:=j+N+2) (v:=(dg u (j+N+2):Int)-(c:Int)) (by omega);rw[av,show((dg u (j+N+2):Int)-(c:Int)).toNat=dg u (j+N+2)-c from by omega,Nat.mul_sub]at O;have bg:=sS (4294967296^(j+N+2)) bh;have ak:nv (w.set (j+N+2) ((dg u (j+N+2):Int)-(c:Int)))+4294967296^j*(d*nv v)=nv u:=by omega
           have cd:=B4q Y a0 (U:=nv u) (d:=d) (by omega);obtain⟨b5,b6⟩:=C1q bk (d:=d) a7 (by omega);obtain⟨T,W⟩:=fS a9 ak b5 Y a0 (by omega);exact⟨⟨by omega,by omega⟩,by show(List.set _ _ _).length= _;rw[qJ];exact ad,by show(List.set _ _ _).length= _;rw[qJ];exact b3,T,W,_,b6⟩
         . have H:=qB H;have bh:dg u (j+N+2)<c:=by rw[Dh]at H;omega
           have c6:u32.wrap (u64.wrap ((dg u (j+N+2):Int)-(c:Int)))=((dg u (j+N+2)+4294967296-c:Nat):Int):=by
            rw[Dh,Dg];omega
           rw[c6];have O:=Lu (l:=w) (k:=j+N+2) (v:=((dg u (j+N+2)+4294967296-c:Nat):Int)) (by omega);rw[av,qH,Nat.mul_sub,sY]at O;have bg:=sS (4294967296^(j+N+2)) (show c<=dg u (j+N+2)+4294967296 by omega);rw[sY]at bg;have d4:A8 (w.set (j+N+2) ((dg u (j+N+2)+4294967296-c:Nat):Int)):=gR ab (by show 0<= _ /\ _ <= _;omega);have bu:∀m,j+N+3<=m->dg (w.set (j+N+2) ((dg u (j+N+2)+4294967296-c:Nat):Int)) m=0:=fun m o=>by
            rw[BV (by omega),qL (by omega),hK m (by omega)];exact A8u F ch o
           have cg:(w.set (j+N+2) ((dg u (j+N+2)+4294967296-c:Nat):Int)).length=f.length:=by rw[qJ];exact ad
           generalize w.set (j+N+2) ((dg u (j+N+2)+4294967296-c:Nat):Int)=ac at*;have ca:nv ac+4294967296^j*(d*nv v)=nv u+4294967296^(j+N+2)*4294967296:=by omega
           have co:nv ac<4294967296^(j+N+2)*4294967296:=by
            have bd:=V9 d4 (j+N+3);rw[TP bu, <-C6x (j+N)]at bd;exact bd
           have cd:=C4a Y a0 (U:=nv u) (d:=d) (by omega);obtain⟨e,rfl⟩:∃e,d=e+1:=⟨d-1,by omega⟩;refine⟨fun p=>∃c i:Nat,p.1=(c:Int)/\p.2.1=(i:Int)/\i<=N+2/\c<=1/\p.2.2.1.length=f.length/\nv p.2.2.1+4294967296^(j+i)*c=nv ac+4294967296^j*nv (v.take i)/\∀m,j+i<=m->dg p.2.2.1 m=dg ac m,fun p=>((N:Int)+2-p.2.1).toNat,⟨0,0,rfl,rfl,by omega,by omega,cg,by simp[nv],fun _ _=>rfl⟩, ?_⟩;rintro⟨ag,ax,y,_⟩ ⟨_,_,cu,_⟩ ⟨h,i,z,G,ao,bj,b8,a6,aj⟩;change Int at ag ax;have a3:A8 y:=A4 cu.2;change Xr at y;simp only at z G ao bj b8 a6 aj⊢;subst z G;refine⟨fun g=> ?_,fun g=> ?_⟩
           . have g:(i:Int)<(b.length:Int):=qA g;have b7:=N6 t i;have ae:=N6 a3 (j+i);rw[show((i:Int)).toNat=i from qH _,show((j:Int)+(i:Int)).toNat=j+i from by omega,Ao t,Ao a3,Ac (a:=(dg v i:Int)) (by omega) (by omega),Ac (a:=(dg y (j+i):Int)) (by omega) (by omega),wv (a:=(i:Int)+1) (by omega)];obtain⟨af,b4,az,b0,b1,b2⟩:=B1s (x:=dg v i) (c:=h) (y:=dg y (j+i)) b7 bj ae;rw[az,b0];refine⟨⟨by omega,g⟩,⟨by omega,by omega⟩,⟨by omega,by omega⟩,by decide,⟨af,i+1,rfl,by omega,by omega,b1,by rw[qJ];exact b8, ?_, ?_⟩,by omega⟩
             . have a2:=Lu (l:=y) (k:=j+i) (v:=(b4:Int)) (by omega);rw[qH]at a2;rw[J0,show j+(i+1)=(j+i)+1 from by omega,sA _ (j+i)];exact A7r a6 a2 b2 (uV ..)
             . intro m o;rw[BV (by omega),qL (by omega)];exact aj m (by omega)
           . have g:=qB g;have ap:i=N+2:=by omega
             subst ap;rw[Kn t,tR Z,show j+(N+2)=j+N+2 from by omega]at a6;have ae:=N6 a3 (j+N+2);have c7:u32.wrap ((dg y (j+N+2):Int)+u32.wrap (h:Int))=(((dg y (j+N+2)+h)%4294967296:Nat):Int):=by
              rw[w32 (a:=(h:Int)) (by omega) (by omega),Dg];omega
             have c5:u32.wrap (u64.wrap (((e+1:Nat):Int)-1))=(e:Int):=by
              rw[Ac (by omega) (by omega),w32 (by omega) (by omega)];omega
             rw[Ao a3,c7,c5];have a2:=Lu (l:=y) (k:=j+N+2) (v:=(((dg y (j+N+2)+h)%4294967296:Nat):Int)) (by omega);rw[qH]at a2;obtain⟨ay,ci,cj⟩:∃ay,dg y (j+N+2)+h=(dg y (j+N+2)+h)%4294967296+4294967296*ay/\ay<=1:=⟨(dg y (j+N+2)+h)/4294967296,by omega,by omega⟩;have d8:A8 (y.set (j+N+2) (((dg y (j+N+2)+h)%4294967296:Nat):Int)):=gR a3 (by show 0<= _ /\ _ <= _;omega);have cv:∀m,j+N+3<=m->dg (y.set (j+N+2) (((dg y (j+N+2)+h)%4294967296:Nat):Int)) m=0:=fun m o=>by
              rw[BV (by omega),qL (by omega),aj m (by omega)];exact bu m o
             have cw:(y.set (j+N+2) (((dg y (j+N+2)+h)%4294967296:Nat):Int)).length=f.length:=by rw[qJ];exact b8
             generalize y.set (j+N+2) (((dg y (j+N+2)+h)%4294967296:Nat):Int)=b9 at*;have cx:nv b9<4294967296^(j+N+2)*4294967296:=by
              have bd:=V9 d8 (j+N+3);rw[TP cv, <-C6x (j+N)]at bd;exact bd
             obtain⟨c9,ak⟩:=B2e (U:=nv u) (P:=4294967296^j) (V:=nv v) (e:=e) (M:=4294967296^(j+N+2)) Y a0 ca co (by rw[c8];exact ah) a6 a2 ci cj cx;obtain⟨b5,b6⟩:=C1q bk (d:=e) a7 (by omega);obtain⟨T,W⟩:=fS a9 ak b5 Y a0 c9;exact⟨⟨by omega,by omega⟩,⟨by omega,by omega⟩,⟨by omega,by omega⟩,cw,by show(List.set _ _ _).length= _;rw[qJ];exact b3,T,W,_,b6⟩
   . rintro⟨dt,ds,_⟩ _ ⟨bv,bw,bx,bz,Q',c0⟩;simp only at bv bw bx bz c0⊢;rw[show((D:Int)-(k+1)).toNat=j from by omega];exact⟨⟨by omega,by omega,bv,bw,bx,bz,Q',c0⟩,by omega⟩
 . have a1:=qB a1;rw[show((D:Int)-k).toNat=0 from by omega,g4b,xW]at J;have cm:0<=s:=by omega
   obtain⟨T,W⟩:=C2w (A:=nv a) (B:=nv b) (S:=s.toNat) (q:=nv q) (r:=nv u) (sV (bR I bn)) (by rw[<-aw, <-R];exact a9) (by rw[<-R];exact J);refine⟨⟨qG _,by omega,by omega⟩, ?_, ?_⟩
   . show(List.drop _ (List.take _ _)).length<= _;rw[sN,qU];omega
   rintro⟨m,dr,_⟩ _ o;refine⟨trivial, ?_⟩;rintro⟨b9,_⟩ _ bt;simp only at o bt⊢;have o:=(o.2 cm).1;rw[show(Int.toNat 0)=0 from rfl,tV,show((b.length:Int)).toNat=b.length from qH _,Kn F,be,tR (by omega),W]at o;exact⟨by rw[bt,T],o⟩
def MV:An:= {plan:= [(8,[],[],true,(pZ9 0 3 (pZ9 4 3 (.e 3 (.e 7 (pZ9 8 3 .done))))))]}
def XK:An:= {join:= [(4,⟨[],[],[(0,false,[.val (.sl (.int .u32))]),(1,false,[.val (.sl (.int .u32))])],[],[]⟩)],loop:= [(7,⟨[],[],[(5,false,vU),(6,false,vU)],[],[]⟩),(4,⟨[],[],[(0,false,[.val (.sl (.int .u32))]),(1,false,[.val (.sl (.int .u32))])],[],[]⟩)],plan:= [(8,[],[],true,(pZ9 0 6 .done)),(15,[2,5,9,12],[],true,(.p 0 (.p 1 (.q 2 (.p 3 (.p 4 (.q 5 (.p 7 (.p 8 (.q 9 (.p 10 (.p 11 (.q 12 (.e 6 (.e 13 (.p 14 (.p 15 .done))))))))))))))))),(16,[2,5,9,12],[],true,(.p 0 (.p 1 (.q 2 (.p 3 (.p 4 (.q 5 (.p 7 (.p 8 (.q 9 (.p 10 (.p 11 (.q 12 (.e 6 (.e 13 (.p 14 (.p 15 .done)))))))))))))))))]}
def Rj:A2 Bd.args->Prop:=fun(x:Fq)=>let e:=(0:Nat);let d:=(nv x.1%nv x.2.1);let c:=(nv x.1/nv x.2.1);let b:=(0:Int);True/\O9 fun r=>let f:Prop:=((r.1.length:Int)<=(2:Int));r.1=nc (nv x.1)->True/\O9 fun h=>let a:=(h.1.length:Int);h.1=nc (nv x.2.1)->(iB (decide (a=b)) ((nv x.2.1=e->O8 Int= []/\O8 Int= []/\false=false)/\(nv x.2.1≠e->O8 Int=nc c/\O8 Int=nc d/\false=true)) (True/\Cw fun k=>k.1=Dt (nv r.1) (nv h.1)->(iB (decide (k.1<b)) (Iu r.1/\O9 fun g=>g.1=nc (nv r.1)->(nv x.2.1=e->O8 Int= []/\g.1= []/\true=false)/\(nv x.2.1≠e->O8 Int=nc c/\g.1=nc d/\true=true)) ((iB (decide f) (List.length r.1<=2/\rT1 fun g=>g.1=(↑(nv r.1):Int)->List.length h.1<=2/\rT1 fun r=>r.1=(↑(nv h.1):Int)->r.1≠b/\r.1≠b/\True/\O9 fun i=>i.1=nc (u64.wrap (Int.tdiv g.1 r.1)).toNat->True/\O9 fun j=>j.1=nc (Int.tmod g.1 r.1).toNat->(nv x.2.1=e->i.1= []/\j.1= []/\true=false)/\(nv x.2.1≠e->i.1=nc c/\j.1=nc d/\true=true)) ((iB (decide (a=(1:Int))) ((b<=b/\b<a)/\(E8 r.1/\gx b h.1 b≠b)/\∀(g:Fq),Kj g.1/\Kj g.2.1/\True->g.1=nc (nv r.1/(gx b h.1 b).toNat)/\g.2.1=nc (nv r.1%(gx b h.1 b).toNat)->(nv x.2.1=e->g.1= []/\g.2.1= []/\true=false)/\(nv x.2.1≠e->g.1=nc c/\g.2.1=nc d/\true=true)) ((E8 r.1/\(2:Nat)<=List.length h.1/\List.length h.1<=List.length r.1/\Pj h.1)/\∀(g:Fq),Kj g.1/\Kj g.2.1/\True->g.1=nc (nv r.1/nv h.1)/\g.2.1=nc (nv r.1%nv h.1)->(nv x.2.1=e->g.1= []/\g.2.1= []/\true=false)/\(nv x.2.1≠e->g.1=nc c/\g.2.1=nc d/\true=true)))))))))
abbrev B7b:=Xr×Xr×Bool×Unit
def EX:A2 Gc.args->Prop:=fun(x:Fq)=>let e:=(nv x.2.1);let b:=(0:Int);True/\O9 fun r=>r.1=nc (nv x.1)->True/\O9 fun j=>j.1=nc e->∃(J:Fq->Prop),(True/\Cw fun h=>h.1=Dt (nv r.1) (nv j.1)->(iB (decide (h.1<b)) (J (j.1,r)) (J (r.1,j))))/\∀(p:Fq),(Ty.int u32).sl.wf p.1/\(Ty.int u32).sl.wf p.2.1/\True->J p->∃(I:Fq->Prop),∃(a: _->Nat),I (p.1,p.2.1,())/\∀(p:Fq),let g:=(↑(nv p.2.1):Int);let d:=(p.2.1.length:Int);let c:Prop:=((p.1.length:Int)<=(2:Int));(Ty.int u32).sl.wf p.1/\(Ty.int u32).sl.wf p.2.1/\True->I p->(iB (decide (b<d)) ((iB (decide c) (List.length p.1<=2/\rT1 fun r=>r.1=(↑(nv p.1):Int)->List.length p.2.1<=2/\rT1 fun h=>h.1=g->∃(I:Dl->Prop),∃(a: _->Nat),I (r.1,h)/\∀(p:Dl),let c:=(p.2.1,Int.tmod p.1 p.2.1,());(Ty.int u64).wf p.1/\(Ty.int u64).wf p.2.1/\True->I p->(iB (decide (p.2.1≠b)) (p.2.1≠b/\I c/\a c<a p) (True/\O9 fun r=>r.1=nc p.1.toNat->r.1=nc ((nv x.1).gcd e)))) ((E8 p.1/\(3:Nat)<=List.length p.1/\Pj p.1/\nv p.2.1<=nv p.1/\List.length p.2.1<=List.length p.1)/\∀(r:(Int×Int×Int×Int×Bool)×Unit),(MJ r.1.1/\MJ r.1.2.1/\MJ r.1.2.2.1/\MJ r.1.2.2.2.1/\True)/\True->C3l (↑(nv p.1):Int) g r.1.1 r.1.2.1 r.1.2.2.1 r.1.2.2.2.1 r.1.2.2.2.2->(iB (decide (r.1.2.2.1=b)) (E8 p.1/\∀(r:B7b),let f:=(p.2.1,r.2.1,());Kj r.1/\Kj r.2.1/\True/\True->(nv p.2.1=0->r.1= []/\r.2.1= []/\r.2.2.1=false)/\(nv p.2.1≠0->r.1=nc (nv p.1/nv p.2.1)/\r.2.1=nc (nv p.1%nv p.2.1)/\r.2.2.1=true)->I f/\a f<a p) ((iB r.1.2.2.2.2 ((Ad p.1/\Ad p.2.1/\nv p.2.1*Int.toNat r.1.2.2.1<=nv p.1*Int.toNat r.1.1)/\O9 fun h=>h.1=nc (nv p.1*Int.toNat r.1.1-nv p.2.1*Int.toNat r.1.2.2.1)->(Ad p.2.1/\Ad p.1/\nv p.1*Int.toNat r.1.2.1<=nv p.2.1*Int.toNat r.1.2.2.2.1)/\O9 fun i=>i.1=nc (nv p.2.1*Int.toNat r.1.2.2.2.1-nv p.1*Int.toNat r.1.2.1)->I (h.1,i)/\a (h.1,i)<a p) ((Ad p.2.1/\Ad p.1/\nv p.1*Int.toNat r.1.1<=nv p.2.1*Int.toNat r.1.2.2.1)/\O9 fun h=>h.1=nc (nv p.2.1*Int.toNat r.1.2.2.1-nv p.1*Int.toNat r.1.1)->(Ad p.1/\Ad p.2.1/\nv p.2.1*Int.toNat r.1.2.2.2.1<=nv p.1*Int.toNat r.1.2.1)/\O9 fun i=>i.1=nc (nv p.1*Int.toNat r.1.2.1-nv p.2.1*Int.toNat r.1.2.2.2.1)->I (h.1,i)/\a (h.1,i)<a p))))))) (Iu p.1/\O9 fun r=>r.1=nc (nv p.1)->r.1=nc ((nv x.1).gcd e)))
def EW (x:A2 Bd.args) (I:awf Bd.args x) (R:Bd.pre x):Rj x:=by
 obtain⟨a,b,_⟩:=x;have O:A8 a:=A4 I.1.2;have Y:A8 b:=A4 I.2.1.2;change Xr at a b;have B:a.length<=17592186044416:=R;have W:=D2 O;simp only[Rj,iB,O9,rT1,Cw];refine⟨trivial, ?_⟩;rintro⟨y,_⟩ _ r;refine⟨trivial, ?_⟩;rintro⟨s,_⟩ _ j;simp only at r j⊢;have t:nv y=nv a:=by rw[r,F4]
 have u:nv s=nv b:=by rw[j,F4]
 have A:y.length<=a.length:=by rw[r];exact W
 have a1:A8 y:=r▸K6 _;have T:A8 s:=j▸K6 _;refine⟨fun h=> ?_,fun h=> ?_⟩
 . have h:=qA h;have c:nv b=0:=by rw[<-u,qS (l:=s) (by omega)];rfl
   exact⟨fun _=>⟨by trivial,by trivial,by trivial⟩,fun f=>absurd c f⟩
 have h:=qB h;have o:nv b≠0:=fun c=>h (by rw[j,c,Q4];rfl)
 refine⟨trivial, ?_⟩;rintro⟨X,_⟩ _ g;simp only at g⊢;rw[t,u]at g;refine⟨fun h=> ?_,fun h=> ?_⟩
 . have h:=qA h;have E:nv a<nv b:=by
    rcases sE (nv a) (nv b)with f|f
    . exact f
    . unfold Dt at g;rw[qL (by omega)]at g;split at g<;>omega
   refine⟨qW A (qW B (by decide)), ?_⟩;rintro⟨a3,_⟩ _ H;simp only at H⊢;refine⟨fun c=>absurd c o,fun _=>⟨?_, ?_,by trivial⟩⟩
   . rw[uB E,Q4]
   . rw[tR E,H,t]
 have h:=qB h;have P:nv b<=nv a:=by
  rcases sE (nv a) (nv b)with f|f
  . rw[Qp f]at g;omega
  . exact f
 have U:s.length<=y.length:=by rw[r,j];exact L2 P
 refine⟨fun k=> ?_,fun k=> ?_⟩
 . have k:=qA k;refine⟨by omega, ?_⟩;rintro⟨x,_⟩ ⟨J,_⟩ v;refine⟨by omega, ?_⟩;rintro⟨D,_⟩ ⟨V,_⟩ w;change Int at x D;simp only at J V v w⊢;rw[t]at v;rw[u]at w;have a2:x<=18446744073709551615:=by have:=J.2;rw[HD]at this;exact this
   have M:Int.tdiv x D=((nv a/nv b:Nat):Int):=by rw[v,w];rfl
   have N:Int.tmod x D=((nv a%nv b:Nat):Int):=by rw[v,w];rfl
   have a0:nv a/nv b<=nv a:=wY _ _;refine⟨by omega,by omega,trivial, ?_⟩;rintro⟨q,_⟩ _ G;refine⟨trivial, ?_⟩;rintro⟨m,_⟩ _ F;simp only at G F⊢;refine⟨fun c=>absurd c o,fun _=>⟨?_, ?_,by trivial⟩⟩
   . rw[G,M];generalize nv a/nv b=Q at*;rw[Ac (by omega) (by omega)];rfl
   . rw[F,N];rfl
 have k:=qB k;refine⟨fun n=> ?_,fun n=> ?_⟩
 . have n:=qA n;have e:(gx (0:Int) s (0:Int)).toNat=nv b:=by
    rw[<-u];obtain⟨z,rfl⟩:∃z,s= [z]:=g1z.1 (by omega);show z.toNat=z.toNat+4294967296*0;omega
   have Z:=Xa T (i:=0) (qG _) (by omega);refine⟨⟨qG _,by omega⟩,⟨qW A B,by omega⟩, ?_⟩;rintro⟨q,m,_⟩ _ d;simp only at d⊢;rw[e,t]at d;exact⟨fun c=>absurd c o,fun _=>⟨d.1,d.2,by trivial⟩⟩
 have n:=qB n;refine⟨⟨qW A B,by omega,U,by rw[j];exact gW o⟩, ?_⟩;rintro⟨q,m,_⟩ _ d;simp only at d⊢;rw[t,u]at d;exact⟨fun c=>absurd c o,fun _=>⟨d.1,d.2,by trivial⟩⟩
structure mZ (A B A' B':Nat):Prop where
 g:Nat.gcd A' B'=Nat.gcd A B
 le:B'<=A'
 lt:A'+B'<A+B
 top:A'<=A
def A8t {A B:Nat} (h:B<=A) (a:0<B):mZ A B B (A%B) where
 g:=by rw[wZ A B,wZ B];exact(g2y B A).symm
 le:=wC (wD _ a)
 lt:=by have:=wD A a;omega
 top:=h
def A9d {A B:Nat} {u0 u1 v0 v1:Int} {ev:Bool} (I:0<B) (h:C3l A B u0 u1 v0 v1 ev) (r:v0≠0):
 (ev=true->B*v0.toNat<=A*u0.toNat/\A*u1.toNat<=B*v1.toNat/\mZ A B (A*u0.toNat-B*v0.toNat) (B*v1.toNat-A*u1.toNat))/\
 (ev=false->A*u0.toNat<=B*v0.toNat/\B*v1.toNat<=A*u1.toNat/\mZ A B (B*v0.toNat-A*u0.toNat) (A*u1.toNat-B*v1.toNat)):=by
 rcases h with h| ⟨A',B',d,f,k,n,u,iB,v,w,z,D⟩
 . exact absurd h r
 have o:=B3s (A:=A) (B:=B) (A':=A') (B':=B') (u0:=u0) (u1:=u1) (v0:=v0) (v1:=v1) (s:=if ev then u0 else -u0) (t:=if ev then -v0 else v0) (p:=if ev then -u1 else u1) (q:=if ev then v1 else -v1) u iB (by rw[d];cases ev<;>simp<;>grind) (by rw[f];cases ev<;>simp<;>grind);obtain⟨U0,rfl⟩:=uH z;obtain⟨U1,rfl⟩:=uH D;obtain⟨V0,rfl⟩:=uH (show(0:Int)<=v0 by omega);obtain⟨V1,rfl⟩:=uH (show(0:Int)<=v1 by omega);obtain⟨b,rfl⟩:=uH k;obtain⟨a,rfl⟩:=uH (Int.le_trans k n);simp only[qH];have J:(1:Int)*(a:Int)<=(V1:Int)*a:=sI w (by omega);have M:(1:Int)*(b:Int)<=(V0:Int)*b:=sI v (by omega);have c:∀x y:Nat,((x*y:Nat):Int)=(y:Int)*(x:Int):=fun x y=>by rw[uL,g1y]
 have E:=c A U0;have F:=c B V0;have G:=c A U1;have H:=c B V1;have l:mZ A B a b:=⟨o.symm,by omega,by omega,by omega⟩;refine⟨fun g=> ?_,fun g=> ?_⟩
 . subst g;simp only[xP]at d f;have i:A*U0-B*V0=a:=by omega
   have j:B*V1-A*U1=b:=by omega
   refine⟨by omega,by omega, ?_⟩;rw[i,j];exact l
 . subst g;simp only[vY,yC]at d f;have i:B*V0-A*U0=a:=by omega
   have j:A*U1-B*V1=b:=by omega
   refine⟨by omega,by omega, ?_⟩;rw[i,j];exact l
def B3t {x y:Int} (d:0<=x) (f:0<y):Nat.gcd y.toNat (Int.tmod x y).toNat=Nat.gcd x.toNat y.toNat/\(Int.tmod x y).toNat<y.toNat:=by
 obtain⟨a,rfl⟩:=uH d;obtain⟨b,rfl⟩:=uH (xM f);have e:Int.tmod (a:Int) (b:Int)=((a%b:Nat):Int):=rfl;simp only[e,qH];have c:0<b:=by omega
 exact⟨by rw[wZ a b,wZ b];exact(g2y b a).symm,wD _ c⟩
structure B1l (G:Nat) (a b:Xr):Prop where
 ea:a=nc (nv a)
 eb:b=nc (nv b)
 le:nv b<=nv a
 g:Nat.gcd (nv a) (nv b)=G
 len:a.length<=8796093022208
def B1l.step {G:Nat} {a b c d:Xr} {A' B':Nat} (h:B1l G a b) (s:mZ (nv a) (nv b) A' B') (i:c=nc A') (j:d=nc B'):B1l G c d/\nv c+nv d<nv a+nv b:=by
 have f:nv c=A':=by rw[i,F4]
 have c:nv d=B':=by rw[j,F4]
 refine⟨⟨by rw[f];exact i,by rw[c];exact j,by rw[f,c];exact s.le,by rw[f,c,s.g];exact h.g, ?_⟩,by rw[f,c];exact s.lt⟩;have:=L2 s.top;rw[<-h.ea]at this;rw[i];exact qW this h.len
def OZ (x:A2 Gc.args) (J:awf Gc.args x) (k:Gc.pre x):EX x:=by
 obtain⟨c,d,_⟩:=x;have U:A8 c:=A4 J.1.2;have V:A8 d:=A4 J.2.1.2;change Xr at c d;obtain⟨ah,ai⟩:c.length<=8796093022208/\d.length<=8796093022208:=k;have aj:=D2 U;have ak:=D2 V;simp only[EX,iB,O9,rT1,Cw];refine⟨trivial, ?_⟩;rintro⟨a3,_⟩ _ v;refine⟨trivial, ?_⟩;rintro⟨a4,_⟩ _ w;simp only at v w⊢;have n:nv a3=nv c:=by rw[v,F4]
 have o:nv a4=nv d:=by rw[w,F4]
 refine⟨fun p=>B1l (Nat.gcd (nv c) (nv d)) p.1 p.2.1,⟨trivial, ?_⟩, ?_⟩
 . rintro⟨ad,_⟩ _ r;simp only at r⊢;rw[n,o]at r;refine⟨fun t=> ?_,fun t=> ?_⟩
   . have t:=qA t;refine⟨by rw[o];exact w,by rw[n];exact v, ?_,by rw[n,o,wZ],by rw[w];omega⟩;rw[n,o];rcases sE (nv c) (nv d)with f|f
     . omega
     . unfold Dt at r;rw[qL (by omega)]at r;split at r<;>omega
   . have t:=qB t;refine⟨by rw[n];exact v,by rw[o];exact w, ?_,by rw[n,o],by rw[v];omega⟩;rw[n,o];rcases sE (nv c) (nv d)with f|f
     . rw[Qp f]at r;omega
     . exact f
 rintro⟨ab,ac,_⟩ _ F;simp only at F⊢;refine⟨fun p=>B1l (Nat.gcd (nv c) (nv d)) p.1 p.2.1,fun p=>nv p.1+nv p.2.1,F, ?_⟩;rintro⟨s,h,_⟩ ⟨a1,a2,_⟩ a;have ae:A8 s:=A4 a1.2;have af:A8 h:=A4 a2.2;change Xr at s h;simp only at a⊢;have ag:=a.len;have Z:h.length<=s.length:=by rw[a.ea,a.eb];exact L2 a.le
 refine⟨fun j=> ?_,fun j=> ?_⟩
 . have j:=qA j;have G:0<nv h:=by
    rcases vG (nv h)with f|f
    . have:=a.eb;rw[f,Q4]at this;rw[this]at j;exact absurd j (by simp)
    . exact f
   have T:nv s≠0:=by have:=a.le;omega
   refine⟨fun u=> ?_,fun u=> ?_⟩
   . have u:=qA u;refine⟨by omega, ?_⟩;rintro⟨x,_⟩ _ M;refine⟨by omega, ?_⟩;rintro⟨O,_⟩ _ N;simp only at M N⊢;refine⟨fun p=>0<=p.1/\0<=p.2.1/\Nat.gcd p.1.toNat p.2.1.toNat=Nat.gcd (nv c) (nv d),fun p=>p.2.1.toNat,⟨by show(0:Int)<=x;omega,by show(0:Int)<=O;omega, ?_⟩, ?_⟩
     . show Nat.gcd x.toNat O.toNat= _;rw[M,N,qH,qH];exact a.g
     rintro⟨X,Y,_⟩ _ ⟨E,P,z⟩;change Int at X Y;simp only at E P z⊢;refine⟨fun i=> ?_,fun i=> ?_⟩
     . have i:=qA i;obtain⟨Q,R⟩:=B3t E (show 0<Y by omega);exact⟨i,⟨P,zC _ E,by rw[Q];exact z⟩,R⟩
     . have i:Y=0:=g2q (qB i);refine⟨trivial, ?_⟩;rintro⟨q,_⟩ _ b;simp only at b⊢;rw[i]at z;rw[b, <-z];exact tL nc (g0w _).symm
   . have u:=qB u;refine⟨⟨by omega,by omega,by rw[a.ea];exact gW T,a.le,Z⟩, ?_⟩;rintro⟨⟨a5,a6,a7,a8,ev⟩,_⟩ _ H;change Int at a5 a6 a7 a8;change Bool at ev;simp only at H⊢;refine⟨fun y=> ?_,fun y=> ?_⟩
     . refine⟨by omega, ?_⟩;rintro⟨q,m,am,_⟩ _ I;simp only at I⊢;obtain⟨_,a0,_⟩:=I.2 (by omega);exact a.step (A8t a.le G) a.eb a0
     . have y:=qB y;obtain⟨a9,aa⟩:=A9d G H y;refine⟨fun B=> ?_,fun B=> ?_⟩
       . obtain⟨c1,A,D⟩:=a9 B;refine⟨⟨by omega,by omega,c1⟩, ?_⟩;rintro⟨p,_⟩ _ k;refine⟨⟨by omega,by omega,A⟩, ?_⟩;rintro⟨q,_⟩ _ b;simp only at k b⊢;exact a.step D k b
       . obtain⟨c1,A,D⟩:=aa B;refine⟨⟨by omega,by omega,c1⟩, ?_⟩;rintro⟨p,_⟩ _ k;refine⟨⟨by omega,by omega,A⟩, ?_⟩;rintro⟨q,_⟩ _ b;simp only at k b⊢;exact a.step D k b
 . have j:=qB j;refine⟨by show s.length<=35184372088832;omega, ?_⟩;rintro⟨q,_⟩ _ b;simp only at b⊢;have W:nv h=0:=by rw[qS (l:=h) (by omega)];rfl
   have:=a.g;rw[W,g0w]at this;rw[b,this]
def MP:An:= {}
def JR:An:= {}
def UX:An:= {}
def UW:An:= {plan:= [(1,[1,3],[6],true,(.p 0 (.q 1 (.p 2 (.q 3 (.e 4 (.e 5 (.e 6 .done))))))))]}
def XI:An:= {plan:= [(1,[1,4],[7],true,(.p 0 (.q 1 (.p 2 (.p 3 (.q 4 (.e 5 (.e 6 (.e 7 .done)))))))))]}
def XG:An:= {plan:= [(2,[1,3,5],[8],true,(.p 0 (.q 1 (.p 2 (.q 3 (.p 4 (.q 5 (.e 6 (.e 7 (.e 8 .done))))))))))]}
def XH:An:= {plan:= [(1,[1,3,6,8],[11],true,(.p 0 (.q 1 (.p 2 (.q 3 (.p 4 (.p 5 (.q 6 (.p 7 (.q 8 (.e 9 (.e 10 (.e 11 .done)))))))))))))]}
def JQ:An:= {plan:= [(1,[0,2],[],true,(.q 0 (.q 2 (.e 1 (.e 3 (.p 4 (.p 5 .done)))))))]}
abbrev C0q:=Bool×Xr×Unit
def Re:A2 Ba.args->Prop:=fun(x:C0q)=>(L8 x.1 (decide ((0:Int)<(x.2.1.length:Int))) false,x.2.1)=(x.1&&decide (x.2.1≠ []),x.2.1)
def G6 (P:(Bool×Xr)×Unit->Prop):Prop:=∀r:(Bool×Xr)×Unit,WfZ r.1/\True->P r
def Pq:A2 Z7.args->Prop:=fun(x:C8)=>(iB (decide (x.1<0)) (True/\O9 fun r=>r.1=nc (u64.wrap (-u64.wrap x.1)).toNat->True/\G6 fun a=>a.1=(true&&decide (r.1≠ []),r.1)->a.1=ic x.1) (True/\O9 fun r=>r.1=nc (u64.wrap x.1).toNat->True/\G6 fun a=>a.1=(false&&decide (r.1≠ []),r.1)->a.1=ic x.1))
abbrev A4v:=(Bool×Xr)×Unit
def Yz:A2 Ee.args->Prop:=fun(x:A4v)=>True/\Cw fun r=>r.1=Dt (nv x.1.2) (nv [])->(iB (decide (r.1=0)) ((0:Int)=(iv x.1).sign) ((iB x.1.1 ((-1:Int)=(iv x.1).sign) ((1:Int)=(iv x.1).sign))))
def Yy:A2 Ed.args->Prop:=fun(x:A4v)=>Iu x.1.2/\O9 fun r=>r.1=nc (nv x.1.2)->True/\G6 fun a=>a.1=(x.1.1&&decide (r.1≠ []),r.1)->a.1=ic (iv x.1)
def EQ:A2 Ga.args->Prop:=fun(x:A4v)=>Iu x.1.2/\O9 fun r=>r.1=nc (nv x.1.2)->True/\G6 fun a=>a.1=(!x.1.1&&decide (r.1≠ []),r.1)->a.1=ic (-iv x.1)
abbrev eE:=(Bool×Xr)×(Bool×Xr)×Unit
def EO:A2 Fy.args->Prop:=fun(x:eE)=>let b:Prop:=(E8 x.1.2/\E8 x.2.1.2);let a:=(iv x.1+iv x.2.1);(iB ((x.1.1==x.2.1.1)) (b/\O9 fun r=>r.1=nc (nv x.1.2+nv x.2.1.2)->True/\G6 fun c=>c.1=(x.1.1&&decide (r.1≠ []),r.1)->c.1=ic a) (b/\∀(r:A4x),Kj r.1/\True/\True->(nv x.1.2<nv x.2.1.2->r.1= []/\r.2.1=false)/\(nv x.2.1.2<=nv x.1.2->r.1=nc (nv x.1.2-nv x.2.1.2)/\r.2.1=true)->(iB r.2.1 (True/\G6 fun c=>c.1=(x.1.1&&decide (r.1≠ []),r.1)->c.1=ic a) ((E8 x.2.1.2/\E8 x.1.2)/\∀(r:A4x),Kj r.1/\True/\True->(nv x.2.1.2<nv x.1.2->r.1= []/\r.2.1=false)/\(nv x.1.2<=nv x.2.1.2->r.1=nc (nv x.2.1.2-nv x.1.2)/\r.2.1=true)->True/\G6 fun c=>c.1=(x.2.1.1&&decide (r.1≠ []),r.1)->c.1=ic a))))
def EP:A2 Fz.args->Prop:=fun(x:eE)=>(E8 x.1.2/\E8 x.2.1.2)/\O9 fun r=>r.1=nc (nv x.1.2*nv x.2.1.2)->True/\G6 fun a=>a.1=(x.1.1 !=x.2.1.1&&decide (r.1≠ []),r.1)->a.1=ic (iv x.1*iv x.2.1)
def Pp:A2 Z6.args->Prop:=fun(x:eE)=>let b:=(iv x.1);let a:=(iv x.2.1);True/\Cw fun r=>r.1=b.sign->True/\Cw fun c=>c.1=a.sign->(iB (decide (r.1<c.1)) ((-1:Int)=M0 b a) ((iB (decide (c.1<r.1)) ((1:Int)=M0 b a) ((iB (decide (r.1<0)) (True/\Cw fun r=>r.1=Dt (nv x.2.1.2) (nv x.1.2)->r.1=M0 b a) (True/\Cw fun r=>r.1=Dt (nv x.1.2) (nv x.2.1.2)->r.1=M0 b a))))))
def ER (x:A2 Ba.args) (a:awf Ba.args x) (_:Ba.pre x):Re x:=by
 obtain⟨b,l,_⟩:=x;change Bool at b;change Xr at l;simp only[Re,J6];cases l<;>simp
def AV (x:A2 Z7.args) (d:awf Z7.args x) (_:Z7.pre x):Pq x:=by
 obtain⟨v,_⟩:=x;change Int at v;have c:i64.min<=v/\v<=i64.max:=d.1;rw[Wv,GK]at c;simp only[Pq,iB,O9,G6];refine⟨fun h=>⟨trivial, ?_⟩,fun h=>⟨trivial, ?_⟩⟩
 . rintro⟨r,_⟩ _ a;refine⟨trivial, ?_⟩;rintro⟨s,_⟩ _ b;simp only at a b⊢;have h:=qA h;have e:(u64.wrap (-u64.wrap v)).toNat=v.natAbs:=by rw[Dh,Dh];omega
   rw[e]at a;subst b a;unfold ic;rw[rD h,zX,rD (by rw[g4s,CL];omega)]
 . rintro⟨r,_⟩ _ a;refine⟨trivial, ?_⟩;rintro⟨s,_⟩ _ b;simp only at a b⊢;have h:=qB h;have e:(u64.wrap v).toNat=v.natAbs:=by rw[Dh];omega
   rw[e]at a;subst b a;unfold ic;rw[rE h,g0n]
def LQ (x:A2 Ee.args) (f:awf Ee.args x) (_:Ee.pre x):Yz x:=by
 obtain⟨⟨d,l⟩,_⟩:=x;change Bool at d;change Xr at l;simp only[Yz,iB,Cw];refine⟨trivial, ?_⟩;rintro⟨r,_⟩ _ a;simp only at a⊢;rw[lR]at a;refine⟨fun h=> ?_,fun h=>⟨fun c=> ?_,fun c=> ?_⟩⟩
 . have h:=qA h;have b:nv l=0:=ZS.1 (a▸h);unfold iv;simp only[b];split<;>rfl
 . have h:=qB h;have b:nv l≠0:=fun e=>h (by rw[a,e];rfl)
   unfold iv;simp only[c,xP];rw[Int.sign_neg,uO (by omega)]
 . have h:=qB h;have b:nv l≠0:=fun e=>h (by rw[a,e];rfl)
   unfold iv;simp only[c];exact(uO (by simp;omega)).symm
def bK {neg:Bool} {m:Nat} {v:Int} (h:v=if neg=true then -(m:Int)else(m:Int)):(neg&&decide (nc m≠ []),nc m)=ic v:=by
 have e:ic (iv (neg,nc m))=(neg&&decide (m≠0),nc m):=B3z;have a:iv (neg,nc m)=v:=by rw[h];unfold iv;simp only[F4]
 rw[a]at e;rw[e];have:decide (nc m≠ [])=decide (m≠0):=vL.2 (g4p CL);rw[this]
def LP (x:A2 Ed.args) (f:awf Ed.args x) (d:Ed.pre x):Yy x:=by
 obtain⟨⟨c,l⟩,_⟩:=x;change Bool at c;change Xr at l;simp only[Yy,O9,G6];refine⟨d, ?_⟩;rintro⟨r,_⟩ _ a;refine⟨trivial, ?_⟩;rintro⟨z,_⟩ _ b;simp only at a b⊢;subst a;rw[b];exact bK rfl
def OT (x:A2 Fy.args) (s:awf Fy.args x) (o:Fy.pre x):EO x:=by
 obtain⟨⟨b,l⟩,⟨g,k⟩,_⟩:=x;change Bool at b g;change Xr at l k;obtain⟨j,i⟩:E8 l/\E8 k:=o;simp only[EO,iB,O9,G6];refine⟨fun h=> ?_,fun h=> ?_⟩
 . refine⟨⟨j,i⟩, ?_⟩;rintro⟨r,_⟩ _ c;refine⟨trivial, ?_⟩;rintro⟨z,_⟩ _ a;simp only at c a⊢;have h:b=g:=by simpa using h
   subst c h;rw[a];refine bK ?_;unfold iv;cases b<;>simp<;>omega
 . have h:g= !b:=by cases b<;>cases g<;>simp_all
   subst h;refine⟨⟨j,i⟩, ?_⟩;rintro⟨r,t,_⟩ _ c;simp only at c⊢;refine⟨fun f=>⟨trivial, ?_⟩,fun f=>⟨⟨i,j⟩, ?_⟩⟩
   . rintro⟨z,_⟩ _ a;simp only at a⊢;rcases sE (nv l) (nv k)with d|d
     . rw[(c.1 d).2]at f;exact absurd f (by decide)
     . rw[(c.2 d).1]at a;rw[a];refine bK ?_;unfold iv;cases b<;>simp<;>omega
   . rintro⟨v,u,_⟩ _ n;refine⟨trivial, ?_⟩;rintro⟨z,_⟩ _ a;simp only at n a⊢;rcases sE (nv l) (nv k)with d|d
     . rw[(n.2 (by omega)).1]at a;rw[a];refine bK ?_;unfold iv;cases b<;>simp<;>omega
     . rw[(c.2 d).2]at f;exact absurd f (by decide)
def OU (x:A2 Fz.args) (i:awf Fz.args x) (h:Fz.pre x):EP x:=by
 obtain⟨⟨b,l⟩,⟨c,k⟩,_⟩:=x;change Bool at b c;change Xr at l k;obtain⟨g,f⟩:E8 l/\E8 k:=h;simp only[EP,O9,G6];refine⟨⟨g,f⟩, ?_⟩;rintro⟨r,_⟩ _ a;refine⟨trivial, ?_⟩;rintro⟨z,_⟩ _ d;simp only at a d⊢;subst a;rw[d];refine bK ?_;unfold iv;cases b<;>cases c<;>simp<;>grind
def HL:An:= {}
def MZ:An:= {plan:= [(3,[1],[4],false,(.p 0 (.q 1 (.p 2 (.or 3 (.e 4 (.p 5 .done)) (.e 4 (.e 3 (.p 5 .done))))))))]}
def QK:An:= {}
def NA:An:= {}
def BJ:An:= {join:= [(4,⟨[0,1,4],[0],[(5,false,vU)],[],[]⟩)],loop:= [(5,⟨[0,1,4,5],[0],[(6,false,vU),(7,false,vU)],[],[]⟩)],plan:= [(6,[],[],true,(pZ9 0 6 .done)),(7,[],[13],true,(pZ9 0 5 (pZ9 7 4 (.e 5 (.p 6 (.e 11 (.p 12 (.e 13 .done))))))))]}
def JX:An:= {join:= [(8,⟨[2,4],[1],[(1,false,[.val (.sl (.int .u32))])],[(0,41,[.val .bool, .val (.sl (.int .u32))])],[]⟩)]}
def QJ:An:= {}
def Mj:A2 M9.args->Prop:=fun(x:C8)=>True/\G6 fun r=>r.1=ic x.1->(r.1,[(1:Int)])=ri x.1
def Ro:A2 Bl.args->Prop:=fun(x:D5)=>let d:=(1:Int);let c:=(0:Nat);let b:Prop:=(nv x.1.2=c->x.1.1=zi/\x.1.2= [d]);let a:Prop:=(nv x.1.2≠c->x.1.1=x.1.1/\x.1.2=x.1.2);True/\Cw fun r=>r.1=Dt (nv x.1.2) (nv [])->(iB (decide (r.1=0)) ((nv x.1.2=c->(false,[])=zi/\ [d]= [d])/\(nv x.1.2≠c->(false,[])=x.1.1/\ [d]=x.1.2)) ((b/\a)/\b/\a))
abbrev mP:=(Bool×Xr)×Xr×Unit
def Wb:A2 Y0.args->Prop:=fun(x:D5)=>True/\∀(r:mP),WfZ r.1/\Kj r.2.1/\True->(nv x.1.2=0->r.1=zi/\r.2.1= [(1:Int)])/\(nv x.1.2≠0->r.1=x.1.1/\r.2.1=x.1.2)->True/\Cw fun a=>a.1=(iv r.1).sign->a.1=(rv x.1).num.sign
def Rp:A2 Bm.args->Prop:=fun(x:D5)=>let e:=(0:Int);let c:Prop:=(¬J9 x.1->true=false);let b:=(18446744073709551616:Nat);True/\∀(r:B0s),MJ r.1/\True/\True->(nv x.1.1.2<b->r.1=(↑(nv x.1.1.2):Int)/\r.2.1=true)/\(b<=nv x.1.1.2->r.2.1=false)->True/\∀(f:B0s),let d:=(decide (2147483648<=f.1));let a:=(L8 (L8 (!r.2.1) true !f.2.1) true (decide (2147483648<=r.1)));MJ f.1/\True/\True->(nv x.1.2<b->f.1=(↑(nv x.1.2):Int)/\f.2.1=true)/\(b<=nv x.1.2->f.2.1=false)->(iB (L8 a true d) ((J9 x.1->e=Tv x.1/\e=Qa x.1/\false=true)/\(¬J9 x.1->false=false)) ((iB (decide (f.1=e)) ((J9 x.1->e=Tv x.1/\(1:Int)=Qa x.1/\true=true)/\c) ((iB x.1.1.1 ((J9 x.1->i64.wrap (-i64.wrap r.1)=Tv x.1/\i64.wrap f.1=Qa x.1/\true=true)/\c) ((J9 x.1->i64.wrap r.1=Tv x.1/\i64.wrap f.1=Qa x.1/\true=true)/\c))))))
def Le:A2 S7.args->Prop:=fun(x:Dl)=>let a:=(0:Int);∃(J:C8->Prop),((iB (decide (x.1<a)) (J (u64.wrap (-u64.wrap x.1),())) (J (u64.wrap x.1,()))))/\∀(p:C8),(Ty.int u64).wf p.1/\True->J p->∃(I:Dl->Prop),∃(d: _->Nat),I (u64.wrap x.2.1,p)/\∀(c:Dl),let b:=(c.2.1,Int.tmod c.1 c.2.1,());(Ty.int u64).wf c.1/\(Ty.int u64).wf c.2.1/\True->I c->(iB (decide (c.2.1≠a)) (c.2.1≠a/\I b/\d b<d c) (c.1≠a/\c.1≠a/\True/\O9 fun r=>r.1=nc (u64.wrap (Int.tdiv p.1 c.1)).toNat->True/\O9 fun d=>d.1=nc (u64.wrap ((u64.wrap x.2.1).tdiv c.1)).toNat->((decide (x.1<a),r.1),d.1)=rc (mkRat x.1 x.2.1.toNat)))
abbrev C8k:=Xr×Bool×Xr×Unit
def Pw:A2 Ab.args->Prop:=fun(x:mP)=>let g:=(0:Nat);let f:=(nv x.2.1);let c:=(1:Int);let b:=(0:Int);Iu x.1.2/\G6 fun r=>let d:=(r.1.2.length:Int);r.1=ic (iv x.1)->Iu x.2.1/\O9 fun k=>k.1=nc f->(iB (decide (d=b)) (((false,[]),[c])=rc (mkRat (iv x.1) f)) ((Ad r.1.2/\Ad k.1)/\O9 fun h=>let e:=(decide (gx b h.1 b≠c));let a:=(h.1.length:Int);h.1=nc ((nv r.1.2).gcd (nv k.1))->∃(J:C8k->Prop),((decide (a≠c)=false->b<=b/\b<a)/\(iB (L8 (decide (a≠c)) true e) (E8 r.1.2/\∀(i:B7b),Kj i.1/\Kj i.2.1/\True/\True->(nv h.1=g->i.1= []/\i.2.1= []/\i.2.2.1=false)/\(nv h.1≠g->i.1=nc (nv r.1.2/nv h.1)/\i.2.1=nc (nv r.1.2%nv h.1)/\i.2.2.1=true)->E8 k.1/\∀(j:B7b),Kj j.1/\Kj j.2.1/\True/\True->(nv h.1=g->j.1= []/\j.2.1= []/\j.2.2.1=false)/\(nv h.1≠g->j.1=nc (nv k.1/nv h.1)/\j.2.1=nc (nv k.1%nv h.1)/\j.2.2.1=true)->J (j.1,r.1.1,i.1,())) (J (k.1,r.1.1,r.1.2,()))))/\∀(p:C8k),(Ty.int u32).sl.wf p.1/\Ty.bool.wf p.2.1/\(Ty.int u32).sl.wf p.2.2.1/\True->J p->((p.2.1,p.2.2.1),p.1)=rc (mkRat (iv x.1) f)))
def H4 (P:QQ×Unit->Prop):Prop:=∀r:QQ×Unit,Zr r.1/\True->P r
def Wa:A2 X9.args->Prop:=fun(x:D5)=>True/\∀(r:A1f),I2 r.1/\I2 r.2.1/\True/\True->(J9 x.1->r.1=Tv x.1/\r.2.1=Qa x.1/\r.2.2.1=true)/\(¬J9 x.1->r.2.2.1=false)->(iB r.2.2.1 (0<r.2.1/\H4 fun a=>a.1=rc (mkRat r.1 r.2.1.toNat)->a.1=rc (rv x.1)) (True/\∀(r:mP),WfZ r.1/\Kj r.2.1/\True->(nv x.1.2=0->r.1=zi/\r.2.1= [(1:Int)])/\(nv x.1.2≠0->r.1=x.1.1/\r.2.1=x.1.2)->(nv r.2.1≠0/\Ad r.1.2/\Ad r.2.1)/\H4 fun a=>a.1=rc (mkRat (iv r.1) (nv r.2.1))->a.1=rc (rv x.1)))
def Yi (x:A2 M9.args) (b:awf M9.args x) (_:M9.pre x):Mj x:=by
 obtain⟨v,_⟩:=x;simp only[Mj,G6];refine⟨trivial, ?_⟩;rintro⟨r,_⟩ _ a;simp only at a⊢;rw[a];rfl
def FK (x:A2 Bl.args) (d:awf Bl.args x) (_:Bl.pre x):Ro x:=by
 obtain⟨⟨c,l⟩,_⟩:=x;change Xr at l;simp only[Ro,iB,Cw];refine⟨trivial, ?_⟩;rintro⟨r,_⟩ _ b;simp only at b⊢;rw[lR]at b;refine⟨fun h=> ?_,fun h=> ?_⟩
 . have a:nv l=0:=ZS.1 (b▸qA h);exact⟨fun _=>⟨rfl,by trivial⟩,fun h=>absurd a h⟩
 . have a:nv l≠0:=fun e=>(qB h) (by rw[b,e];rfl)
   exact⟨⟨fun h=>absurd h a,fun _=>⟨by trivial,by trivial⟩⟩,fun h=>absurd h a,fun _=>⟨by trivial,by trivial⟩⟩
def IM (x:A2 Y0.args) (g:awf Y0.args x) (_:Y0.pre x):Wb x:=by
 obtain⟨⟨d,l⟩,_⟩:=x;change Xr at l;simp only[Wb,Cw];refine⟨trivial, ?_⟩;rintro⟨r,f,_⟩ _ ⟨a,b⟩;refine⟨trivial, ?_⟩;rintro⟨s,_⟩ _ c;simp only at a b c⊢;rw[c, <-B9z];unfold C4e;split
 . rename_i h;rw[(a h).1];rfl
 . rename_i h;rw[(b h).1]
def FL (x:A2 Bm.args) (O:awf Bm.args x) (_:Bm.pre x):Rp x:=by
 obtain⟨⟨⟨g,a⟩,l⟩,_⟩:=x;change Bool at g;change Xr at a l;simp only[Rp,iB];refine⟨trivial, ?_⟩;rintro⟨u,f,_⟩ _ ⟨k,y⟩;refine⟨trivial, ?_⟩;rintro⟨v,d,_⟩ _ ⟨n,z⟩;change Int at u v;change Bool at f d;simp only at k y n z⊢;have r:L8 (L8 (L8 (!f) true !d) true (decide (2147483648<=u))) true (decide (2147483648<=v))=(!f|| !d||decide (2147483648<=u) ||decide (2147483648<=v)):=by simp only[J1]
 rw[r];have G:(!f|| !d||decide (2147483648<=u) ||decide (2147483648<=v))=false->J9 ((g,a),l)/\u=(nv a:Int)/\v=(nv l:Int):=fun h=>by
  simp only[rK,g0o,rR]at h;obtain⟨⟨⟨t,w⟩,M⟩,N⟩:=h;have D:nv a<18446744073709551616:=by
   rcases sE (nv a) 18446744073709551616 with h|h
   . exact h
   . rw[y h]at t;cases t
  have E:nv l<18446744073709551616:=by
   rcases sE (nv l) 18446744073709551616 with h|h
   . exact h
   . rw[z h]at w;cases w
  have I:=(k D).1;have J:=(n E).1;exact⟨⟨by show nv a< _;omega,by show nv l< _;omega⟩,I,J⟩
 have H:J9 ((g,a),l)->(!f|| !d||decide (2147483648<=u) ||decide (2147483648<=v))=false:=fun h=>by
  obtain⟨i,j⟩:=h;change nv a< _ at i;change nv l< _ at j;obtain⟨D,t⟩:=k (by omega);obtain⟨E,w⟩:=n (by omega);simp only[rK,g0o,rR];exact⟨⟨⟨t,w⟩,by omega⟩,by omega⟩
 refine⟨fun h=>⟨fun r=> ?_,fun _=>trivial⟩,fun h=> ?_⟩
 . rw[H r]at h;cases h
 . obtain⟨A,F,B⟩:=G h;have s:=A;obtain⟨i,j⟩:=A;change nv a< _ at i;change nv l< _ at j;refine⟨fun c=> ?_,fun c=>⟨fun o=> ?_,fun o=> ?_⟩⟩
   . have c:=qA c;have b:nv l=0:=by omega
     exact⟨fun _=>⟨by unfold Tv;rw[qP b],by unfold Qa;rw[qP b],trivial⟩,fun h=>absurd s h⟩
   . have c:=qB c;have b:nv l≠0:=by omega
     refine⟨fun _=>⟨?_, ?_,trivial⟩,fun h=>absurd s h⟩
     . unfold Tv;rw[qL b,wv (a:=u) (by omega),wv (by omega)];unfold iv;simp only[o,xP];omega
     . unfold Qa;rw[qL b,wv (by omega)];exact B
   . have c:=qB c;have b:nv l≠0:=by omega
     refine⟨fun _=>⟨?_, ?_,trivial⟩,fun h=>absurd s h⟩
     . unfold Tv;rw[qL b,wv (a:=u) (by omega)];unfold iv;simp only[o];simpa using F
     . unfold Qa;rw[qL b,wv (by omega)];exact B
def Wc (x:A2 S7.args) (z:awf S7.args x) (E:S7.pre x):Le x:=by
 obtain⟨n,d,_⟩:=x;change Int at n d;have H:0<d:=E;have c:=(show i64.min<=n/\n<=i64.max from z.1);have hd1:=(show i64.min<=d/\d<=i64.max from z.2.1);rw[Wv,GK]at c hd1;obtain⟨P,Q⟩:=c;have I:=hd1.2;have O:i64.min= -9223372036854775808:=Wv;simp only[Le,iB,O9];refine⟨fun p=>p.1=(n.natAbs:Int),⟨fun h=> ?_,fun h=> ?_⟩, ?_⟩
 . have h:=qA h;show u64.wrap (-u64.wrap n)= _;rw[Dh,Dh];omega
 . have h:=qB h;show u64.wrap n= _;rw[Dh];omega
 rintro⟨T,_⟩ _ y;simp only at y⊢;subst y;have o:u64.wrap d=d:=Ac (by omega) (by omega);refine⟨fun p=>0<=p.1/\0<=p.2.1/\(p.1≠0\/p.2.1≠0)/\p.1.toNat.gcd p.2.1.toNat=d.toNat.gcd n.natAbs,fun p=>p.2.1.toNat, ?_, ?_⟩
 . refine⟨by omega,by show(0:Int)<=(n.natAbs:Int);omega, .inl (by omega), ?_⟩;rw[o];rfl
 rintro⟨g,t,_⟩ _ ⟨j,a,B,k⟩;change Int at g t;simp only at j a B k⊢;refine⟨fun h=> ?_,fun h=> ?_⟩
 . have h:=qA h;have e:Int.tmod g t=g%t:=tU j;have i:=g2d g h;have J:=zF g (b:=t) (by omega);rw[e];refine⟨h,⟨a,i, .inl h, ?_⟩,by omega⟩;rw[<-k,Int.toNat_emod j a,wZ t.toNat, <-g2y,wZ]
 . have h:t=0:=by simpa using h
   subst h;have s:g≠0:=by omega
   refine⟨s,s,trivial, ?_⟩;rintro⟨R,_⟩ _ w;refine⟨trivial, ?_⟩;rintro⟨q,_⟩ _ v;simp only at w v⊢;have M:g.toNat=d.toNat.gcd n.natAbs:=by rw[<-k];simp
   have N:0<g:=by omega
   have u:g=((d.toNat.gcd n.natAbs:Nat):Int):=by omega
   obtain⟨c,D⟩:=Qo (x:=n) (d:=d.toNat) (by omega);have A:(u64.wrap (Int.tdiv (n.natAbs:Int) g)).toNat=n.natAbs/d.toNat.gcd n.natAbs:=by
    rw[IntWalk.u64_quo _ _ ⟨by omega,by omega,by omega⟩,u, <-g4f,qH]
   have i:(u64.wrap (Int.tdiv d g)).toNat=d.toNat/d.toNat.gcd n.natAbs:=by
    rw[IntWalk.u64_quo _ _ ⟨by omega,by omega,by omega⟩,u]
    conv=>lhs;rw[show d=((d.toNat:Nat):Int)from by omega]
    rw[<-g4f,qH];simp only[qH]
   rw[w,v,o,A,i];unfold rc;rw[c,D];unfold ic;have r:((d.toNat.gcd n.natAbs:Nat):Int)∣n:=xY.2 (yK ..);have l:0<d.toNat.gcd n.natAbs:=by omega
   generalize d.toNat.gcd n.natAbs=G at r l;obtain⟨f,rfl⟩:=r;rw[xR _ (by omega)];have F:(G:Int)*f<0↔f<0:=by
    constructor
    . intro h;rcases g3w f 0 with a|a
      . exact a
      . have:=tK (xM (sB.2 l)) a;omega
    . intro h;exact yR (by omega) h
   rw[vS,uE,xV _ l];simp only[F]
def Xd (x:C0):mkRat (Tv x) (Qa x).toNat=rv x:=by
 unfold Tv Qa rv;split
 . rename_i h;rw[h,yP];rfl
 . rename_i h;rw[qH]
def B5m (x:C0):0<Qa x:=by
 unfold Qa;split
 . decide
 . omega
def BA (x:A2 Ab.args) (w:awf Ab.args x) (H:Ab.pre x):Pw x:=by
 obtain⟨⟨b,l⟩,k,_⟩:=x;have G:A8 l:=A4 w.1.2.2;have F:A8 k:=A4 w.2.1.2;change Bool at b;change Xr at l k;obtain⟨j,V,U⟩:nv k≠0/\l.length<=8796093022208/\k.length<=8796093022208:=H;simp only[Pw,iB,O9,G6];have N:=D2 G;have M:=D2 F;refine⟨by show l.length<=35184372088832;omega, ?_⟩;rintro⟨⟨y,r⟩,_⟩ _ f;refine⟨by show k.length<=35184372088832;omega, ?_⟩;rintro⟨d,_⟩ _ c;simp only at f c⊢;have I:y=decide (iv (b,l)<0):=tL (·.1) f;have v:r=nc (iv (b,l)).natAbs:=tL (·.2) f;have A:(iv (b,l)).natAbs=nv l:=J5 _;have i:nv r=(iv (b,l)).natAbs:=by rw[v,F4]
 have o:nv d=nv k:=by rw[c,F4]
 have T:r.length<=l.length:=by rw[v,A];exact N
 have Q:d.length<=k.length:=by rw[c];exact M
 refine⟨fun h=> ?_,fun h=> ?_⟩
 . have h:=qA h;have B:r= []:=qS (by omega);rw[B,lR]at i;have:iv (b,l)=0:=Int.natAbs_eq_zero.1 i.symm;rw[this,Rat.zero_mkRat,A7a]
 have h:=qB h;refine⟨⟨by omega,by omega⟩, ?_⟩;rintro⟨g,_⟩ _ n;simp only at n⊢;rw[i,o]at n;have R:Nat.gcd (iv (b,l)).natAbs (nv k)≠0:=Nat.ne_of_gt (g1j _ (sV j));have s:nv g=Nat.gcd (iv (b,l)).natAbs (nv k):=by rw[n,F4]
 refine⟨fun p=>((p.2.1,p.2.2.1),p.1)=rc (mkRat (iv (b,l)) (nv k)),⟨fun a=> ?_,fun a=> ?_,fun a=> ?_⟩, ?_⟩
 . have a:=qB a;exact⟨qG _,by omega⟩
 . refine⟨by show r.length<= _;omega, ?_⟩;rintro⟨q,m,X,_⟩ _ t;refine⟨by show d.length<= _;omega, ?_⟩;rintro⟨Z,W,Y,_⟩ _ u;simp only at t u⊢;rw[mF j,(t.2 (by omega)).1,(u.2 (by omega)).1,i,o,s,I]
 . have a:g.length=1/\gx 0 g 0=1:=by
    rw[J1]at a;simp only[rK,rR]at a;omega
   obtain⟨z,rfl⟩:∃z,g= [z]:=g1z.1 a.1;have J:z=1:=a.2;subst J;have D:Nat.gcd (iv (b,l)).natAbs (nv k)=1:=by rw[<-s];rfl
   rw[B9v j D];show((y,r),d)= _;rw[c, <-f]
 . rintro⟨O,a0,P,_⟩ _ E;exact E
def IL (x:A2 X9.args) (v:awf X9.args x) (n:X9.pre x):Wa x:=by
 obtain⟨q,_⟩:=x;change C0 at q;obtain⟨i,j⟩:q.1.2.length<=2199023255552/\q.2.length<=2199023255552:=n;simp only[Wa,iB,H4];refine⟨trivial, ?_⟩;rintro⟨s,f,z,_⟩ _ ⟨c,d⟩;change Int at s f;simp only at c d⊢;refine⟨fun h=> ?_,fun h=>⟨trivial, ?_⟩⟩
 . have o:J9 q:=qQ fun hn=>by rw[d hn]at h;cases h
   obtain⟨rfl,rfl,_⟩:=c o;refine⟨B5m q, ?_⟩;rintro⟨u,_⟩ _ a;simp only at a⊢;rw[a,Xd]
 . rintro⟨t,g,_⟩ _ b;simp only at b⊢;obtain⟨l,r⟩:=Ol b;obtain⟨w,y⟩:=Js (k:=2199023255552) b i j (by decide);refine⟨⟨l,by show t.2.length<= _;omega,by show g.length<= _;omega⟩, ?_⟩;rintro⟨u,_⟩ _ a;simp only at a⊢;rw[a,r]
def VE:An:= {plan:= [(13,[0,4],[10],true,(.q 0 (.p 1 (.p 2 (.q 4 (.p 5 (.p 6 (.or 3 (.or 7 (.or 8 (.e 9 (.e 10 .done)) (.e 9 (.e 8 (.e 10 .done)))) (.e 9 (.e 7 (.e 8 (.e 10 .done))))) (.e 9 (.e 3 (.e 7 (.e 8 (.e 10 .done))))))))))))),(14,[0],[5],true,(.q 0 (.p 1 (.p 2 (.e 3 (.e 4 (.e 5 .done)))))))]}
def VJ:An:= {}
def VH:An:= {}
def VI:An:= {}
def HK:An:= {plan:= [(1,[0,2],[],true,(.q 0 (.q 2 (.e 1 (.e 3 (.p 4 (.p 5 .done))))))),(10,[0,4],[],true,(.q 0 (.p 1 (.p 2 (.q 4 (.p 5 (.p 6 (.e 3 (.e 7 (.e 8 (.p 9 .done)))))))))))]}
def VG:An:= {}
def VF:An:= {}
def Zh:A2 Ek.args->Prop:=fun(x:T4)=>let g:=(0:Int);let e:=(0:Nat);let a:=(rv x.1+rv x.2.1);True/\Cw fun r=>r.1=(rv x.1).num.sign->(iB (decide (r.1=g)) (D8 x.2.1/\H4 fun r=>r.1=rc (rv x.2.1)->r.1=rc a) (True/\Cw fun r=>r.1=(rv x.2.1).num.sign->(iB (decide (r.1=g)) (D8 x.1/\H4 fun r=>r.1=rc (rv x.1)->r.1=rc a) (True/\∀(r:A1f),I2 r.1/\I2 r.2.1/\True/\True->(J9 x.1->r.1=Tv x.1/\r.2.1=Qa x.1/\r.2.2.1=true)/\(¬J9 x.1->r.2.2.1=false)->True/\∀(q:A1f),I2 q.1/\I2 q.2.1/\True/\True->(J9 x.2.1->q.1=Tv x.2.1/\q.2.1=Qa x.2.1/\q.2.2.1=true)/\(¬J9 x.2.1->q.2.2.1=false)->(iB (L8 r.2.2.1 q.2.2.1 false) (g<i64.wrap (r.2.1*q.2.1)/\H4 fun m=>m.1=rc (mkRat (i64.wrap (i64.wrap (r.1*q.2.1)+i64.wrap (q.1*r.2.1))) (i64.wrap (r.2.1*q.2.1)).toNat)->m.1=rc a) (True/\∀(r:mP),WfZ r.1/\Kj r.2.1/\True->(nv x.1.2=e->r.1=zi/\r.2.1= [(1:Int)])/\(nv x.1.2≠e->r.1=x.1.1/\r.2.1=x.1.2)->True/\∀(m:mP),let j:Prop:=(E8 r.1.2/\E8 m.2.1);let h:=(iv r.1*iv (false,m.2.1));let f:Prop:=(E8 m.1.2/\E8 r.2.1);let d:=(iv m.1*iv (false,r.2.1));let c:=(nv r.2.1*nv m.2.1);let b:Prop:=(E8 r.2.1/\E8 m.2.1);WfZ m.1/\Kj m.2.1/\True->(nv x.2.1.2=e->m.1=zi/\m.2.1= [(1:Int)])/\(nv x.2.1.2≠e->m.1=x.2.1.1/\m.2.1=x.2.1.2)->True/\Cw fun s=>s.1=Dt (nv r.2.1) (nv m.2.1)->(iB (decide (s.1=g)) ((E8 r.1.2/\E8 m.1.2)/\G6 fun p=>p.1=ic (iv r.1+iv m.1)->(nv r.2.1≠e/\Ad p.1.2/\Ad r.2.1)/\H4 fun o=>o.1=rc (mkRat (iv p.1) (nv r.2.1))->o.1=rc a) ((j/\G6 fun p=>p.1=ic h->(f/\G6 fun o=>let k:=(iv p.1+iv o.1);let i:Prop:=(E8 p.1.2/\E8 o.1.2);o.1=ic d->(i/\G6 fun n=>n.1=ic k->b/\O9 fun l=>l.1=nc c->(nv l.1≠e/\Ad n.1.2/\Ad l.1)/\H4 fun r=>r.1=rc (mkRat (iv n.1) (nv l.1))->r.1=rc a)/\i/\G6 fun n=>n.1=ic k->b/\O9 fun l=>l.1=nc c->(nv l.1≠e/\Ad n.1.2/\Ad l.1)/\H4 fun r=>r.1=rc (mkRat (iv n.1) (nv l.1))->r.1=rc a)/\f/\G6 fun o=>o.1=ic d->(E8 p.1.2/\E8 o.1.2)/\G6 fun n=>n.1=ic (iv p.1+iv o.1)->b/\O9 fun l=>l.1=nc c->(nv l.1≠e/\Ad n.1.2/\Ad l.1)/\H4 fun r=>r.1=rc (mkRat (iv n.1) (nv l.1))->r.1=rc a)/\j/\G6 fun p=>p.1=ic h->f/\G6 fun o=>o.1=ic d->(E8 p.1.2/\E8 o.1.2)/\G6 fun n=>n.1=ic (iv p.1+iv o.1)->b/\O9 fun l=>l.1=nc c->(nv l.1≠e/\Ad n.1.2/\Ad l.1)/\H4 fun r=>r.1=rc (mkRat (iv n.1) (nv l.1))->r.1=rc a))))))))
def Zm:A2 Bj.args->Prop:=fun(x:T4)=>let a:=((!x.2.1.1.1,x.2.1.1.2),x.2.1.2);(D8 x.1/\D8 a)/\H4 fun r=>r.1=rc (rv x.1+rv a)->r.1=rc (rv x.1-rv x.2.1)
def Zk:A2 W4.args->Prop:=fun(x:T4)=>let b:=(rv x.1*rv x.2.1);let a:=(0:Nat);True/\∀(r:A1f),I2 r.1/\I2 r.2.1/\True/\True->(J9 x.1->r.1=Tv x.1/\r.2.1=Qa x.1/\r.2.2.1=true)/\(¬J9 x.1->r.2.2.1=false)->True/\∀(d:A1f),I2 d.1/\I2 d.2.1/\True/\True->(J9 x.2.1->d.1=Tv x.2.1/\d.2.1=Qa x.2.1/\d.2.2.1=true)/\(¬J9 x.2.1->d.2.2.1=false)->(iB (L8 r.2.2.1 d.2.2.1 false) ((0:Int)<i64.wrap (r.2.1*d.2.1)/\H4 fun c=>c.1=rc (mkRat (i64.wrap (r.1*d.1)) (i64.wrap (r.2.1*d.2.1)).toNat)->c.1=rc b) (True/\∀(r:mP),WfZ r.1/\Kj r.2.1/\True->(nv x.1.2=a->r.1=zi/\r.2.1= [(1:Int)])/\(nv x.1.2≠a->r.1=x.1.1/\r.2.1=x.1.2)->True/\∀(c:mP),WfZ c.1/\Kj c.2.1/\True->(nv x.2.1.2=a->c.1=zi/\c.2.1= [(1:Int)])/\(nv x.2.1.2≠a->c.1=x.2.1.1/\c.2.1=x.2.1.2)->(E8 r.1.2/\E8 c.1.2)/\G6 fun f=>f.1=ic (iv r.1*iv c.1)->(E8 r.2.1/\E8 c.2.1)/\O9 fun e=>e.1=nc (nv r.2.1*nv c.2.1)->(nv e.1≠a/\Ad f.1.2/\Ad e.1)/\H4 fun r=>r.1=rc (mkRat (iv f.1) (nv e.1))->r.1=rc b))
def Zl:A2 Bi.args->Prop:=fun(x:D5)=>D8 x.1/\H4 fun r=>r.1=rc (rv x.1)->Iu r.1.1.2/\G6 fun a=>a.1=ic (-iv r.1.1)->(a.1,r.1.2)=rc (-rv x.1)
def Mi:A2 W3.args->Prop:=fun(x:T4)=>let c:=(0:Nat);let b:=(rv x.1);let a:=(rv x.2.1);True/\Cw fun r=>r.1=b.num.sign->True/\Cw fun f=>f.1=a.num.sign->(iB (decide (r.1≠f.1)) (True/\Cw fun e=>e.1=M0 r.1 f.1->e.1=YD b a) (True/\∀(r:A1f),I2 r.1/\I2 r.2.1/\True/\True->(J9 x.1->r.1=Tv x.1/\r.2.1=Qa x.1/\r.2.2.1=true)/\(¬J9 x.1->r.2.2.1=false)->True/\∀(e:A1f),I2 e.1/\I2 e.2.1/\True/\True->(J9 x.2.1->e.1=Tv x.2.1/\e.2.1=Qa x.2.1/\e.2.2.1=true)/\(¬J9 x.2.1->e.2.2.1=false)->(iB (L8 r.2.2.1 e.2.2.1 false) (True/\Cw fun d=>d.1=M0 (i64.wrap (r.1*e.2.1)) (i64.wrap (e.1*r.2.1))->d.1=YD b a) (True/\∀(r:mP),WfZ r.1/\Kj r.2.1/\True->(nv x.1.2=c->r.1=zi/\r.2.1= [(1:Int)])/\(nv x.1.2≠c->r.1=x.1.1/\r.2.1=x.1.2)->True/\∀(d:mP),WfZ d.1/\Kj d.2.1/\True->(nv x.2.1.2=c->d.1=zi/\d.2.1= [(1:Int)])/\(nv x.2.1.2≠c->d.1=x.2.1.1/\d.2.1=x.2.1.2)->(E8 r.1.2/\E8 d.2.1)/\G6 fun g=>g.1=ic (iv r.1*iv (false,d.2.1))->(E8 d.1.2/\E8 r.2.1)/\G6 fun h=>h.1=ic (iv d.1*iv (false,r.2.1))->True/\Cw fun r=>r.1=M0 (iv g.1) (iv h.1)->r.1=YD b a))))
def Zj:A2 Bh.args->Prop:=fun(x:D5)=>let a:=(rv x.1);True/\Cw fun r=>r.1=a.num.sign->(iB (decide (r.1=0)) ((rv x.1=(0:Rat)->false=false)/\(rv x.1≠(0:Rat)->dQ=rc a⁻¹/\false=true)) (D8 x.1/\H4 fun r=>r.1=rc a->(rv x.1=(0:Rat)->true=false)/\(rv x.1≠(0:Rat)->((r.1.1.1,r.1.2),r.1.1.2)=rc a⁻¹/\true=true)))
def Zi:A2 Em.args->Prop:=fun(x:T4)=>let b:=(rv x.1/rv x.2.1);let a:=((x.2.1.1.1,x.2.1.2),x.2.1.1.2);True/\Cw fun r=>r.1=(rv x.2.1).num.sign->(iB (decide (r.1=0)) ((rv x.2.1=(0:Rat)->false=false)/\(rv x.2.1≠(0:Rat)->dQ=rc b/\false=true)) ((D8 x.1/\D8 a)/\H4 fun r=>r.1=rc (rv x.1*rv a)->(rv x.2.1=(0:Rat)->true=false)/\(rv x.2.1≠(0:Rat)->r.1=rc b/\true=true)))
def JC {q:Rat} (h:q.num.sign=0):q=0:=g0f.1 (yS.1 h)
def Nk {x:C0} (h:J9 x): -2147483647<=Tv x/\Tv x<=2147483647/\0<Qa x/\Qa x<=2147483647:=by
 obtain⟨a,b⟩:=h;have:=J5 x.1;unfold Tv Qa;split
 . omega
 . omega
def Tt {a b M N:Int} (f: -M<=a) (d:a<=M) (c:0<=b) (g:b<=N): -(M*N)<=a*b/\a*b<=M*N:=by
 have h:0<=M:=by omega
 have i:M*b<=M*N:=tT g h;have g:a*b<=M*b:=sI d c;have d: -M*b<=a*b:=sI f c;rw[Int.neg_mul]at d;omega
def B0g {a b c d:Int} (h: -2147483647<=a/\a<=2147483647) (i: -2147483647<=b/\b<=2147483647) (g:0<c/\c<=2147483647) (f:0<d/\d<=2147483647):
 i64.wrap (c*d)=c*d/\0<c*d/\i64.wrap (i64.wrap (a*d)+i64.wrap (b*c))=a*d+b*c:=by
 have k:=Tt h.1 h.2 (xM f.1) f.2;have l:=Tt i.1 i.2 (xM g.1) g.2;have n:=Tt (a:=c) (b:=d) (M:=2147483647) (by omega) g.2 (xM f.1) f.2;have j:0<c*d:=Int.mul_pos g.1 f.1;rw[wv (a:=c*d) (by omega),wv (a:=a*d) (by omega),wv (a:=b*c) (by omega),wv (by omega)];exact⟨rfl,j,rfl⟩
def LY (x:A2 Ek.args) (o:awf Ek.args x) (a9:Ek.pre x):Zh x:=by
 obtain⟨p,q,_⟩:=x;have ay:A8 p.1.2:=A4 o.1.1.2.2;have az:A8 p.2:=A4 o.1.2.2;have b0:A8 q.1.2:=A4 o.2.1.1.2.2;have b1:A8 q.2:=A4 o.2.1.2.2;change C0 at p q;obtain⟨aa,ab⟩:D8 p/\D8 q:=a9;obtain⟨O,P⟩:=aa;obtain⟨Q,R⟩:=ab;simp only[Zh,iB,O9,Cw,G6,H4];refine⟨trivial, ?_⟩;rintro⟨b2,_⟩ _ T;simp only at T⊢;refine⟨fun h=>⟨⟨Q,R⟩, ?_⟩,fun h=>⟨trivial, ?_⟩⟩
 . rintro⟨r,_⟩ _ f;simp only at f⊢;rw[T]at h;rw[f,JC (qA h),tG]
 rintro⟨b3,_⟩ _ U;simp only at U⊢;refine⟨fun h=>⟨⟨O,P⟩, ?_⟩,fun h=>⟨trivial, ?_⟩⟩
 . rintro⟨r,_⟩ _ f;simp only at f⊢;rw[U]at h;rw[f,JC (qA h),rL]
 rintro⟨F,E,ar,_⟩ _ ⟨B,D⟩;refine⟨trivial, ?_⟩;rintro⟨J,I,au,_⟩ _ ⟨G,H⟩;change Int at F E J I;simp only at B D G H⊢;refine⟨fun h=> ?_,fun _=>⟨trivial, ?_⟩⟩
 . rw[J6,qC]at h;have Y:J9 p:=qQ fun hn=>by have:=D hn;rw[this]at h;exact absurd h.1 (by decide)
   have Z:J9 q:=qQ fun hn=>by have:=H hn;rw[this]at h;exact absurd h.2 (by decide)
   obtain⟨a2,a4,_⟩:=B Y;obtain⟨a3,a5,_⟩:=G Z;obtain⟨a0,a1,b4,b5⟩:=Nk Y;obtain⟨b6,b7,b8,b9⟩:=Nk Z;obtain⟨an,ao,ap⟩:=B0g (a:=F) (b:=J) (c:=E) (d:=I) (by omega) (by omega) (by omega) (by omega);rw[an,ap];refine⟨ao, ?_⟩;rintro⟨r,_⟩ _ f;simp only at f⊢;rw[f, <-Xd p, <-Xd q, <-a2, <-a4, <-a3, <-a5,RJ (by omega) (by omega),sP (by omega),sP (by omega),g3k (by omega) (by omega)]
 . rintro⟨n,d,_⟩ ⟨af,ac,_⟩ w;refine⟨trivial, ?_⟩;rintro⟨m,e,_⟩ ⟨ae,ad,_⟩ z;have X:A8 n.2:=A4 af.2.2;have V:A8 d:=A4 ac.2;have W:A8 m.2:=A4 ae.2.2;have le:A8 e:=A4 ad.2;refine⟨trivial, ?_⟩;rintro⟨c,_⟩ _ N;change Mn at n m;change Xr at d e;simp only at w z N⊢;obtain⟨j,a6⟩:=Ol w;obtain⟨M,a7⟩:=Ol z;obtain⟨ak,av⟩:=Js (k:=2199023255552) w O P (by decide);obtain⟨aj,aw⟩:=Js (k:=2199023255552) z Q R (by decide);rw[a6,a7];refine⟨fun h=> ?_,fun h=> ?_⟩
   . have h:=qA h;have a8:nv d=nv e:=ZS.1 (N▸h);refine⟨⟨by show n.2.length<= _;omega,by show m.2.length<= _;omega⟩, ?_⟩;rintro⟨u,_⟩ _ g;simp only at g⊢;have ag:=ZA (x:=n) (y:=m) X W ak aj;refine⟨⟨j,by show u.2.length<= _;rw[g];omega,by show d.length<= _;omega⟩, ?_⟩;rintro⟨r,_⟩ _ f;simp only at f⊢;rw[f,g,T9, <-a8,A3m j]
   . --the general case:the same four times
     have a0:=KE (x:=n) (y:=(false,e)) X le;have a1:=KE (x:=m) (y:=(false,d)) W V;have t:E8 n.2/\E8 e:=⟨by show n.2.length<= _;omega,by show e.length<= _;omega⟩;have l:E8 m.2/\E8 d:=⟨by show m.2.length<= _;omega,by show d.length<= _;omega⟩;have fin:∀u v:Mn,u=ic (iv n*iv (false,e))->v=ic (iv m*iv (false,d))->(E8 u.2/\E8 v.2)/\∀(r_6:(Bool×Xr)×Unit),WfZ r_6.1/\True->r_6.1=ic (iv u+iv v)->(E8 d/\E8 e)/\∀(r_7:Xr×Unit),Kj r_7.1/\True->r_7.1=nc (nv d*nv e)->(nv r_7.1≠(0:Nat)/\Ad r_6.1.2/\Ad r_7.1)/\∀(r:QQ×Unit),Zr r.1/\True->r.1=rc (mkRat (iv r_6.1) (nv r_7.1))->r.1=rc (mkRat (iv n) (nv d)+mkRat (iv m) (nv e)):=by
      intro u v g i;have ah:u.2.length<=4398046511104:=by
       rw[g];refine qW a0 ?_;show n.2.length+e.length<= _;omega
      have ai:v.2.length<=4398046511104:=by
       rw[i];refine qW a1 ?_;show m.2.length+d.length<= _;omega
      refine⟨⟨by show u.2.length<= _;omega,by show v.2.length<= _;omega⟩, ?_⟩;rintro⟨am,_⟩ _ A;refine⟨⟨l.2,t.2⟩, ?_⟩;rintro⟨aq,_⟩ _ s;simp only at A s⊢;have ag:=ZA (x:=u) (y:=v) (by rw[g];exact pB _) (by rw[i];exact pB _) ah ai;have ax:=KM V le;refine⟨⟨by rw[s,F4];exact zE j M,by show am.2.length<= _;rw[A];omega,by show aq.length<= _;rw[s];omega⟩, ?_⟩;rintro⟨r,_⟩ _ f;simp only at f⊢;rw[f,A,s,F4,T9,g,i,T9,T9,Lr,Lr,RJ j M]
     exact⟨⟨t,fun u _ g=>⟨⟨l,fun v _ i=>⟨fin _ _ g i,fin _ _ g i⟩⟩,l,fun v _ i=>fin _ _ g i⟩⟩,t,fun u _ g=>⟨l,fun v _ i=>fin _ _ g i⟩⟩
def nI:An:= {loop:= [(2,⟨[0],[],[(3,false,vI)],[],[]⟩)]}
def jK:An:= {loop:= [(4,⟨[0,1],[],[(5,false,vI)],[],[]⟩)],plan:= [(6,[3,7],[],true,(pZ9 0 3 (.q 3 (pZ9 4 3 (.q 7 (.p 8 .done))))))]}
def MY:An:= {}
def A1w:An:= {join:= [(8,⟨[0,1,5,7],[0],[(6,false,vU)],[],[]⟩),(10,⟨[0,1,5,7],[0],[(6,false,vU)],[],[]⟩)],loop:= [(4,⟨[0,1,5],[],[(6,false,vU),(7,false,vI)],[],[(0, .row (.int .u32) 103)]⟩)]}
def A1z:An:= {join:= [(12,⟨[0,1,6,8],[0],[(9,false,vU)],[],[]⟩),(17,⟨[0,1,6,8,9],[0],[(7,false,vU),(10,false,vU)],[],[]⟩)],loop:= [(7,⟨[0,1,6],[],[(7,false,vU),(8,false,vI)],[],[(0, .row (.int .u32) 103)]⟩)]}
def XO:An:= {loop:= [(7,⟨[0,1],[],[(5,false,vI)],[],[]⟩)],plan:= [(9,[3,7],[],true,(pZ9 0 3 (.q 3 (pZ9 4 3 (.q 7 (.p 8 .done)))))),(11,[3,7],[],true,(pZ9 0 3 (.q 3 (pZ9 4 3 (.q 7 (.p 8 .done))))))]}
def A1y:An:= {loop:= [(7,⟨[0,1,5,6],[],[(7,false,vU),(8,false,vI)],[],[(0, .row (.int .u32) 103)]⟩),(3,⟨[0,1,5],[],[(6,false,vI)],[],[(0, .row (.int .u32) 103)]⟩)],plan:= [(9,[6,11,16],[],true,(pZ9 0 6 (.q 6 (pZ9 7 4 (.q 11 (pZ9 12 4 (.q 16 (pZ9 17 5 .done))))))))]}
def dL:An:= {loop:= [(6,⟨[0],[],[(4,false,vU),(5,false,vI)],[],[]⟩)]}
def UC:A2 Ox.args->Prop:=fun(x:Sq)=>let f:=(1:Int);let c:=(x.1.length:Int);let a:=(0:Int);let g:=a.toNat;∃(I:C8->Prop),∃(b: _->Nat),I (c,())/\∀(p:C8),let e:=p.1.toNat;let d:=(i64.wrap (p.1-f),());let h:=(decide (gx a x.1 (i64.wrap (p.1-f))=a));(Ty.int i64).wf p.1/\True->I p->(decide (a<p.1)=true->a<=i64.wrap (p.1-f)/\i64.wrap (p.1-f)<c)/\(iB (L8 (decide (a<p.1)) h false) (I d/\b d<b p) ((a<=a/\a<=p.1/\p.1<=c)/\(((0:Nat)+(List.drop g (List.take e x.1)).length)*(4:Nat)<=(140737488355328:Nat)/\(0:Nat)+(List.drop g (List.take e x.1)).length<=9223372036854775807)/\List.drop g (List.take e x.1)=nc (nv x.1)))
def PG:A2 Ks.args->Prop:=fun(x:Fq)=>let f:Prop:=(x.1=x.2.1);let e:=(0:Int);let b:=(x.2.1.length:Int);let a:=(x.1.length:Int);(iB (decide (a≠b)) (false=decide f) (∃(I:C8->Prop),∃(c: _->Nat),I (e,())/\∀(p:C8),let d:=(i64.wrap (p.1+1),());let g:Prop:=(gx e x.1 p.1≠gx e x.2.1 p.1);(Ty.int i64).wf p.1/\True->I p->(iB (decide (p.1<a)) ((e<=p.1/\p.1<a)/\(e<=p.1/\p.1<b)/\(iB (decide g) (false=decide f) (I d/\c d<c p))) (true=decide f))))
def Rn:A2 Bg.args->Prop:=fun(x:C8)=>let a:=((32:Int).toNat);(0:(Ty.int u64).den)<=(32:Int)/\Iu [u32.wrap x.1,u32.wrap (Int.fdiv x.1 ((2:Int)^Min.min a u64.bits))]/\O9 fun r=>r.1=nc (nv [u32.wrap x.1,u32.wrap (Int.fdiv x.1 ((2:Int)^Min.min a u64.bits))])->r.1=nc x.1.toNat
def cA:A2 Uo.args->Prop:=fun(x:Fq)=>let f:=(1:Int);let e:=(0:Int);let b:=(x.1.length:Int);let a:=(x.2.1.length:Int);(e<=i64.wrap (Max.max b a+f)/\i64.wrap (Max.max b a+f)<=i64.wrap (Max.max b a+f)/\(↑(4:Nat):Int)*i64.wrap (Max.max b a+f)<=(281474976710656:Int)/\i64.wrap (Max.max b a+f)<=(9223372036854775807:Int))/\∃(I:Vn->Prop),∃(i: _->Nat),I (e,e,List.replicate (i64.wrap (Max.max b a+f)).toNat e,())/\∀(p:Vn),let d:=(p.2.2.1.length:Int);(Ty.int u64).wf p.1/\(Ty.int i64).wf p.2.1/\Kj p.2.2.1/\True->I p->(iB (decide (p.2.1<d)) (∃(J:C8->Prop),((iB (decide (p.2.1<b)) ((e<=p.2.1/\p.2.1<b)/\J (u64.wrap (p.1+u64.wrap (gx e x.1 p.2.1)),())) (J (p.1,()))))/\∀(g:C8),(Ty.int u64).wf g.1/\True->J g->∃(J:C8->Prop),((iB (decide (p.2.1<a)) ((e<=p.2.1/\p.2.1<a)/\J (u64.wrap (g.1+u64.wrap (gx e x.2.1 p.2.1)),())) (J g)))/\∀(h:C8),let c:=(Int.fdiv h.1 ((2:Int)^Min.min ((32:Int).toNat) u64.bits),i64.wrap (p.2.1+f),List.set p.2.2.1 p.2.1.toNat (u32.wrap h.1),());(Ty.int u64).wf h.1/\True->J h->(e<=p.2.1/\p.2.1<d)/\(0:(Ty.int u64).den)<=(32:Int)/\I c/\i c<i p) (Iu p.2.2.1/\O9 fun r=>r.1=nc (nv p.2.2.1)->r.1=nc (nv x.1+nv x.2.1)))
def cE:A2 Us.args->Prop:=fun(x:Fq)=>let f:=(nv x.1-nv x.2.1);let c:=(0:Int);(E8 x.1/\E8 x.2.1)/\Cw fun r=>r.1=Dt (nv x.1) (nv x.2.1)->(iB (decide (r.1<c)) ((nv x.1<nv x.2.1->O8 Int= []/\false=false)/\(nv x.2.1<=nv x.1->O8 Int=nc f/\false=true)) (Iu x.1/\O9 fun r=>let a:=(r.1.length:Int);r.1=nc (nv x.1)->Iu x.2.1/\O9 fun j=>let e:=(j.1.length:Int);j.1=nc (nv x.2.1)->(c<=a/\a<=a/\(↑(4:Nat):Int)*a<=(281474976710656:Int)/\a<=(9223372036854775807:Int))/\∃(I:Vn->Prop),∃(g: _->Nat),I (c,c,List.replicate a.toNat c,())/\∀(p:Vn),let d:=(gx c r.1 p.2.1);(Ty.int u64).wf p.1/\(Ty.int i64).wf p.2.1/\Kj p.2.2.1/\True->I p->(iB (decide (p.2.1<a)) (∃(J:C8->Prop),((iB (decide (p.2.1<e)) ((c<=p.2.1/\p.2.1<e)/\J (u64.wrap (p.1+u64.wrap (gx c j.1 p.2.1)),())) (J (p.1,()))))/\∀(i:C8),let k:Prop:=(u64.wrap d<i.1);(Ty.int u64).wf i.1/\True->J i->(c<=p.2.1/\p.2.1<a)/\∃(J:Dl->Prop),((iB (decide k) (J ((1:Int),u64.wrap (u64.wrap d+(4294967296:Int)),())) (J (c,u64.wrap d,()))))/\∀(h:Dl),let b:=(h.1,i64.wrap (p.2.1+1),List.set p.2.2.1 p.2.1.toNat (u32.wrap (u64.wrap (h.2.1-i.1))),());(Ty.int u64).wf h.1/\(Ty.int u64).wf h.2.1/\True->J h->(c<=p.2.1/\p.2.1<(p.2.2.1.length:Int))/\I b/\g b<g p) (Iu p.2.2.1/\O9 fun r=>r.1=nc (nv p.2.2.1)->(nv x.1<nv x.2.1->r.1= []/\true=false)/\(nv x.2.1<=nv x.1->r.1=nc f/\true=true)))))
def FD:A2 Gf.args->Prop:=fun(x:Fq)=>let i:=(1:Int);let e:=(nv x.1);let d:=(nv x.2.1);let c:=(0:Int);Iu x.1/\O9 fun r=>let a:=(r.1.length:Int);r.1=nc e->Iu x.2.1/\O9 fun j=>let b:=(j.1.length:Int);j.1=nc d->(iB (decide (a≠b)) ((iB (decide (a<b)) ((-1:Int)=Dt e d) (i=Dt e d))) (∃(I:C8->Prop),∃(g: _->Nat),I (i64.wrap (a-i),())/\∀(p:C8),let k:Prop:=(gx c j.1 p.1<gx c r.1 p.1);let h:Prop:=(gx c r.1 p.1<gx c j.1 p.1);let f:=(i64.wrap (p.1-i),());(Ty.int i64).wf p.1/\True->I p->(iB (decide (c<=p.1)) ((c<=p.1/\p.1<a)/\(c<=p.1/\p.1<b)/\(iB (decide h) ((-1:Int)=Dt e d) ((c<=p.1/\p.1<a)/\(c<=p.1/\p.1<b)/\(iB (decide k) (i=Dt e d) (I f/\g f<g p))))) (c=Dt e d))))
def cD:A2 Ur.args->Prop:=fun(x:Fq)=>let g:=(0:Int);let c:=(x.1.length:Int);let b:=(x.2.1.length:Int);(g<=i64.wrap (c+b)/\i64.wrap (c+b)<=i64.wrap (c+b)/\(↑(4:Nat):Int)*i64.wrap (c+b)<=(281474976710656:Int)/\i64.wrap (c+b)<=(9223372036854775807:Int))/\∃(I:LH->Prop),∃(k: _->Nat),I (g,List.replicate (i64.wrap (c+b)).toNat g,())/\∀(p:LH),(Ty.int i64).wf p.1/\Kj p.2.1/\True->I p->(iB (decide (p.1<c)) (∃(I_1:Vn->Prop),∃(l: _->Nat),I_1 (g,g,p.2.1,())/\∀(j:Vn),let i:=(i64.wrap (p.1+j.2.1));let h:=(j.2.2.1.length:Int);let f:=(i64.wrap (p.1+1),List.set j.2.2.1 (i64.wrap (p.1+b)).toNat (u32.wrap j.1),());let e:Prop:=(g<=i64.wrap (p.1+j.2.1)/\i64.wrap (p.1+j.2.1)<h);let a:=(u64.wrap (j.1+u64.wrap (u64.wrap (List.getD j.2.2.1 i.toNat g)+u64.wrap (u64.wrap (gx g x.1 p.1)*u64.wrap (gx g x.2.1 j.2.1)))));let d:=(a.fdiv ((2:Int)^Min.min ((32:Int).toNat) u64.bits),i64.wrap (j.2.1+1),List.set j.2.2.1 i.toNat (u32.wrap a),());(Ty.int u64).wf j.1/\(Ty.int i64).wf j.2.1/\Kj j.2.2.1/\True->I_1 j->(iB (decide (j.2.1<b)) (e/\(g<=p.1/\p.1<c)/\(g<=j.2.1/\j.2.1<b)/\e/\(0:(Ty.int u64).den)<=(32:Int)/\I_1 d/\l d<l j) ((g<=i64.wrap (p.1+b)/\i64.wrap (p.1+b)<h)/\I f/\k f<k p))) (Iu p.2.1/\O9 fun r=>r.1=nc (nv p.2.1)->r.1=nc (nv x.1*nv x.2.1)))
def JI:A2 Ie.args->Prop:=fun(x:Sq)=>let d:=(0:Int);let c:=(18446744073709551616:Nat);Iu x.1/\O9 fun r=>let b:=(r.1.length:Int);r.1=nc (nv x.1)->(iB (decide ((2:Int)<b)) ((nv x.1<c->d=(↑(nv x.1):Int)/\false=true)/\(c<=nv x.1->false=false)) (∃(I:Dl->Prop),∃(f: _->Nat),I (d,i64.wrap (b-(1:Int)),())/\∀(p:Dl),let a:=(u64.wrap (↑(BitVec.ofInt u64.bits (u64.wrap (p.1*2^Min.min ((32:Int).toNat) u64.bits)) |||BitVec.ofInt u64.bits (u64.wrap (gx d r.1 p.2.1))).toNat:Int),i64.wrap (p.2.1-1),());(Ty.int u64).wf p.1/\(Ty.int i64).wf p.2.1/\True->I p->(iB (decide (d<=p.2.1)) ((0:(Ty.int u64).den)<=(32:Int)/\(d<=p.2.1/\p.2.1<b)/\I a/\f a<f p) ((nv x.1<c->p.1=(↑(nv x.1):Int)/\true=true)/\(c<=nv x.1->true=false)))))
end Go.Proofs.YtiflhbllbgajeaaGreat
