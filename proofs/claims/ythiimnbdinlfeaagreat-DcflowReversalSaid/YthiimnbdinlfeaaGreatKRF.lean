/- Part. -/
import Derived.Test.YthiimnbdinlfeaaGreatRows
import Derived.Test.YthiimnbdinlfeaaGreatKRE
set_option linter.all false
namespace Go.Proofs.YthiimnbdinlfeaaGreat
open Go.Proofs.Tryz
open Go.Vc Go.Gw
open Go.IntKind (i64 u64 u32)
abbrev G1 (a:Int):Prop:=i64.min<=a/\a<=i64.max
abbrev B2m (a:Int):Prop:=u64.min<=a/\a<=u64.max
abbrev WfU (l:List Int):Prop:=List.length l<=(9223372036854775807:Nat)/\∀(x:Int),x∈l->u32.min<=x/\x<=u32.max
abbrev WfI (l:List Int):Prop:=List.length l<=(9223372036854775807:Nat)/\∀(x:Int),x∈l->i64.min<=x/\x<=i64.max
abbrev WfZ (z:Bool×List Int):Prop:=True/\WfU z.2
abbrev WfQ (q:(Bool×List Int)×List Int):Prop:=WfZ q.1/\WfU q.2
abbrev WfE (e:Int×(Bool×List Int)×List Int):Prop:=G1 e.1/\WfZ e.2.1/\WfU e.2.2
abbrev D9m (l:List (Int×(Bool×List Int)×List Int)):Prop:=List.length l<=(9223372036854775807:Nat)/\∀(x:Int×(Bool×List Int)×List Int),x∈l->WfE x
abbrev QQ:=(Bool×List Int)×List Int
abbrev EE:=Int×(Bool×List Int)×List Int
abbrev dQ:QQ:=((false,[]),[])
abbrev dEE:EE:=((0:Int),(false,[]),[])
abbrev MM:=Int×Int×List (List EE)
abbrev WfL (l:List QQ):Prop:=List.length l<=9223372036854775807/\∀(x:QQ),x∈l->WfQ x
abbrev F3k (l:List (List EE)):Prop:=List.length l<=9223372036854775807/\∀(x:List EE),x∈l->x.length<=9223372036854775807/\∀(y:EE),y∈x->WfE y
abbrev WfM (m:MM):Prop:=G1 m.1/\G1 m.2.1/\F3k m.2.2
abbrev tQ:Ty:=(.pair (.pair .bool (.sl (.int .u32))) (.sl (.int .u32)))
abbrev tE:Ty:=(.pair (.int .i64) tQ)
abbrev tM:Ty:=(.pair (.int .i64) (.pair (.int .i64) (.sl (.sl tE))))
def tys:List (Nat×TI):= [(2,{ty:=(.int .i64),agg:=false}),
 (3,{ty:=(.int .i64),agg:=false}),
 (4,{ty:= .bool,agg:=false}),
 (5,{ty:=(.int .u8),agg:=false}),
 (9,{ty:= .str,agg:=false}),
 (22,{ty:=(.sl (.int .i64)),agg:=false,elem:=3,bytes:=8}),
 (23,{ty:=(.sl (.pair (.int .i64) (.pair (.int .i64) (.pair tQ tQ)))),agg:=false,elem:=40,bytes:=128}),
 (25,{ty:=(.pair (.int .i64) (.sl (.pair (.int .i64) (.pair (.int .i64) (.pair tQ tQ))))),agg:=true,fields:= [(0,1,false),(1,1,false)]}),
 (29,{ty:=(.sl tQ),agg:=false,elem:=38,bytes:=56}),
 (34,{ty:=(.sl (.int .u32)),agg:=false,elem:=70,bytes:=4}),
 (36,{ty:=(.pair .bool (.sl (.int .u32))),agg:=true,fields:= [(0,1,false),(1,1,false)]}),
 (38,{ty:=tQ,agg:=true,fields:= [(0,2,true),(2,1,false)]}),
 (40,{ty:=(.pair (.int .i64) (.pair (.int .i64) (.pair tQ tQ))),agg:=true,fields:= [(0,1,false),(1,1,false),(2,3,true),(5,3,true)]}),
 (49,{ty:=(.sl (.pair (.int .i64) (.int .i64))),agg:=false,elem:=66,bytes:=16}),
 (58,{ty:=(.int .u64),agg:=false}),
 (60,{ty:=(.pair (.sl (.int .i64)) (.int .i64)),agg:=true,fields:= [(0,1,false),(1,1,false)]}),
 (66,{ty:=(.pair (.int .i64) (.int .i64)),agg:=true,elem:=3,arr:=2}),
 (70,{ty:=(.int .u32),agg:=false}),
 (95,{ty:=(.sl (.sl tE)),agg:=false,elem:=118,bytes:=24}),
 (97,{ty:=tM,agg:=true,fields:= [(0,1,false),(1,1,false),(2,1,false)]}),
 (102,{ty:=(.pair (.sl (.int .i64)) (.pair (.sl (.int .i64)) (.pair tM tM))),agg:=true,fields:= [(0,1,false),(1,1,false),(2,3,true),(5,3,true)]}),
 (112,{ty:=(.int .u64),agg:=false}),
 (114,{ty:=(.sl (.int .i64)),agg:=false,elem:=3,bytes:=8}),
 (118,{ty:=(.sl tE),agg:=false,elem:=120,bytes:=64}),
 (120,{ty:=tE,agg:=true,fields:= [(0,1,false),(1,3,true)]}),
 (126,{ty:=(.mp false (.int .i64) false (.sl (.int .i64))),agg:=false,elem:=22,key:=3}),
 (130,{ty:=(.ptr (.pair (.sl (.sl tE)) (.pair (.sl (.sl tE)) (.pair (.sl (.mp false (.int .i64) false .bool)) (.sl (.int .i64)))))),agg:=false}),
 (135,{ty:=(.sl (.mp false (.int .i64) false .bool)),agg:=false,elem:=159,bytes:=8}),
 (137,{ty:=(.pair (.sl (.sl tE)) (.pair (.sl (.sl tE)) (.pair (.sl (.mp false (.int .i64) false .bool)) (.sl (.int .i64))))),agg:=true,fields:= [(0,1,false),(1,1,false),(2,1,false),(3,1,false)]}),
 (148,{ty:=(.pair (.int .u64) (.pair (.int .u64) (.pair (.int .u64) (.pair (.int .u64) .bool)))),agg:=true,fields:= [(0,1,false),(1,1,false),(2,1,false),(3,1,false),(4,1,false)]}),
 (159,{ty:=(.mp false (.int .i64) false .bool),agg:=false,elem:=4,key:=3}),
 (181,{ty:=(.sl .bool),agg:=false,elem:=4,bytes:=1})]
theorem A3:J4 prog tys=true:=by kernel_rfl
def H2u:List (Nat×TI):= [(2,{ty:=(.int .i64),agg:=false}),
 (3,{ty:=(.int .i64),agg:=false}),
 (4,{ty:= .bool,agg:=false}),
 (5,{ty:=(.int .u8),agg:=false}),
 (9,{ty:= .str,agg:=false}),
 (22,{ty:=(.sl (.int .i64)),agg:=false,elem:=3,bytes:=8}),
 (23,{ty:=(.sl (.pair (.int .i64) (.pair (.int .i64) (.pair tQ tQ)))),agg:=false,elem:=40,bytes:=128}),
 (25,{ty:=(.pair (.int .i64) (.sl (.pair (.int .i64) (.pair (.int .i64) (.pair tQ tQ))))),agg:=true,fields:= [(0,1,false),(1,1,false)]}),
 (29,{ty:=(.sl tQ),agg:=false,elem:=38,bytes:=56}),
 (34,{ty:=(.sl (.int .u32)),agg:=false,elem:=70,bytes:=4}),
 (36,{ty:=(.pair .bool (.sl (.int .u32))),agg:=true,fields:= [(0,1,false),(1,1,false)]}),
 (38,{ty:=tQ,agg:=true,fields:= [(0,2,true),(2,1,false)]}),
 (40,{ty:=(.pair (.int .i64) (.pair (.int .i64) (.pair tQ tQ))),agg:=true,fields:= [(0,1,false),(1,1,false),(2,3,true),(5,3,true)]}),
 (49,{ty:=(.sl (.pair (.int .i64) (.int .i64))),agg:=false,elem:=66,bytes:=16}),
 (58,{ty:=(.int .u64),agg:=false}),
 (60,{ty:=(.pair (.sl (.int .i64)) (.int .i64)),agg:=true,fields:= [(0,1,false),(1,1,false)]}),
 (66,{ty:=(.pair (.int .i64) (.int .i64)),agg:=true,elem:=3,arr:=2}),
 (70,{ty:=(.int .u32),agg:=false}),
 (95,{ty:=(.sl (.sl tE)),agg:=false,elem:=118,bytes:=24,rows:=true}),
 (97,{ty:=tM,agg:=true,fields:= [(0,1,false),(1,1,false),(2,1,false)]}),
 (102,{ty:=(.pair (.sl (.int .i64)) (.pair (.sl (.int .i64)) (.pair tM tM))),agg:=true,fields:= [(0,1,false),(1,1,false),(2,3,true),(5,3,true)]}),
 (112,{ty:=(.int .u64),agg:=false}),
 (114,{ty:=(.sl (.int .i64)),agg:=false,elem:=3,bytes:=8}),
 (118,{ty:=(.sl tE),agg:=false,elem:=120,bytes:=64}),
 (120,{ty:=tE,agg:=true,fields:= [(0,1,false),(1,3,true)]}),
 (126,{ty:=(.mp false (.int .i64) false (.sl (.int .i64))),agg:=false,elem:=22,key:=3,rows:=true}),
 (130,{ty:=(.ptr (.pair (.sl (.sl tE)) (.pair (.sl (.sl tE)) (.pair (.sl (.mp false (.int .i64) false .bool)) (.sl (.int .i64)))))),agg:=false}),
 (135,{ty:=(.sl (.mp false (.int .i64) false .bool)),agg:=false,elem:=159,bytes:=8}),
 (137,{ty:=(.pair (.sl (.sl tE)) (.pair (.sl (.sl tE)) (.pair (.sl (.mp false (.int .i64) false .bool)) (.sl (.int .i64))))),agg:=true,fields:= [(0,1,false),(1,1,false),(2,1,false),(3,1,false)]}),
 (148,{ty:=(.pair (.int .u64) (.pair (.int .u64) (.pair (.int .u64) (.pair (.int .u64) .bool)))),agg:=true,fields:= [(0,1,false),(1,1,false),(2,1,false),(3,1,false),(4,1,false)]}),
 (159,{ty:=(.mp false (.int .i64) false .bool),agg:=false,elem:=4,key:=3}),
 (181,{ty:=(.sl .bool),agg:=false,elem:=4,bytes:=1})]
theorem E8t:J4 prog H2u=true:=by kernel_rfl
def F4k:List (Nat×TI):= [(2,{ty:=(.int .i64),agg:=false}),
 (3,{ty:=(.int .i64),agg:=false}),
 (4,{ty:= .bool,agg:=false}),
 (5,{ty:=(.int .u8),agg:=false}),
 (9,{ty:= .str,agg:=false}),
 (22,{ty:=(.sl (.int .i64)),agg:=false,elem:=3,bytes:=8}),
 (23,{ty:=(.sl (.pair (.int .i64) (.pair (.int .i64) (.pair tQ tQ)))),agg:=false,elem:=40,bytes:=128}),
 (25,{ty:=(.pair (.int .i64) (.sl (.pair (.int .i64) (.pair (.int .i64) (.pair tQ tQ))))),agg:=true,fields:= [(0,1,false),(1,1,false)]}),
 (29,{ty:=(.sl tQ),agg:=false,elem:=38,bytes:=56}),
 (34,{ty:=(.sl (.int .u32)),agg:=false,elem:=70,bytes:=4}),
 (36,{ty:=(.pair .bool (.sl (.int .u32))),agg:=true,fields:= [(0,1,false),(1,1,false)]}),
 (38,{ty:=tQ,agg:=true,fields:= [(0,2,true),(2,1,false)]}),
 (40,{ty:=(.pair (.int .i64) (.pair (.int .i64) (.pair tQ tQ))),agg:=true,fields:= [(0,1,false),(1,1,false),(2,3,true),(5,3,true)]}),
 (49,{ty:=(.sl (.pair (.int .i64) (.int .i64))),agg:=false,elem:=66,bytes:=16}),
 (58,{ty:=(.int .u64),agg:=false}),
 (60,{ty:=(.pair (.sl (.int .i64)) (.int .i64)),agg:=true,fields:= [(0,1,false),(1,1,false)]}),
 (66,{ty:=(.pair (.int .i64) (.int .i64)),agg:=true,elem:=3,arr:=2}),
 (70,{ty:=(.int .u32),agg:=false}),
 (95,{ty:=(.sl (.sl tE)),agg:=false,elem:=118,bytes:=24,nest:= [14]}),
 (97,{ty:=tM,agg:=true,fields:= [(0,1,false),(1,1,false),(2,1,false)]}),
 (102,{ty:=(.pair (.sl (.int .i64)) (.pair (.sl (.int .i64)) (.pair tM tM))),agg:=true,fields:= [(0,1,false),(1,1,false),(2,3,true),(5,3,true)]}),
 (112,{ty:=(.int .u64),agg:=false}),
 (114,{ty:=(.sl (.int .i64)),agg:=false,elem:=3,bytes:=8}),
 (118,{ty:=(.sl tE),agg:=false,elem:=120,bytes:=64}),
 (120,{ty:=tE,agg:=true,fields:= [(0,1,false),(1,3,true)]}),
 (126,{ty:=(.mp false (.int .i64) false (.sl (.int .i64))),agg:=false,elem:=22,key:=3}),
 (130,{ty:=(.ptr (.pair (.sl (.sl tE)) (.pair (.sl (.sl tE)) (.pair (.sl (.mp false (.int .i64) false .bool)) (.sl (.int .i64)))))),agg:=false}),
 (135,{ty:=(.sl (.mp false (.int .i64) false .bool)),agg:=false,elem:=159,bytes:=8,nest:= [17]}),
 (137,{ty:=(.pair (.sl (.sl tE)) (.pair (.sl (.sl tE)) (.pair (.sl (.mp false (.int .i64) false .bool)) (.sl (.int .i64))))),agg:=true,fields:= [(0,1,false),(1,1,false),(2,1,false),(3,1,false)]}),
 (148,{ty:=(.pair (.int .u64) (.pair (.int .u64) (.pair (.int .u64) (.pair (.int .u64) .bool)))),agg:=true,fields:= [(0,1,false),(1,1,false),(2,1,false),(3,1,false),(4,1,false)]}),
 (159,{ty:=(.mp false (.int .i64) false .bool),agg:=false,elem:=4,key:=3,nest:= [44,66]}),
 (181,{ty:=(.sl .bool),agg:=false,elem:=4,bytes:=1})]
theorem C7q:J4 prog F4k=true:=by kernel_rfl
def B4c:A6:= {args:= [.val true tQ],res:= [.val true tQ],shared:=true,pre:=fun(x:QQ×Unit)=>sh3 x.1,post:=fun(x:QQ×Unit) (r:QQ×Unit)=>r.1=rc (-(rv x.1))}
def B5d:A6:= {args:= [.val true tQ, .val true tQ],res:= [.val true tQ],shared:=true,pre:=fun(x:QQ×QQ×Unit)=>sh3 x.1/\sh3 x.2.1,post:=fun(x:QQ×QQ×Unit) (r:QQ×Unit)=>r.1=rc (rv x.1+rv x.2.1)}
def A9t:A6:= {args:= [],res:= [.val true tQ],shared:=true,pre:=fun(x:Unit)=>True,post:=fun(x:Unit) (r:QQ×Unit)=>r.1=rc 0}
def B5q:A6:= {args:= [.val true tQ, .val true tQ],res:= [.val true tQ],shared:=true,pre:=fun(x:QQ×QQ×Unit)=>sh3 x.1/\sh3 x.2.1,post:=fun(x:QQ×QQ×Unit) (r:QQ×Unit)=>r.1=rc (rv x.1-rv x.2.1)}
def A8m:A6:= {args:= [.val true (.pair .bool (.sl (.int .u32))), .val true (.pair .bool (.sl (.int .u32)))],res:= [.val true tQ],shared:=true,pre:=fun(x:(Bool×(List Int))×(Bool×(List Int))×Unit)=>sh2 x.1.2/\sh2 x.2.1.2,post:=fun(x:(Bool×(List Int))×(Bool×(List Int))×Unit) (r:QQ×Unit)=>r.1=rc (C4v x.1 x.2.1)}
def B4b:A6:= {args:= [.val true (.pair .bool (.sl (.int .u32)))],res:= [.val true (.pair .bool (.sl (.int .u32)))],shared:=true,pre:=fun(x:(Bool×(List Int))×Unit)=>sh0 x.1.2,post:=fun(x:(Bool×(List Int))×Unit) (r:(Bool×(List Int))×Unit)=>r.1=ic (-iv x.1)}
def A8j:A6:= {args:= [.val true tQ],res:= [.val true tQ],shared:=true,pre:=fun(x:QQ×Unit)=>sh3 x.1,post:=fun(x:QQ×Unit) (r:QQ×Unit)=>r.1=rc (rv x.1)}
def B4v:A6:= {args:= [.val true tQ],res:= [.val true (.pair .bool (.sl (.int .u32)))],shared:=true,pre:=fun(x:QQ×Unit)=>sh3 x.1,post:=fun(x:QQ×Unit) (r:(Bool×(List Int))×Unit)=>r.1=ic ((rv x.1).den:Int)}
def A0l:A6:= {args:= [.val true tQ, .val true tQ],res:= [.val true tQ],shared:=true,pre:=fun(x:QQ×QQ×Unit)=>sh3 x.1/\sh3 x.2.1,post:=fun(x:QQ×QQ×Unit) (r:QQ×Unit)=>r.1=rc (rv x.1+rv x.2.1)}
def A0d:A6:= {args:= [.val true tQ, .val true tQ],res:= [.val true tQ],shared:=true,pre:=fun(x:QQ×QQ×Unit)=>sh3 x.1/\sh3 x.2.1,post:=fun(x:QQ×QQ×Unit) (r:QQ×Unit)=>r.1=rc (rv x.1-rv x.2.1)}
def U8:A6:= {args:= [.val true tQ, .val true tQ],res:= [.val true tQ],shared:=true,pre:=fun(x:QQ×QQ×Unit)=>sh3 x.1/\sh3 x.2.1,post:=fun(x:QQ×QQ×Unit) (r:QQ×Unit)=>r.1=rc (rv x.1*rv x.2.1)}
def X4:A6:= {args:= [.val true tQ],res:= [.val false .bool],shared:=false,pre:=fun(x:QQ×Unit)=>sh3 x.1,post:=fun(x:QQ×Unit) (r:Bool×Unit)=>r.1=decide (x.1=rc (rv x.1))}
def A5t:A6:= {args:= [.val true tQ, .val true tQ],res:= [.val false .bool],shared:=false,pre:=fun(x:QQ×QQ×Unit)=>True,post:=fun(x:QQ×QQ×Unit) (r:Bool×Unit)=>r.1=decide (x.1=x.2.1)}
def B4d:A6:= {args:= [.val true (.pair .bool (.sl (.int .u32))), .val true (.pair .bool (.sl (.int .u32)))],res:= [.val true (.pair .bool (.sl (.int .u32)))],shared:=true,pre:=fun(x:(Bool×(List Int))×(Bool×(List Int))×Unit)=>sh1 x.1.2/\sh1 x.2.1.2,post:=fun(x:(Bool×(List Int))×(Bool×(List Int))×Unit) (r:(Bool×(List Int))×Unit)=>r.1=ic (iv x.1+iv x.2.1)}
def B4h:A6:= {args:= [.val true (.pair .bool (.sl (.int .u32))), .val true (.pair .bool (.sl (.int .u32)))],res:= [.val true (.pair .bool (.sl (.int .u32)))],shared:=true,pre:=fun(x:(Bool×(List Int))×(Bool×(List Int))×Unit)=>sh1 x.1.2/\sh1 x.2.1.2,post:=fun(x:(Bool×(List Int))×(Bool×(List Int))×Unit) (r:(Bool×(List Int))×Unit)=>r.1=ic (iv x.1*iv x.2.1)}
def A9o:A6:= {args:= [.val true (.pair .bool (.sl (.int .u32)))],res:= [.val false (.int .i64)],shared:=false,pre:=fun(x:(Bool×(List Int))×Unit)=>sh0 x.1.2,post:=fun(x:(Bool×(List Int))×Unit) (r:Int×Unit)=>r.1=(iv x.1).sign}
def C3t:A6:= {args:= [.val false (.int .i64), .val false (.int .i64)],res:= [.val true tQ],shared:=true,pre:=fun(x:Int×Int×Unit)=>True,post:=fun(x:Int×Int×Unit) (r:QQ×Unit)=>r.1=rc (Rat.divInt x.1 x.2.1)}
def I2:A6:= {args:= [.val false (.int .i64)],res:= [.val true tQ],shared:=true,pre:=fun(x:Int×Unit)=>True,post:=fun(x:Int×Unit) (r:QQ×Unit)=>r.1=ri x.1}
def A2d:A6:= {args:= [.val false (.int .i64)],res:= [.val true tQ],shared:=true,pre:=fun(x:Int×Unit)=>True,post:=fun(x:Int×Unit) (r:QQ×Unit)=>r.1=ri x.1}
def A9j:A6:= {args:= [.val true (.pair .bool (.sl (.int .u32)))],res:= [.val true (.pair .bool (.sl (.int .u32)))],shared:=true,pre:=fun(x:(Bool×(List Int))×Unit)=>sh0 x.1.2,post:=fun(x:(Bool×(List Int))×Unit) (r:(Bool×(List Int))×Unit)=>r.1=ic (iv x.1)}
def A5r:A6:= {args:= [.val false (.sl (.int .u32)), .val false (.sl (.int .u32))],res:= [.val false .bool],shared:=false,pre:=fun(x:(List Int)×(List Int)×Unit)=>True,post:=fun(x:(List Int)×(List Int)×Unit) (r:Bool×Unit)=>r.1=decide (x.1=x.2.1)}
def B5n:A6:= {args:= [.val true (.pair .bool (.sl (.int .u32))), .val true (.pair .bool (.sl (.int .u32)))],res:= [.val true (.pair .bool (.sl (.int .u32)))],shared:=true,pre:=fun(x:(Bool×(List Int))×(Bool×(List Int))×Unit)=>sh2 x.1.2/\sh2 x.2.1.2,post:=fun(x:(Bool×(List Int))×(Bool×(List Int))×Unit) (r:(Bool×(List Int))×Unit)=>r.1=ic (Nat.gcd (nv x.1.2) (nv x.2.1.2):Int)}
def A3t:A6:= {args:= [.val true (.pair .bool (.sl (.int .u32))), .val true (.pair .bool (.sl (.int .u32)))],res:= [.val true (.pair .bool (.sl (.int .u32))), .val true (.pair .bool (.sl (.int .u32))), .val false .bool],shared:=true,pre:=fun(x:(Bool×(List Int))×(Bool×(List Int))×Unit)=>sh2 x.1.2/\sh2 x.2.1.2,post:=fun(x:(Bool×(List Int))×(Bool×(List Int))×Unit) (r:(Bool×(List Int))×(Bool×(List Int))×Bool×Unit)=>iv x.2.1≠0->r.1=ic (iv x.1/iv x.2.1)/\r.2.1=ic (iv x.1%iv x.2.1)/\r.2.2.1=true}
def A7z:A6:= {args:= [.val false .bool, .val false (.sl (.int .u32))],res:= [.val true (.pair .bool (.sl (.int .u32)))],shared:=true,pre:=fun(x:Bool×(List Int)×Unit)=>sh0 x.2.1,post:=fun(x:Bool×(List Int)×Unit) (r:(Bool×(List Int))×Unit)=>r.1=ic (iv (x.1,x.2.1))}
def W4:A6:= {args:= [.val true tQ],res:= [.val false (.int .i64)],shared:=false,pre:=fun(x:QQ×Unit)=>True,post:=fun(x:QQ×Unit) (r:Int×Unit)=>r.1=(rv x.1).num.sign}
def Q3:A6:= {args:= [.val true tQ],res:= [.val true tQ],shared:=true,pre:=fun(x:QQ×Unit)=>sh3 x.1,post:=fun(x:QQ×Unit) (r:QQ×Unit)=>r.1=rc (rv x.1)}
def S8:A6:= {args:= [.val true tQ],res:= [.val false (.int .i64), .val false (.int .i64), .val false .bool],shared:=false,pre:=fun(x:QQ×Unit)=>True,post:=fun(x:QQ×Unit) (r:Int×Int×Bool×Unit)=>(I4 x.1->r.1=D7t x.1/\r.2.1=D4e x.1/\r.2.2.1=true)/\(¬I4 x.1->r.2.2.1=false)}
def K5:A6:= {args:= [.val false (.int .i64), .val false (.int .i64)],res:= [.val true tQ],shared:=true,pre:=fun(x:Int×Int×Unit)=>0<x.2.1,post:=fun(x:Int×Int×Unit) (r:QQ×Unit)=>r.1=rc (mkRat x.1 x.2.1.toNat)}
def U3:A6:= {args:= [.val true tQ],res:= [.val true (.pair .bool (.sl (.int .u32))), .val false (.sl (.int .u32))],shared:=true,pre:=fun(x:QQ×Unit)=>True,post:=fun(x:QQ×Unit) (r:(Bool×(List Int))×(List Int)×Unit)=>(nv x.1.2=0->r.1=zi/\r.2.1= [1])/\(nv x.1.2≠0->r.1=x.1.1/\r.2.1=x.1.2)}
def Q4:A6:= {args:= [.val false (.sl (.int .u32)), .val false (.sl (.int .u32))],res:= [.val false (.int .i64)],shared:=false,pre:=fun(x:(List Int)×(List Int)×Unit)=>True,post:=fun(x:(List Int)×(List Int)×Unit) (r:Int×Unit)=>r.1=B3y (nv x.1) (nv x.2.1)}
def O9:A6:= {args:= [.val true (.pair .bool (.sl (.int .u32))), .val false (.sl (.int .u32))],res:= [.val true tQ],shared:=true,pre:=fun(x:(Bool×(List Int))×(List Int)×Unit)=>nv x.2.1≠0/\sh2 x.1.2/\sh2 x.2.1,post:=fun(x:(Bool×(List Int))×(List Int)×Unit) (r:QQ×Unit)=>r.1=rc (mkRat (iv x.1) (nv x.2.1))}
def A1w:A6:= {args:= [.val true (.pair .bool (.sl (.int .u32))), .val true (.pair .bool (.sl (.int .u32)))],res:= [.val true (.pair .bool (.sl (.int .u32)))],shared:=true,pre:=fun(x:(Bool×(List Int))×(Bool×(List Int))×Unit)=>sh1 x.1.2/\sh1 x.2.1.2,post:=fun(x:(Bool×(List Int))×(Bool×(List Int))×Unit) (r:(Bool×(List Int))×Unit)=>r.1=ic (iv x.1+iv x.2.1)}
def A1n:A6:= {args:= [.val true (.pair .bool (.sl (.int .u32))), .val true (.pair .bool (.sl (.int .u32)))],res:= [.val true (.pair .bool (.sl (.int .u32)))],shared:=true,pre:=fun(x:(Bool×(List Int))×(Bool×(List Int))×Unit)=>sh1 x.1.2/\sh1 x.2.1.2,post:=fun(x:(Bool×(List Int))×(Bool×(List Int))×Unit) (r:(Bool×(List Int))×Unit)=>r.1=ic (iv x.1*iv x.2.1)}
def A2n:A6:= {args:= [.val false (.sl (.int .u32)), .val false (.sl (.int .u32))],res:= [.val false (.sl (.int .u32))],shared:=true,pre:=fun(x:(List Int)×(List Int)×Unit)=>sh1 x.1/\sh1 x.2.1,post:=fun(x:(List Int)×(List Int)×Unit) (r:(List Int)×Unit)=>r.1=nc (nv x.1*nv x.2.1)}
def A6a:A6:= {args:= [.val true (.pair .bool (.sl (.int .u32))), .val true (.pair .bool (.sl (.int .u32)))],res:= [.val false .bool],shared:=false,pre:=fun(x:(Bool×(List Int))×(Bool×(List Int))×Unit)=>True,post:=fun(x:(Bool×(List Int))×(Bool×(List Int))×Unit) (r:Bool×Unit)=>r.1=decide (x.1=x.2.1)}
def B5z:A6:= {args:= [.val false (.sl (.int .u32)), .val false (.sl (.int .u32))],res:= [.val false (.sl (.int .u32))],shared:=true,pre:=fun(x:(List Int)×(List Int)×Unit)=>sh1 x.1/\sh1 x.2.1,post:=fun(x:(List Int)×(List Int)×Unit) (r:(List Int)×Unit)=>r.1=nc (nv x.1+nv x.2.1)}
def B5l:A6:= {args:= [.val false (.sl (.int .u32)), .val false (.sl (.int .u32))],res:= [.val false (.sl (.int .u32)), .val false .bool],shared:=true,pre:=fun(x:(List Int)×(List Int)×Unit)=>sh1 x.1/\sh1 x.2.1,post:=fun(x:(List Int)×(List Int)×Unit) (r:(List Int)×Bool×Unit)=>(nv x.1<nv x.2.1->r.1= []/\r.2.1=false)/\(nv x.2.1<=nv x.1->r.1=nc (nv x.1-nv x.2.1)/\r.2.1=true)}
def B6c:A6:= {args:= [.val false (.sl (.int .u32)), .val false (.sl (.int .u32))],res:= [.val false (.sl (.int .u32))],shared:=true,pre:=fun(x:(List Int)×(List Int)×Unit)=>sh1 x.1/\sh1 x.2.1,post:=fun(x:(List Int)×(List Int)×Unit) (r:(List Int)×Unit)=>r.1=nc (nv x.1*nv x.2.1)}
def A2c:A6:= {args:= [.val false (.int .i64)],res:= [.val true (.pair .bool (.sl (.int .u32)))],shared:=true,pre:=fun(x:Int×Unit)=>True,post:=fun(x:Int×Unit) (r:(Bool×(List Int))×Unit)=>r.1=ic x.1}
def R5:A6:= {args:= [.val false (.int .i64)],res:= [.val true (.pair .bool (.sl (.int .u32)))],shared:=true,pre:=fun(x:Int×Unit)=>True,post:=fun(x:Int×Unit) (r:(Bool×(List Int))×Unit)=>r.1=ic x.1}
def B2z:A6:= {args:= [.val false (.sl (.int .u32)), .val false (.sl (.int .u32))],res:= [.val false (.sl (.int .u32))],shared:=true,pre:=fun(x:(List Int)×(List Int)×Unit)=>sh2 x.1/\sh2 x.2.1,post:=fun(x:(List Int)×(List Int)×Unit) (r:(List Int)×Unit)=>r.1=nc (Nat.gcd (nv x.1) (nv x.2.1))}
def A4f:A6:= {args:= [.val false (.sl (.int .u32)), .val false (.sl (.int .u32))],res:= [.val false (.sl (.int .u32)), .val false (.sl (.int .u32)), .val false .bool],shared:=true,pre:=fun(x:(List Int)×(List Int)×Unit)=>sh2 x.1/\sh2 x.2.1,post:=fun(x:(List Int)×(List Int)×Unit) (r:(List Int)×(List Int)×Bool×Unit)=>(nv x.2.1=0->r.2.2.1=false)/\(nv x.2.1≠0->r.1=nc (nv x.1/nv x.2.1)/\r.2.1=nc (nv x.1%nv x.2.1)/\r.2.2.1=true)}
def B3r:A6:= {args:= [.val true (.pair .bool (.sl (.int .u32)))],res:= [.val true (.pair .bool (.sl (.int .u32)))],shared:=true,pre:=fun(x:(Bool×(List Int))×Unit)=>sh0 x.1.2,post:=fun(x:(Bool×(List Int))×Unit) (r:(Bool×(List Int))×Unit)=>r.1=ic ((iv x.1).natAbs:Int)}
def B5f:A6:= {args:= [.val true (.pair .bool (.sl (.int .u32))), .val true (.pair .bool (.sl (.int .u32)))],res:= [.val true (.pair .bool (.sl (.int .u32)))],shared:=true,pre:=fun(x:(Bool×(List Int))×(Bool×(List Int))×Unit)=>sh1 x.1.2/\sh1 x.2.1.2,post:=fun(x:(Bool×(List Int))×(Bool×(List Int))×Unit) (r:(Bool×(List Int))×Unit)=>r.1=ic (iv x.1-iv x.2.1)}
def A9m:A6:= {args:= [.val false (.sl (.int .u32))],res:= [.val false (.sl (.int .u32))],shared:=true,pre:=fun(x:(List Int)×Unit)=>sh0 x.1,post:=fun(x:(List Int)×Unit) (r:(List Int)×Unit)=>r.1=nc (nv x.1)}
def A0a:A6:= {args:= [.val true (.pair .bool (.sl (.int .u32)))],res:= [.val false (.int .i64)],shared:=false,pre:=fun(x:(Bool×(List Int))×Unit)=>True,post:=fun(x:(Bool×(List Int))×Unit) (r:Int×Unit)=>r.1=(iv x.1).sign}
def T6:A6:= {args:= [.val false (.sl (.int .u32))],res:= [.val false (.int .u64), .val false .bool],shared:=false,pre:=fun(x:(List Int)×Unit)=>True,post:=fun(x:(List Int)×Unit) (r:Int×Bool×Unit)=>(nv x.1<18446744073709551616->r.1=(nv x.1:Int)/\r.2.1=true)/\(18446744073709551616<=nv x.1->r.2.1=false)}
def I9:A6:= {args:= [.val false (.int .u64)],res:= [.val false (.sl (.int .u32))],shared:=true,pre:=fun(x:Int×Unit)=>True,post:=fun(x:Int×Unit) (r:(List Int)×Unit)=>r.1=nc x.1.toNat}
def X9:A6:= {args:= [.val false (.sl (.int .u32))],res:= [.val false (.sl (.int .u32))],shared:=true,pre:=fun(x:(List Int)×Unit)=>True,post:=fun(x:(List Int)×Unit) (r:(List Int)×Unit)=>r.1=nc (nv x.1)}
def A0q:A6:= {args:= [.val true (.pair .bool (.sl (.int .u32)))],res:= [.val true (.pair .bool (.sl (.int .u32)))],shared:=true,pre:=fun(x:(Bool×(List Int))×Unit)=>sh0 x.1.2,post:=fun(x:(Bool×(List Int))×Unit) (r:(Bool×(List Int))×Unit)=>r.1=ic (iv x.1)}
def A0h:A6:= {args:= [.val false (.sl (.int .u32))],res:= [.val false (.sl (.int .u32))],shared:=true,pre:=fun(x:(List Int)×Unit)=>sh0 x.1,post:=fun(x:(List Int)×Unit) (r:(List Int)×Unit)=>r.1=nc (nv x.1)}
def A2m:A6:= {args:= [.val false (.sl (.int .u32)), .val false (.sl (.int .u32))],res:= [.val false (.sl (.int .u32))],shared:=true,pre:=fun(x:(List Int)×(List Int)×Unit)=>sh2 x.1/\sh2 x.2.1,post:=fun(x:(List Int)×(List Int)×Unit) (r:(List Int)×Unit)=>r.1=nc (Nat.gcd (nv x.1) (nv x.2.1))}
def U4:A6:= {args:= [.val false (.sl (.int .u32)), .val false (.sl (.int .u32))],res:= [.val false (.sl (.int .u32)), .val false (.sl (.int .u32)), .val false .bool],shared:=true,pre:=fun(x:(List Int)×(List Int)×Unit)=>sh1 x.1,post:=fun(x:(List Int)×(List Int)×Unit) (r:(List Int)×(List Int)×Bool×Unit)=>(nv x.2.1=0->r.1= []/\r.2.1= []/\r.2.2.1=false)/\(nv x.2.1≠0->r.1=nc (nv x.1/nv x.2.1)/\r.2.1=nc (nv x.1%nv x.2.1)/\r.2.2.1=true)}
def U2:A6:= {args:= [.val false .bool, .val false (.sl (.int .u32))],res:= [.val true (.pair .bool (.sl (.int .u32)))],shared:=true,pre:=fun(x:Bool×(List Int)×Unit)=>True,post:=fun(x:Bool×(List Int)×Unit) (r:(Bool×(List Int))×Unit)=>r.1=(x.1&&decide (x.2.1≠ []),x.2.1)}
def A1y:A6:= {args:= [.val false (.sl (.int .u32)), .val false (.sl (.int .u32))],res:= [.val false (.sl (.int .u32))],shared:=true,pre:=fun(x:(List Int)×(List Int)×Unit)=>sh1 x.1/\sh1 x.2.1,post:=fun(x:(List Int)×(List Int)×Unit) (r:(List Int)×Unit)=>r.1=nc (nv x.1+nv x.2.1)}
def A1t:A6:= {args:= [.val false (.sl (.int .u32)), .val false (.sl (.int .u32))],res:= [.val false (.sl (.int .u32)), .val false .bool],shared:=true,pre:=fun(x:(List Int)×(List Int)×Unit)=>sh1 x.1/\sh1 x.2.1,post:=fun(x:(List Int)×(List Int)×Unit) (r:(List Int)×Bool×Unit)=>(nv x.1<nv x.2.1->r.1= []/\r.2.1=false)/\(nv x.2.1<=nv x.1->r.1=nc (nv x.1-nv x.2.1)/\r.2.1=true)}
def A1i:A6:= {args:= [.val false (.sl (.int .u32)), .val false (.sl (.int .u32))],res:= [.val false (.int .i64)],shared:=false,pre:=fun(x:(List Int)×(List Int)×Unit)=>sh1 x.1/\sh1 x.2.1,post:=fun(x:(List Int)×(List Int)×Unit) (r:Int×Unit)=>r.1=B3y (nv x.1) (nv x.2.1)}
def T5:A6:= {args:= [.val false (.int .u64)],res:= [.val false (.sl (.int .u32))],shared:=true,pre:=fun(x:Int×Unit)=>True,post:=fun(x:Int×Unit) (r:(List Int)×Unit)=>r.1=nc x.1.toNat}
def U7:A6:= {args:= [.val true tQ],res:= [.val true tQ],shared:=true,pre:=fun(x:QQ×Unit)=>sh3 x.1,post:=fun(x:QQ×Unit) (r:QQ×Unit)=>r.1=rc (-(rv x.1))}
def R4:A6:= {args:= [.val false (.int .i64), .val false (.int .i64)],res:= [.val false (.int .i64)],shared:=false,pre:=fun(x:Int×Int×Unit)=>True,post:=fun(x:Int×Int×Unit) (r:Int×Unit)=>r.1=A0s x.1 x.2.1}
def A0p:A6:= {args:= [.val true tQ, .val true tQ],res:= [.val true tQ, .val false .bool],shared:=true,pre:=fun(x:QQ×QQ×Unit)=>sh3 x.1/\sh3 x.2.1,post:=fun(x:QQ×QQ×Unit) (r:QQ×Bool×Unit)=>(rv x.2.1=0->r.2.1=false)/\(rv x.2.1≠0->r.1=rc (rv x.1/rv x.2.1)/\r.2.1=true)}
def A4b:A6:= {args:= [.val false (.sl (.int .u32))],res:= [.val false (.int .u64), .val false .bool],shared:=false,pre:=fun(x:(List Int)×Unit)=>sh0 x.1,post:=fun(x:(List Int)×Unit) (r:Int×Bool×Unit)=>(nv x.1<18446744073709551616->r.1=(nv x.1:Int)/\r.2.1=true)/\(18446744073709551616<=nv x.1->r.2.1=false)}
def A8h:A6:= {args:= [.val false (.sl (.int .u32))],res:= [.val false (.int .i64)],shared:=false,pre:=fun(x:(List Int)×Unit)=>sh1 x.1,post:=fun(x:(List Int)×Unit) (r:Int×Unit)=>r.1=(A0j (nv x.1):Int)}
def B5v:A6:= {args:= [.val false (.sl (.int .u32)), .val false (.int .i64)],res:= [.val false (.int .u32)],shared:=false,pre:=fun(x:(List Int)×Int×Unit)=>0<=x.2.1,post:=fun(x:(List Int)×Int×Unit) (r:Int×Unit)=>r.1=((nv x.1/2^x.2.1.toNat%2:Nat):Int)}
def A0i:A6:= {args:= [.val false (.sl (.int .u32))],res:= [.val false (.int .u64)],shared:=false,pre:=fun(x:(List Int)×Unit)=>x.1.length<=2,post:=fun(x:(List Int)×Unit) (r:Int×Unit)=>r.1=(nv x.1:Int)}
def Q9:A6:= {args:= [.val false (.sl (.int .u32)), .val false (.sl (.int .u32))],res:= [.val true (.pair (.int .u64) (.pair (.int .u64) (.pair (.int .u64) (.pair (.int .u64) .bool))))],shared:=false,pre:=fun(x:(List Int)×(List Int)×Unit)=>sh1 x.1/\3<=x.1.length/\B4g x.1/\nv x.2.1<=nv x.1/\x.2.1.length<=x.1.length,post:=fun(x:(List Int)×(List Int)×Unit) (r:(Int×(Int×(Int×(Int×Bool))))×Unit)=>H4l (nv x.1) (nv x.2.1) r.1.1 r.1.2.1 r.1.2.2.1 r.1.2.2.2.1 r.1.2.2.2.2}
def Q7:A6:= {args:= [.val false (.sl (.int .u32)), .val false (.int .u64), .val false (.sl (.int .u32)), .val false (.int .u64)],res:= [.val false (.sl (.int .u32))],shared:=true,pre:=fun(x:(List Int)×Int×(List Int)×Int×Unit)=>sh2 x.1/\sh2 x.2.2.1/\nv x.2.2.1*x.2.2.2.1.toNat<=nv x.1*x.2.1.toNat,post:=fun(x:(List Int)×Int×(List Int)×Int×Unit) (r:(List Int)×Unit)=>r.1=nc (nv x.1*x.2.1.toNat-nv x.2.2.1*x.2.2.2.1.toNat)}
def H0:A6:= {args:= [.val false (.sl (.int .u32)), .val false (.int .u32)],res:= [.val false (.sl (.int .u32)), .val false (.sl (.int .u32))],shared:=true,pre:=fun(x:(List Int)×Int×Unit)=>sh1 x.1/\x.2.1≠0,post:=fun(x:(List Int)×Int×Unit) (r:(List Int)×(List Int)×Unit)=>r.1=nc (nv x.1/x.2.1.toNat)/\r.2.1=nc (nv x.1%x.2.1.toNat)}
def J2:A6:= {args:= [.val false (.sl (.int .u32)), .val false (.sl (.int .u32))],res:= [.val false (.sl (.int .u32)), .val false (.sl (.int .u32))],shared:=true,pre:=fun(x:(List Int)×(List Int)×Unit)=>sh1 x.1/\2<=x.2.1.length/\x.2.1.length<=x.1.length/\B4g x.2.1,post:=fun(x:(List Int)×(List Int)×Unit) (r:(List Int)×(List Int)×Unit)=>r.1=nc (nv x.1/nv x.2.1)/\r.2.1=nc (nv x.1%nv x.2.1)}
def A1m:A6:= {args:= [.val true (.pair .bool (.sl (.int .u32)))],res:= [.val true (.pair .bool (.sl (.int .u32)))],shared:=true,pre:=fun(x:(Bool×(List Int))×Unit)=>sh0 x.1.2,post:=fun(x:(Bool×(List Int))×Unit) (r:(Bool×(List Int))×Unit)=>r.1=ic (-iv x.1)}
def W3:A6:= {args:= [.val false (.int .i64)],res:= [.val false .bool],shared:=false,pre:=fun(x:Int×Unit)=>True,post:=fun(x:Int×Unit) (r:Bool×Unit)=>r.1=false}
def U6:A6:= {args:= [.val true tQ],res:= [.val true tQ, .val false .bool],shared:=true,pre:=fun(x:QQ×Unit)=>sh3 x.1,post:=fun(x:QQ×Unit) (r:QQ×Bool×Unit)=>(rv x.1=0->r.2.1=false)/\(rv x.1≠0->r.1=rc (rv x.1)⁻¹/\r.2.1=true)}
def F8:A6:= {args:= [.val false (.int .u32)],res:= [.val false (.int .i64)],shared:=false,pre:=fun(x:Int×Unit)=>True,post:=fun(x:Int×Unit) (r:Int×Unit)=>r.1=32-(A0j x.1.toNat:Int)}
def T9:A6:= {args:= [.val false (.sl (.int .u32)), .val false (.int .i64), .val false (.int .i64)],res:= [.val false (.int .u64)],shared:=false,pre:=fun(x:(List Int)×Int×Int×Unit)=>3<=x.2.1/\(x.1.length:Int)<=x.2.1/\x.2.1<=17592186044416/\0<=x.2.2.1/\x.2.2.1<=31/\nv x.1*2^x.2.2.1.toNat<4294967296^x.2.1.toNat,post:=fun(x:(List Int)×Int×Int×Unit) (r:Int×Unit)=>r.1=((nv x.1*2^x.2.2.1.toNat/4294967296^(x.2.1.toNat-2):Nat):Int)}
def K3:A6:= {args:= [.val false (.sl (.int .u32)), .val false (.int .i64)],res:= [.own (.int .u32) 70],shared:=false,pre:=fun(x:(List Int)×Int×Unit)=>sh1 x.1/\0<=x.2.1/\x.2.1<=31,post:=fun(x:(List Int)×Int×Unit) (r:(List Int)×Unit)=>r.1.length=x.1.length+1/\nv r.1=nv x.1*2^x.2.1.toNat}
def G6:A6:= {args:= [.val false (.sl (.int .u32)), .val false (.int .i64)],res:= [.val false (.sl (.int .u32)), .val false .bool],shared:=true,pre:=fun(x:(List Int)×Int×Unit)=>sh1 x.1,post:=fun(x:(List Int)×Int×Unit) (r:(List Int)×Bool×Unit)=>(x.2.1<0->r.1= []/\r.2.1=false)/\(0<=x.2.1->r.1=nc (nv x.1/2^x.2.1.toNat)/\r.2.1=true)}
def A3p:A6:= {args:= [.val false (.int .u32)],res:= [.val false (.int .i64)],shared:=false,pre:=fun(x:Int×Unit)=>True,post:=fun(x:Int×Unit) (r:Int×Unit)=>r.1=(A0j x.1.toNat:Int)}
def N6:A6:= {args:= [.val true tQ, .val true tQ],res:= [.val false (.int .i64)],shared:=false,pre:=fun(x:QQ×QQ×Unit)=>sh3 x.1/\sh3 x.2.1,post:=fun(x:QQ×QQ×Unit) (r:Int×Unit)=>r.1=F9y (rv x.1) (rv x.2.1)}
def M9:A6:= {args:= [.val false (.int .i64), .val false (.ptr (.sl (.int .u32)))],res:= [.val false (.int .u64)],shared:=false,pre:=fun(x:Int×(List Int)×Unit)=>0<=x.1,post:=fun(x:Int×(List Int)×Unit) (r:Int×Unit)=>r.1=(if x.1<(x.2.1.length:Int)then x.2.1.getD x.1.toNat 0 else 0)}
def K7:A6:= {args:= [.val false (.int .i64), .val false (.int .i64)],res:= [.val false (.int .i64)],shared:=false,pre:=fun(x:Int×Int×Unit)=>True,post:=fun(x:Int×Int×Unit) (r:Int×Unit)=>r.1=A0s x.1 x.2.1}
def Q6:A6:= {args:= [.val true (.pair .bool (.sl (.int .u32))), .val true (.pair .bool (.sl (.int .u32)))],res:= [.val false (.int .i64)],shared:=false,pre:=fun(x:(Bool×(List Int))×(Bool×(List Int))×Unit)=>True,post:=fun(x:(Bool×(List Int))×(Bool×(List Int))×Unit) (r:Int×Unit)=>r.1=A0s (iv x.1) (iv x.2.1)}
def P7:A6:= {args:= [.val false (.int .i64)],res:= [.val false .bool],shared:=false,pre:=fun(x:Int×Unit)=>True,post:=fun(x:Int×Unit) (r:Bool×Unit)=>r.1=false}
def pR:Nat→Nat→Pl→Pl
 | _,0,k=>k
 |i,n+1,k=> .p i (pR (i+1) n k)
def vI:List CSh:= [.val (.int .i64)]
def vU:List CSh:= [.val (.int .u64)]
def D4o:An:= {loop:= [(2,⟨[0],[],[(3,false,vI)],[],[]⟩)]}
def B5p:An:= {}
def D2s:An:= {loop:= [(3,⟨[6,7],[],[(3,false,vU),(8,false,vI)],[],[]⟩)]}
def C7c:An:= {}
def C4e:An:= {loop:= [(7,⟨[0,1],[],[(5,false,vI)],[],[]⟩)],plan:= [(9,[3,7],[],true,(pR 0 3 (.q 3 (pR 4 3 (.q 7 (.p 8 .done)))))),(11,[3,7],[],true,(pR 0 3 (.q 3 (pR 4 3 (.q 7 (.p 8 .done))))))]}
def D2u:An:= {}
def B8s:A9 X9.args->Prop:=fun(x:List Int×Unit)=>let e:=(1:Int);let c:=(x.1.length:Int);let a:=(0:Int);∃(I:Int×Unit->Prop),∃(μ: _->Nat),I (c,())/\∀(p:Int×Unit),let d:=(i64.wrap (p.1-e),());let b:=(decide (gx a x.1 (i64.wrap (p.1-e))=a));(Ty.int i64).wf p.1/\True->I p->(decide (a<p.1)=true->a<=i64.wrap (p.1-e)/\i64.wrap (p.1-e)<c)/\(sel (decide (a<p.1)) b false=true->I d/\μ d<μ p)/\(sel (decide (a<p.1)) b false=false->(a<=a/\a<=p.1/\p.1<=c)/\List.drop a.toNat (List.take p.1.toNat x.1)=nc (nv x.1))
def A3w:A9 I9.args->Prop:=fun(x:Int×Unit)=>(0:(Ty.int u64).den)<=(32:Int)/\True/\∀(r:List Int×Unit),WfU r.1/\True->r.1=nc (nv [u32.wrap x.1,u32.wrap (Int.fdiv x.1 ((2:Int)^Min.min ((32:Int).toNat) u64.bits))])->r.1=nc x.1.toNat
def B5t:A9 A0i.args->Prop:=fun(x:List Int×Unit)=>let c:=(0:Int);let b:=(x.1.length:Int);∃(I:Int×Int×Unit->Prop),∃(μ: _->Nat),I (c,c,())/\∀(p:Int×Int×Unit),let a:=(u64.wrap (↑(BitVec.ofInt u64.bits p.1|||BitVec.ofInt u64.bits (u64.wrap (u64.wrap (gx c x.1 p.2.1)*(2:Int)^Min.min (i64.wrap (32*p.2.1)).toNat u64.bits))).toNat:Int),i64.wrap (p.2.1+1),());(Ty.int u64).wf p.1/\(Ty.int i64).wf p.2.1/\True->I p->(decide (p.2.1<b)=true->(c<=p.2.1/\p.2.1<b)/\(0:(Ty.int i64).den)<=i64.wrap (32*p.2.1)/\I a/\μ a<μ p)/\(decide (p.2.1<b)=false->p.1=(↑(nv x.1):Int))
def A8w:A9 T6.args->Prop:=fun(x:List Int×Unit)=>let a:=(18446744073709551616:Nat);True/\∀(r:List Int×Unit),let b:Prop:=((2:Int)<(r.1.length:Int));WfU r.1/\True->r.1=nc (nv x.1)->(decide b=true->(nv x.1<a->(0:Int)=(↑(nv x.1):Int)/\false=true)/\(a<=nv x.1->false=false))/\(decide b=false->List.length r.1<=2/\∀(c:Int×Unit),B2m c.1/\True->c.1=(↑(nv r.1):Int)->(nv x.1<a->c.1=(↑(nv x.1):Int)/\true=true)/\(a<=nv x.1->true=false))
def A7f:A9 Q4.args->Prop:=fun(x:List Int×List Int×Unit)=>let i:=(1:Int);let e:=(nv x.1);let d:=(nv x.2.1);let c:=(0:Int);True/\∀(r:List Int×Unit),let a:=(r.1.length:Int);WfU r.1/\True->r.1=nc e->True/\∀(j:List Int×Unit),let b:=(j.1.length:Int);WfU j.1/\True->j.1=nc d->(decide (a≠b)=true->(decide (a<b)=true->(-1:Int)=B3y e d)/\(decide (a<b)=false->i=B3y e d))/\(decide (a≠b)=false->∃(I:Int×Unit->Prop),∃(μ: _->Nat),I (i64.wrap (a-i),())/\∀(p:Int×Unit),let h:Prop:=(gx c j.1 p.1<gx c r.1 p.1);let g:Prop:=(gx c r.1 p.1<gx c j.1 p.1);let f:=(i64.wrap (p.1-i),());(Ty.int i64).wf p.1/\True->I p->(decide (c<=p.1)=true->(c<=p.1/\p.1<a)/\(c<=p.1/\p.1<b)/\(decide g=true->(-1:Int)=B3y e d)/\(decide g=false->(c<=p.1/\p.1<a)/\(c<=p.1/\p.1<b)/\(decide h=true->i=B3y e d)/\(decide h=false->I f/\μ f<μ p)))/\(decide (c<=p.1)=false->c=B3y e d))
def B5x:A9 A0h.args->Prop:=fun(x:List Int×Unit)=>True/\∀(r:List Int×Unit),let a:=(r.1.length:Int);WfU r.1/\True->r.1=nc (nv x.1)->((0:Int)<=a/\a<=a/\(↑(4:Nat):Int)*a<=(281474976710656:Int)/\a<=(9223372036854775807:Int))/\C1f (List.replicate a.toNat (0:Int)) r.1=nc (nv x.1)
theorem C6v (x:A9 X9.args) (hw:awf X9.args x) (_:X9.pre x):B8s x:=by
 obtain⟨l,_⟩:=x;have hl:l.length<=9223372036854775807:=hw.1.1;have hb:A5 l:=A2 hw.1.2;change List Int at l;simp only[B8s];refine⟨fun p=>0<=p.1/\p.1<=(l.length:Int)/\∀i x,p.1.toNat<=i->l[i]? =some x->x=0,fun p=>p.1.toNat,⟨g0d _,g0k _,fun i x hi hx=> ?_⟩, ?_⟩
 . rw[g1u (by simpa using hi)]at hx;cases hx
 rintro⟨n,_⟩ _ ⟨h0,h1,u⟩;change Int at n;simp only at h0 h1 u⊢;refine⟨fun h=> ?_,fun h=> ?_,fun h=> ?_⟩
 . have h:=g0a h;rw[wr (by omega) (by omega)];exact⟨by omega,by omega⟩
 . rw[J5]at h;simp only[g0c,g1y]at h;obtain⟨h3,h4⟩:=h;rw[wr (by omega) (by omega)]at h4⊢;refine⟨⟨by omega,by omega,fun i x hi hx=> ?_⟩,by omega⟩;by_cases he:i=(n-1).toNat
   . subst he;rw[J9 (d:=(0:Int)) (by omega) (by omega)]at hx;cases hx;exact h4
   . exact u i x (by omega) hx
 . refine⟨⟨g0k _,h0,h1⟩, ?_⟩;show(l.take n.toNat).drop 0= _;rw[g3n];refine F7e hb (by omega) u ?_;rw[J5]at h;simp only[g7p,g1r]at h;rcases h with h|h
   . exact .inl (by omega)
   . by_cases hn:n=0
     . exact .inl (by omega)
     . rw[wr (by omega) (by omega)]at h;refine .inr ⟨gx 0 l (n-1), ?_,h⟩;have:=J9 (d:=(0:Int)) (l:=l) (i:=n-1) (by omega) (by omega);rw[<-this];congr 1;omega
theorem A8c (x:A9 I9.args) (hw:awf I9.args x) (_:I9.pre x):A3w x:=by
 obtain⟨v,_⟩:=x;change Int at v;have hv:u64.min<=v/\v<=u64.max:=hw.1;rw[E7n,C7o]at hv;simp only[A3w];refine⟨by decide,trivial, ?_⟩;rintro⟨r,_⟩ _ u;simp only at u⊢;rw[u];congr 1;rw[show Min.min (Int.toNat 32) u64.bits=32 from rfl];simp only[nv,A1l];rw[g2d _ (by decide),show(2:Int)^32=4294967296 from rfl];omega
theorem C1q (x:A9 A0i.args) (hw:awf A0i.args x) (hp:A0i.pre x):B5t x:=by
 obtain⟨l,_⟩:=x;have hb:A5 l:=A2 hw.1.2;have hl:l.length<=2:=hp;change List Int at l;simp only[B5t];refine⟨fun p=>0<=p.2.1/\p.2.1<=(l.length:Int)/\p.1=(nv (l.take p.2.1.toNat):Int),fun p=>((l.length:Int)-p.2.1).toNat,⟨g0k _,g0d _,rfl⟩, ?_⟩;rintro⟨v,i,_⟩ hv ⟨h0,h1,h2⟩;change Int at v i;simp only at h0 h1 h2⊢;refine⟨fun h=> ?_,fun h=> ?_⟩
 . have h:=g0a h;have hg:=C0f hb h0 h;have u:=B0z (l:=l.take i.toNat) fun x hx=>hb x (g2k hx)
   rw[g0q,g2s (by omega)]at u;have hs:=C8v h0 h;rw[wr (a:=32*i) (by omega) (by omega),wr (a:=i+1) (by omega) (by omega),w64 hg.1 (by omega)];have hm:Min.min (32*i).toNat u64.bits=32*i.toNat:=by
    show Min.min (32*i).toNat 64= _;omega
   rw[hm];have hi:i.toNat=0\/i.toNat=1:=by omega
   refine⟨⟨h0,h⟩,by show(0:Int)<=32*i;omega, ?_⟩;have key:u64.wrap (((BitVec.ofInt 64 v|||BitVec.ofInt 64 (u64.wrap (gx 0 l i*2^(32*i.toNat)))).toNat:Nat):Int)=(nv (l.take (i+1).toNat):Int):=by
    rw[hs];generalize gx 0 l i=b at hg;rcases hi with hi|hi
    . rw[hi]at u⊢;have a0:v=0:=by rw[h2,hi];simp[nv]
      rw[w64 (a:=b*2^(32*0)) (by omega) (by omega),E5b (v:=v) (b:=b) (k:=32*0) (by omega) (by omega) hg.1 (by omega) (by omega),w64 (by omega) (by omega)];simp[nv];omega
    . rw[hi]at u⊢;rw[hi]at h2;rw[w64 (a:=b*2^(32*1)) (by omega) (by omega),E5b (v:=v) (b:=b) (k:=32*1) (by omega) (by omega) hg.1 (by omega) (by omega),w64 (by omega) (by omega)];omega
   exact⟨⟨by omega,by omega,key⟩,by omega⟩
 . have h:=g0b h;rw[D9 (by omega)]at h2;exact h2
theorem B7q (x:A9 T6.args) (hw:awf T6.args x) (_:T6.pre x):A8w x:=by
 obtain⟨l,_⟩:=x;change List Int at l;simp only[A8w];refine⟨trivial, ?_⟩;rintro⟨r,_⟩ _ u;simp only at u⊢;subst u;refine⟨fun h=> ?_,fun h=> ?_⟩
 . have h:=g0a h;have:=G7d (k:=2) (n:=nv l) (by omega);refine⟨fun h2=> ?_,fun _=>trivial⟩;rw[show(4294967296:Nat)^2=18446744073709551616 from rfl]at this;omega
 . have h:=g0b h;have a0:(nc (nv l)).length<=2:=by omega
   refine⟨a0, ?_⟩;rintro⟨r,_⟩ _ u;simp only at u⊢;have a1:=g1f (A8p (nv l)) (g1v (by decide) a0);rw[F4]at u;refine⟨fun _=>⟨u,trivial⟩,fun h2=> ?_⟩;rw[show(4294967296:Nat)^2=18446744073709551616 from rfl]at a1;omega
theorem B4q (x:A9 Q4.args) (hw:awf Q4.args x) (_:Q4.pre x):A7f x:=by
 obtain⟨a,b,_⟩:=x;change List Int at a b;simp only[A7f];refine⟨trivial, ?_⟩;rintro⟨r,_⟩ ⟨⟨a3,_⟩,_⟩ hr;simp only at hr a3⊢;subst hr;refine⟨trivial, ?_⟩;rintro⟨s,_⟩ ⟨⟨a4,_⟩,_⟩ hs;simp only at hs a4⊢;subst hs;have ha:=G8 (nv a);have hb:=G8 (nv b);refine⟨fun a1=>⟨fun h=> ?_,fun h=> ?_⟩,fun a1=> ?_⟩
 . have h:=g0a h;exact(B3g (C3d (by omega))).symm
 . have h:=g0b h;have a1:=g0a a1;exact(D9l (C3d (by omega))).symm
 . have a2:(nc (nv a)).length=(nc (nv b)).length:=by have:=g0b a1;omega
   have ea:=F4 (nv a);have eb:=F4 (nv b);generalize nc (nv a)=r at*;generalize nc (nv b)=s at*;rw[<-ea, <-eb];refine⟨fun p=> -1<=p.1/\p.1<(r.length:Int)/\r.drop (p.1+1).toNat=s.drop (p.1+1).toNat,fun p=>(p.1+1).toNat, ?_, ?_⟩
   . rw[wr (by omega) (by omega)];refine⟨by omega,by omega, ?_⟩;rw[g2c (by omega),g2c (by omega)]
   rintro⟨i,_⟩ _ ⟨h0,h1,h2⟩;change Int at i;simp only at h0 h1 h2⊢;refine⟨fun h=> ?_,fun h=> ?_⟩
   . have h:=g0a h;refine⟨⟨h,h1⟩,⟨h,by omega⟩,fun a0=> ?_,fun a0=>⟨⟨h,h1⟩,⟨h,by omega⟩,fun u=> ?_,fun u=> ?_⟩⟩
     . exact(B3g (F1b ha hb a2 h h1 h2 (g0a a0))).symm
     . exact(D9l (F1b hb ha a2.symm h (by omega) h2.symm (g0a u))).symm
     . have a0:=g0b a0;have u:=g0b u;rw[wr (by omega) (by omega)];refine⟨⟨by omega,by omega, ?_⟩,by omega⟩;rw[show i-1+1=i from by omega,S0 h h1,S0 h (by omega),h2,show gx 0 r i=gx 0 s i from by omega]
   . have h:=g0b h;rw[show(i+1).toNat=0 from by omega,g3n,g3n]at h2;rw[h2,E2g]
theorem D1u {α:Type} {l:List α} {d:α} :C1f (List.replicate ((l.length:Nat):Int).toNat d) l=l:=by
 unfold C1f;rw[g1a,g0i,g4y,g2c (by simp),g5h]
theorem C3n (x:A9 A0h.args) (hw:awf A0h.args x) (hp:A0h.pre x):B5x x:=by
 obtain⟨l,_⟩:=x;have hb:A5 l:=A2 hw.1.2;have hl:l.length<=35184372088832:=hp;simp only[B5x];refine⟨trivial, ?_⟩;rintro⟨r,_⟩ _ u;simp only at u⊢;have h1:r.length<=l.length:=by rw[u];exact C0 hb
 refine⟨⟨by omega,g0k _,by simp;omega,by omega⟩, ?_⟩;rw[D1u,u]
def D4l:An:= {join:= [(4,⟨[],[],[(0,false,[.val (.sl (.int .u32))]),(1,false,[.val (.sl (.int .u32))])],[],[]⟩),(12,⟨[0,1,5,7,24,25,26],[0],[(6,false,vU)],[],[]⟩)],loop:= [(7,⟨[0,1,5,24,25],[],[(6,false,vU),(26,false,vI)],[],[(0, .row (.int .u32) 70)]⟩)]}
def D4x:An:= {join:= [(12,⟨[1,6,8,22,23,24],[0],[(10,false,vU)],[],[]⟩)],loop:= [(7,⟨[1,6,22,23],[],[(7,false,vU),(24,false,vI)],[],[(0, .row (.int .u32) 70)]⟩)]}
def D5d:An:= {join:= [(18,⟨[1,5,29,30,31],[],[],[],[(0, .row (.int .u32) 70)]⟩)],loop:= [(11,⟨[1,5,6,7,29,30,31,38,39],[],[(8,false,vU),(40,false,vI)],[],[(0, .row (.int .u32) 70)]⟩),(6,⟨[1,5,29,30],[],[(31,false,vI)],[],[(0, .row (.int .u32) 70)]⟩)]}
def B0f:An:= {loop:= [(4,⟨[0,1,4],[],[(6,false,vU),(7,false,vI)],[],[(0, .row (.int .u32) 70)]⟩)]}
def B3p:An:= {join:= [(15,⟨[0,6,7,8,29,30,31],[0],[(10,false,vU)],[],[]⟩)],loop:= [(10,⟨[0,6,7,29,30],[],[(31,false,vI)],[],[(0, .row (.int .u32) 70)]⟩)]}
def C1u:An:= {loop:= [(4,⟨[0,1,5,13,14],[],[(6,false,vU),(15,false,vI)],[],[(0, .row (.int .u32) 70)]⟩)]}
def B8w:A9 A1y.args->Prop:=fun(x:List Int×List Int×Unit)=>let f:=(1:Int);let c:=(0:Int);True/\∀(r:List Int×Unit),WfU r.1/\True->r.1=nc (nv x.1)->True/\∀(j:List Int×Unit),let e:Prop:=((r.1.length:Int)<(j.1.length:Int));WfU j.1/\True->j.1=nc (nv x.2.1)->∃(J:List Int×List Int×Unit->Prop),((decide e=true->J (j.1,r))/\(decide e=false->J (r.1,j)))/\∀(p:List Int×List Int×Unit),let d:=(p.2.1.length:Int);let a:=(p.1.length:Int);(Ty.int u32).sl.wf p.1/\(Ty.int u32).sl.wf p.2.1/\True->J p->(c<=i64.wrap (a+f)/\i64.wrap (a+f)<=i64.wrap (a+f)/\(↑(4:Nat):Int)*i64.wrap (a+f)<=(281474976710656:Int)/\i64.wrap (a+f)<=(9223372036854775807:Int))/\∃(I:Int×Int×List Int×Unit->Prop),∃(μ: _->Nat),I (c,c,List.replicate (i64.wrap (a+f)).toNat c,())/\∀(i:Int×Int×List Int×Unit),let h:=(gx c p.1 i.2.1);let g:=(i.2.2.1.length:Int);(Ty.int u64).wf i.1/\(Ty.int i64).wf i.2.1/\WfU i.2.2.1/\True->I i->(decide (i.2.1<a)=true->(c<=i.2.1/\i.2.1<a)/\∃(J:Int×Unit->Prop),((decide (i.2.1<d)=true->(c<=i.2.1/\i.2.1<d)/\J (u64.wrap (u64.wrap (i.1+u64.wrap h)+u64.wrap (gx c p.2.1 i.2.1)),()))/\(decide (i.2.1<d)=false->J (u64.wrap (i.1+u64.wrap h),())))/\∀(p:Int×Unit),let b:=(Int.fdiv p.1 ((2:Int)^Min.min ((32:Int).toNat) u64.bits),i64.wrap (i.2.1+f),List.set i.2.2.1 i.2.1.toNat (u32.wrap p.1),());(Ty.int u64).wf p.1/\True->J p->(c<=i.2.1/\i.2.1<g)/\(0:(Ty.int u64).den)<=(32:Int)/\I b/\μ b<μ i)/\(decide (i.2.1<a)=false->(c<=a/\a<g)/\True/\∀(r:List Int×Unit),WfU r.1/\True->r.1=nc (nv (List.set i.2.2.1 a.toNat (u32.wrap i.1)))->r.1=nc (nv x.1+nv x.2.1))
def B9e:A9 A1t.args->Prop:=fun(x:List Int×List Int×Unit)=>let f:=(nv x.1-nv x.2.1);let c:=(0:Int);True/\∀(r:List Int×Unit),let a:=(r.1.length:Int);WfU r.1/\True->r.1=nc (nv x.1)->True/\∀(g:List Int×Unit),let d:=(g.1.length:Int);WfU g.1/\True->g.1=nc (nv x.2.1)->True/\∀(h:Int×Unit),G1 h.1/\True->h.1=B3y (nv r.1) (nv g.1)->(decide (h.1<c)=true->(nv x.1<nv x.2.1->B2r Int= []/\false=false)/\(nv x.2.1<=nv x.1->B2r Int=nc f/\false=true))/\(decide (h.1<c)=false->(c<=a/\a<=a/\(↑(4:Nat):Int)*a<=(281474976710656:Int)/\a<=(9223372036854775807:Int))/\∃(I:Int×Int×List Int×Unit->Prop),∃(μ: _->Nat),I (c,c,List.replicate a.toNat c,())/\∀(p:Int×Int×List Int×Unit),let e:=(u64.wrap (gx c r.1 p.2.1)-p.1);(Ty.int u64).wf p.1/\(Ty.int i64).wf p.2.1/\WfU p.2.2.1/\True->I p->(decide (p.2.1<a)=true->(c<=p.2.1/\p.2.1<a)/\∃(J:Int×Unit->Prop),((decide (p.2.1<d)=true->(c<=p.2.1/\p.2.1<d)/\J (u64.wrap (u64.wrap e-u64.wrap (gx c g.1 p.2.1)),()))/\(decide (p.2.1<d)=false->J (u64.wrap e,())))/\∀(i:Int×Unit),let b:=(Int.fdiv i.1 ((2:Int)^Min.min ((63:Int).toNat) u64.bits),i64.wrap (p.2.1+1),List.set p.2.2.1 p.2.1.toNat (u32.wrap i.1),());(Ty.int u64).wf i.1/\True->J i->(c<=p.2.1/\p.2.1<(p.2.2.1.length:Int))/\(0:(Ty.int u64).den)<=(63:Int)/\I b/\μ b<μ p)/\(decide (p.2.1<a)=false->True/\∀(r:List Int×Unit),WfU r.1/\True->r.1=nc (nv p.2.2.1)->(nv x.1<nv x.2.1->r.1= []/\true=false)/\(nv x.2.1<=nv x.1->r.1=nc f/\true=true)))
def B8t:A9 A2n.args->Prop:=fun(x:List Int×List Int×Unit)=>let j:=(nv x.1*nv x.2.1);let e:=(0:Int);True/\∀(r:List Int×Unit),let c:=(r.1.length:Int);WfU r.1/\True->r.1=nc (nv x.1)->True/\∀(l:List Int×Unit),let b:=(l.1.length:Int);WfU l.1/\True->l.1=nc (nv x.2.1)->(sel (decide (c=e)) true (decide (b=e))=true->B2r Int=nc j)/\(sel (decide (c=e)) true (decide (b=e))=false->(e<=i64.wrap (c+b)/\i64.wrap (c+b)<=i64.wrap (c+b)/\(↑(4:Nat):Int)*i64.wrap (c+b)<=(281474976710656:Int)/\i64.wrap (c+b)<=(9223372036854775807:Int))/\∃(I:Int×List Int×Unit->Prop),∃(μ: _->Nat),I (e,List.replicate (i64.wrap (c+b)).toNat e,())/\∀(p:Int×List Int×Unit),(Ty.int i64).wf p.1/\WfU p.2.1/\True->I p->(decide (p.1<c)=true->∃(J:List Int×Unit->Prop),((e<=p.1/\p.1<c)/\(decide (gx e r.1 p.1=e)=true->J (p.2.1,()))/\(decide (gx e r.1 p.1=e)=false->∃(I:Int×Int×List Int×Unit->Prop),∃(μ: _->Nat),I (e,e,p.2.1,())/\∀(k:Int×Int×List Int×Unit),let i:=(i64.wrap (p.1+k.2.1));let h:=(k.2.2.1.length:Int);let f:Prop:=(e<=i64.wrap (p.1+k.2.1)/\i64.wrap (p.1+k.2.1)<h);let a:=(u64.wrap (k.1+u64.wrap (u64.wrap (u64.wrap (gx e r.1 p.1)*u64.wrap (gx e l.1 k.2.1))+u64.wrap (List.getD k.2.2.1 i.toNat e))));let d:=(a.fdiv ((2:Int)^Min.min ((32:Int).toNat) u64.bits),i64.wrap (k.2.1+1),List.set k.2.2.1 i.toNat (u32.wrap a),());(Ty.int u64).wf k.1/\(Ty.int i64).wf k.2.1/\WfU k.2.2.1/\True->I k->(decide (k.2.1<b)=true->(e<=k.2.1/\k.2.1<b)/\f/\f/\(0:(Ty.int u64).den)<=(32:Int)/\I d/\μ d<μ k)/\(decide (k.2.1<b)=false->(e<=i64.wrap (p.1+b)/\i64.wrap (p.1+b)<h)/\J (List.set k.2.2.1 (i64.wrap (p.1+b)).toNat (u32.wrap k.1),()))))/\∀(k:List Int×Unit),let g:=(i64.wrap (p.1+1),k);WfU k.1/\True->J k->I g/\μ g<μ p)/\(decide (p.1<c)=false->True/\∀(r:List Int×Unit),WfU r.1/\True->r.1=nc (nv p.2.1)->r.1=nc j))
def A1z:A9 H0.args->Prop:=fun(x:List Int×Int×Unit)=>let e:=(u64.wrap x.2.1);let d:=(0:Int);let c:=(x.1.length:Int);(d<=c/\c<=c/\(↑(4:Nat):Int)*c<=(281474976710656:Int)/\c<=(9223372036854775807:Int))/\∃(I:Int×Int×List Int×Unit->Prop),∃(μ: _->Nat),I (d,i64.wrap (c-(1:Int)),List.replicate c.toNat d,())/\∀(p:Int×Int×List Int×Unit),let a:=(u64.wrap (↑(BitVec.ofInt u64.bits (u64.wrap (p.1*2^Min.min ((32:Int).toNat) u64.bits)) |||BitVec.ofInt u64.bits (u64.wrap (gx d x.1 p.2.1))).toNat:Int));let b:=(a.tmod e,i64.wrap (p.2.1-1),List.set p.2.2.1 p.2.1.toNat (u32.wrap (u64.wrap (a.tdiv e))),());(Ty.int u64).wf p.1/\(Ty.int i64).wf p.2.1/\WfU p.2.2.1/\True->I p->(decide (d<=p.2.1)=true->(0:(Ty.int u64).den)<=(32:Int)/\(d<=p.2.1/\p.2.1<c)/\u64.wrap x.2.1≠d/\(d<=p.2.1/\p.2.1<(p.2.2.1.length:Int))/\u64.wrap x.2.1≠d/\I b/\μ b<μ p)/\(decide (d<=p.2.1)=false->True/\∀(r:List Int×Unit),WfU r.1/\True->r.1=nc (nv p.2.2.1)->True/\∀(f:List Int×Unit),WfU f.1/\True->f.1=nc p.1.toNat->r.1=nc (nv x.1/x.2.1.toNat)/\f.1=nc (nv x.1%x.2.1.toNat))
def A3u:A9 G6.args->Prop:=fun(x:List Int×Int×Unit)=>let i:=(1:Int);let g:=(nv x.1/(2:Nat)^x.2.1.toNat);let f:=(32:Int);let e:=(i64.wrap (Int.tdiv x.2.1 f));let d:=(0:Int);(decide (x.2.1<d)=true->(x.2.1<d->B2r Int= []/\false=false)/\(d<=x.2.1->B2r Int=nc g/\false=true))/\(decide (x.2.1<d)=false->True/\∀(r:List Int×Unit),let b:=(r.1.length:Int);let j:Prop:=(b<=i64.wrap (Int.tdiv x.2.1 f));let a:=(↑(List.drop e.toNat (List.take b.toNat r.1)).length:Int);WfU r.1/\True->r.1=nc (nv x.1)->f≠d/\(decide j=true->(x.2.1<d->B2r Int= []/\true=false)/\(d<=x.2.1->B2r Int=nc g/\true=true))/\(decide j=false->f≠d/\(d<=i64.wrap (Int.tdiv x.2.1 f)/\i64.wrap (Int.tdiv x.2.1 f)<=b/\b<=b)/\f≠d/\(d<=a/\a<=a/\(↑(4:Nat):Int)*a<=(281474976710656:Int)/\a<=(9223372036854775807:Int))/\∃(I:Int×List Int×Unit->Prop),∃(μ: _->Nat),I (d,List.replicate a.toNat d,())/\∀(p:Int×List Int×Unit),let k:Prop:=(i64.wrap (p.1+i)<a);let h:=(gx d (List.drop e.toNat (List.take b.toNat r.1)) p.1);(Ty.int i64).wf p.1/\WfU p.2.1/\True->I p->(decide (p.1<a)=true->(d<=p.1/\p.1<a)/\∃(J:Int×Unit->Prop),((decide k=true->(d<=i64.wrap (p.1+i)/\i64.wrap (p.1+i)<a)/\(0:(Ty.int u64).den)<=f/\J (u64.wrap (↑(BitVec.ofInt u64.bits (u64.wrap h) |||BitVec.ofInt u64.bits (u64.wrap (u64.wrap (gx d (List.drop e.toNat (List.take b.toNat r.1)) (i64.wrap (p.1+i)))*(2:Int)^Min.min f.toNat u64.bits))).toNat:Int),()))/\(decide k=false->J (u64.wrap h,())))/\∀(l:Int×Unit),let c:=(i64.wrap (p.1+i),List.set p.2.1 p.1.toNat (u32.wrap (Int.fdiv l.1 ((2:Int)^Min.min (Int.tmod x.2.1 f).toNat u64.bits))),());(Ty.int u64).wf l.1/\True->J l->(0:(Ty.int i64).den)<=Int.tmod x.2.1 f/\(d<=p.1/\p.1<(p.2.1.length:Int))/\I c/\μ c<μ p)/\(decide (p.1<a)=false->True/\∀(r:List Int×Unit),WfU r.1/\True->r.1=nc (nv p.2.1)->(x.2.1<d->r.1= []/\true=false)/\(d<=x.2.1->r.1=nc g/\true=true))))
def A6v:A9 K3.args->Prop:=fun(x:List Int×Int×Unit)=>let f:=(1:Int);let d:=(0:Int);let b:=(x.1.length:Int);(d<=i64.wrap (b+f)/\i64.wrap (b+f)<=i64.wrap (b+f)/\(↑(4:Nat):Int)*i64.wrap (b+f)<=(281474976710656:Int)/\i64.wrap (b+f)<=(9223372036854775807:Int))/\∃(I:Int×Int×List Int×Unit->Prop),∃(μ: _->Nat),I (d,d,List.replicate (i64.wrap (b+f)).toNat d,())/\∀(p:Int×Int×List Int×Unit),let g:=(p.2.2.1.length:Int);let e:=(List.set p.2.2.1 b.toNat (u32.wrap p.1));let a:=(u64.wrap (↑(BitVec.ofInt u64.bits p.1|||BitVec.ofInt u64.bits (u64.wrap (u64.wrap (gx d x.1 p.2.1)*(2:Int)^Min.min x.2.1.toNat u64.bits))).toNat:Int));let c:=(a.fdiv ((2:Int)^Min.min ((32:Int).toNat) u64.bits),i64.wrap (p.2.1+f),List.set p.2.2.1 p.2.1.toNat (u32.wrap a),());(Ty.int u64).wf p.1/\(Ty.int i64).wf p.2.1/\WfU p.2.2.1/\True->I p->(decide (p.2.1<b)=true->(d<=p.2.1/\p.2.1<b)/\(0:(Ty.int i64).den)<=x.2.1/\(d<=p.2.1/\p.2.1<g)/\(0:(Ty.int u64).den)<=(32:Int)/\I c/\μ c<μ p)/\(decide (p.2.1<b)=false->(d<=b/\b<g)/\e.length=x.1.length+(1:Nat)/\nv e=nv x.1*2^x.2.1.toNat)
theorem F4v (v:Int) (_:0<=v):Int.fdiv v (2^Min.min (Int.toNat 32) u64.bits)=v/4294967296:=by
 rw[show Min.min (Int.toNat 32) u64.bits=32 from rfl,g2d _ (by decide)];rfl
theorem H1t (v:Int) (_:0<=v):Int.fdiv v (2^Min.min (Int.toNat 63) u64.bits)=v/9223372036854775808:=by
 rw[show Min.min (Int.toNat 63) u64.bits=63 from rfl,g2d _ (by decide)];rfl
theorem D2k {v b:Int} {k:Nat} (v0:0<=v) (v1:v<2^k) (b0:0<=b) (hb:b*2^k<18446744073709551616) (u:v<18446744073709551616):(((BitVec.ofInt 64 (b*2^k) |||BitVec.ofInt 64 v).toNat:Nat):Int)=v+b*2^k:=by
 rw[BitVec.or_comm];exact E5b v0 v1 b0 hb u
theorem C6d (x:A9 A1y.args) (hw:awf A1y.args x) (hp:A1y.pre x):B8w x:=by
 obtain⟨a,b,_⟩:=x;have ha:A5 a:=A2 hw.1.2;have hb:A5 b:=A2 hw.2.1.2;change List Int at a b;obtain⟨la,lb⟩:a.length<=17592186044416/\b.length<=17592186044416:=hp;have n1:=C0 ha;have n2:=C0 hb;simp only[B8w];refine⟨trivial, ?_⟩;rintro⟨r,_⟩ _ hr;refine⟨trivial, ?_⟩;rintro⟨s,_⟩ _ hs;simp only at hr hs⊢;subst hr hs;refine⟨fun p=>p.2.1.length<=p.1.length/\p.1.length<=17592186044416/\nv p.1+nv p.2.1=nv a+nv b,⟨fun h=> ?_,fun h=> ?_⟩, ?_⟩
 . have h:=g0a h;refine⟨by show(nc (nv a)).length<=(nc (nv b)).length;omega,by show(nc (nv b)).length<= _;omega, ?_⟩;show nv (nc (nv b))+nv (nc (nv a))= _;rw[F4,F4,g5n]
 . have h:=g0b h;refine⟨by show(nc (nv b)).length<=(nc (nv a)).length;omega,by show(nc (nv a)).length<= _;omega, ?_⟩;show nv (nc (nv a))+nv (nc (nv b))= _;rw[F4,F4]
 rintro⟨P,Q,_⟩ ⟨a1,a2,_⟩ ⟨g1,g2,g3⟩;change List Int at P Q;simp only at g1 g2 g3⊢;have hP:A5 P:=A2 a1.2;have hQ:A5 Q:=A2 a2.2;rw[wr (a:=(P.length:Int)+1) (by omega) (by omega)];refine⟨⟨by omega,g0k _,by simp;omega,by omega⟩, ?_⟩;refine⟨fun p=>0<=p.2.1/\p.2.1<=(P.length:Int)/\0<=p.1/\p.1<=1/\p.2.2.1.length=P.length+1/\nv (p.2.2.1.take p.2.1.toNat)+4294967296^p.2.1.toNat*p.1.toNat=nv (P.take p.2.1.toNat)+nv (Q.take p.2.1.toNat),fun p=>((P.length:Int)-p.2.1).toNat,⟨g0k _,g0d _,g0k _,by show(0:Int)<=1;omega,by rw[g1a];omega,by simp[nv]⟩, ?_⟩;rintro⟨c,i,out,_⟩ ⟨_,_,a3,_⟩ ⟨u,h1,h2,h3,h4,h5⟩;change Int at c i;change List Int at out;simp only at u h1 h2 h3 h4 h5⊢;have dP:=R6 hP i.toNat;have dQ:=R6 hQ i.toNat;refine⟨fun h'=> ?_,fun h'=> ?_⟩
 . have h:i<(P.length:Int):=g0a h';rw[A8l hP u h,w64 (a:=(dg P i.toNat:Int)) (by omega) (by omega),w64 (a:=c+(dg P i.toNat:Int)) (by omega) (by omega)];refine⟨⟨u,h⟩,fun p=>p.1=c+(dg P i.toNat:Int)+(dg Q i.toNat:Int),⟨fun hi=> ?_,fun hi=> ?_⟩, ?_⟩
   . have hi:=g0a hi;refine⟨⟨u,hi⟩, ?_⟩;show u64.wrap _= _;rw[A8l hQ u hi,w64 (a:=(dg Q i.toNat:Int)) (by omega) (by omega),w64 (by omega) (by omega)]
   . have hi:=g0b hi;show c+(dg P i.toNat:Int)= _;rw[B8u (l:=Q) (by omega)];omega
   rintro⟨c2,_⟩ _ a0;change Int at c2;simp only at a0⊢;subst a0;refine⟨⟨u,by omega⟩,by decide, ?_⟩;rw[F4v _ (by omega),wr (by omega) (by omega),A1l];refine⟨⟨by omega,by omega,by omega,by omega,by rw[g0j];exact h4, ?_⟩,by omega⟩;rw[show(i+1).toNat=i.toNat+1 from by omega,N0 (by omega),G3 P,G3 Q,g2a];exact E3z h5 (by omega)
 . have h:=g0b h';refine⟨⟨by omega,by omega⟩,trivial, ?_⟩;rintro⟨r,_⟩ _ hr;simp only at hr⊢;rw[hr];congr 1;rw[show i.toNat=P.length from by omega,g0o (g0w P.length),g0o g1]at h5;rw[g0i,w32 (by omega) (by omega)];have e:=N0 (l:=out) (i:=P.length) (v:=c) (by omega);rw[g0o (by rw[g0j];omega)]at e;rw[e,h5,g3]
theorem C7w (x:A9 A1t.args) (hw:awf A1t.args x) (hp:A1t.pre x):B9e x:=by
 obtain⟨a,b,_⟩:=x;have ha:A5 a:=A2 hw.1.2;have hb:A5 b:=A2 hw.2.1.2;change List Int at a b;obtain⟨la,lb⟩:a.length<=17592186044416/\b.length<=17592186044416:=hp;have n1:=C0 ha;have n2:=C0 hb;simp only[B9e];refine⟨trivial, ?_⟩;rintro⟨r,_⟩ _ hr;refine⟨trivial, ?_⟩;rintro⟨s,_⟩ _ hs;refine⟨trivial, ?_⟩;rintro⟨d,_⟩ _ hd;simp only at hr hs hd⊢;rw[hr,hs,F4,F4]at hd;subst hd;refine⟨fun h=> ?_,fun h=> ?_⟩
 . have h:=g0a h;refine⟨fun _=>⟨by trivial,by trivial⟩,fun u=> ?_⟩;unfold B3y at h;rw[g0u (by omega)]at h;split at h<;>omega
 . have h:=g0b h;have u:nv b<=nv a:=by
    rcases g2i (nv a) (nv b)with h1|h1
    . rw[B3g h1]at h;omega
    . exact h1
   have a1:A5 r:=hr▸G8 _;have a3:A5 s:=hs▸G8 _;have a2:nv r=nv a:=by rw[hr,F4]
   have a4:nv s=nv b:=by rw[hs,F4]
   have a8:r.length<=a.length:=by rw[hr];exact n1
   have a5:s.length<=r.length:=by rw[hr,hs];exact H7 u
   rw[<-a2, <-a4]at u⊢;clear hr hs a2 a4;refine⟨⟨by omega,g0k _,by simp;omega,by omega⟩, ?_⟩;refine⟨fun p=>0<=p.2.1/\p.2.1<=(r.length:Int)/\0<=p.1/\p.1<=1/\p.2.2.1.length=r.length/\nv (r.take p.2.1.toNat)+4294967296^p.2.1.toNat*p.1.toNat=nv (p.2.2.1.take p.2.1.toNat)+nv (s.take p.2.1.toNat),fun p=>((r.length:Int)-p.2.1).toNat,⟨g0k _,g0d _,g0k _,by show(0:Int)<=1;omega,by simp,by simp[nv]⟩, ?_⟩;rintro⟨c,i,out,_⟩ ⟨_,_,a6,_⟩ ⟨h0,h1,h2,h3,h4,h5⟩;change Int at c i;change List Int at out;simp only at h0 h1 h2 h3 h4 h5⊢;have ho:A5 out:=A2 a6.2;have da:=R6 a1 i.toNat;have db:=R6 a3 i.toNat;refine⟨fun h'=> ?_,fun h'=> ?_⟩
   . have h:i<(r.length:Int):=g0a h';rw[A8l a1 h0 h,w64 (a:=(dg r i.toNat:Int)) (by omega) (by omega)];refine⟨⟨h0,h⟩,fun p=>p.1=((dg r i.toNat:Int)-c-(dg s i.toNat:Int))%18446744073709551616,⟨fun hi=> ?_,fun hi=> ?_⟩, ?_⟩
     . have hi:=g0a hi;refine⟨⟨h0,hi⟩, ?_⟩;show u64.wrap _= _;rw[A8l a3 h0 hi,w64 (a:=(dg s i.toNat:Int)) (by omega) (by omega),A1u,A1u];omega
     . have hi:=g0b hi;show u64.wrap _= _;rw[B8u (l:=s) (by omega),A1u];omega
     rintro⟨d,_⟩ _ hd;change Int at d;simp only at hd⊢;refine⟨⟨h0,by omega⟩,by decide, ?_⟩;rw[H1t _ (by omega),wr (by omega) (by omega),A1l];refine⟨⟨by omega,by omega,by omega,by omega,by rw[g0j];exact h4, ?_⟩,by omega⟩;rw[show(i+1).toNat=i.toNat+1 from by omega,N0 (by omega),G3 r,G3 s,g2a];exact D6d h5 (by omega)
   . have h:=g0b h';refine⟨trivial, ?_⟩;rintro⟨q,_⟩ _ hq;simp only at hq⊢;refine⟨fun a7=>by omega,fun _=>⟨?_,by trivial⟩⟩;rw[hq];congr 1;rw[show i.toNat=r.length from by omega,g0o (g0w _),g0o (by omega),g0o a5]at h5;have a0:nv out<4294967296^out.length:=B0z ho;rw[h4]at a0;have hc:c.toNat=0:=C4z (P:=4294967296^r.length) (x:=nv out) (by omega) a0;rw[hc,g5z,g2x]at h5;omega
theorem C5o (x:A9 A2n.args) (hw:awf A2n.args x) (hp:A2n.pre x):B8t x:=by
 obtain⟨a0,b0,_⟩:=x;have a6:A5 a0:=A2 hw.1.2;have a7:A5 b0:=A2 hw.2.1.2;change List Int at a0 b0;obtain⟨ab,ac⟩:a0.length<=17592186044416/\b0.length<=17592186044416:=hp;have n1:=C0 a6;have n2:=C0 a7;simp only[B8t];refine⟨trivial, ?_⟩;rintro⟨a,_⟩ _ u;refine⟨trivial, ?_⟩;rintro⟨b,_⟩ _ a1;simp only at u a1⊢;have ha:A5 a:=u▸G8 _;have hb:A5 b:=a1▸G8 _;have la:a.length<=17592186044416:=by rw[u];omega
 have lb:b.length<=17592186044416:=by rw[a1];omega
 have va:nv a=nv a0:=by rw[u,F4]
 have vb:nv b=nv b0:=by rw[a1,F4]
 rw[<-va, <-vb];clear u a1 va vb n1 n2;refine⟨fun h=> ?_,fun _=> ?_⟩
 . rw[M5]at h;simp only[g4g,g1y]at h;have:nv a*nv b=0:=by
    rcases h with h|h
    . rw[g0m (l:=a) (by omega)];simp[nv]
    . rw[g0m (l:=b) (by omega)];simp[nv]
   rw[this,O4]
 have em:i64.wrap ((a.length:Int)+(b.length:Int))=((a.length+b.length:Nat):Int):=by
  rw[wr (by omega) (by omega)];omega
 rw[em];refine⟨⟨by omega,g0k _,by simp;omega,by omega⟩, ?_⟩;refine⟨fun p=>0<=p.1/\p.1<=(a.length:Int)/\p.2.1.length=a.length+b.length/\nv p.2.1=nv (a.take p.1.toNat)*nv b/\∀j,p.1.toNat+b.length<=j->dg p.2.1 j=0,fun p=>((a.length:Int)-p.1).toNat,⟨g0k _,g0d _,by rw[g1a,g0i],by simp[nv,B6g],fun j _=>C8o _ _⟩, ?_⟩;rintro⟨i,out,_⟩ ⟨_,aa,_⟩ ⟨h0,h1,h2,h3,h4⟩;change Int at i;change List Int at out;simp only at h0 h1 h2 h3 h4⊢;refine⟨fun h'=> ?_,fun h'=> ?_⟩
 . have h:i<(a.length:Int):=g0a h';have da:=R6 ha i.toNat;rw[A8l ha h0 h];refine⟨fun p=>p.1.length=a.length+b.length/\nv p.1=nv (a.take (i.toNat+1))*nv b/\∀j,i.toNat+1+b.length<=j->dg p.1 j=0,⟨⟨h0,h⟩,fun hz=> ?_,fun hz=> ?_⟩, ?_⟩
   . have hz:(dg a i.toNat:Int)=0:=g0a hz;refine⟨h2, ?_,fun j hj=>h4 j (by omega)⟩;show nv out= _;rw[h3,G3,show dg a i.toNat=0 from by omega,g5z,g2x]
   . refine⟨fun p=>0<=p.2.1/\p.2.1<=(b.length:Int)/\0<=p.1/\p.1<=4294967295/\p.2.2.1.length=a.length+b.length/\nv p.2.2.1+4294967296^(i.toNat+p.2.1.toNat)*p.1.toNat=nv out+4294967296^i.toNat*(dg a i.toNat*nv (b.take p.2.1.toNat))/\∀j,i.toNat+b.length<=j->dg p.2.2.1 j=0,fun p=>((b.length:Int)-p.2.1).toNat,⟨g0k _,g0d _,g0k _,by show(0:Int)<=4294967295;omega,h2,by simp[nv],h4⟩, ?_⟩;rintro⟨c,j,o,_⟩ ⟨_,_,a4,_⟩ ⟨g0,g1,g2,g3,g4,g5,g6⟩;change Int at c j;change List Int at o;simp only at g0 g1 g2 g3 g4 g5 g6⊢;have a3:A5 o:=A2 a4.2;refine⟨fun a2=> ?_,fun a2=> ?_⟩
     . have hj:j<(b.length:Int):=g0a a2;have db:=R6 hb j.toNat;rw[wr (a:=i+j) (by omega) (by omega)];refine⟨⟨g0,hj⟩,⟨by omega,by omega⟩,⟨by omega,by omega⟩,by decide, ?_⟩;rw[A8l hb g0 hj,Y5 a3,show(i+j).toNat=i.toNat+j.toNat from by omega];have dk:=R6 a3 (i.toNat+j.toNat);have hm:dg a i.toNat*dg b j.toNat<=4294967295*4294967295:=g8a da db;have a9:(dg a i.toNat:Int)*(dg b j.toNat:Int)=((dg a i.toNat*dg b j.toNat:Nat):Int):=(g4c _ _).symm;rw[w64 (a:=(dg a i.toNat:Int)) (by omega) (by omega),w64 (a:=(dg b j.toNat:Int)) (by omega) (by omega),w64 (a:=(dg o (i.toNat+j.toNat):Int)) (by omega) (by omega),a9];generalize a5:dg a i.toNat*dg b j.toNat=M at hm;rw[w64 (a:=(M:Int)) (by omega) (by omega),w64 (a:=(M:Int)+(dg o (i.toNat+j.toNat):Int)) (by omega) (by omega),w64 (by omega) (by omega),F4v _ (by omega),wr (by omega) (by omega),A1l];refine⟨⟨by omega,by omega,by omega,by omega,by rw[g0j];exact g4, ?_,fun q hq=> ?_⟩,by omega⟩
       . have hs:=B1l (l:=o) (k:=i.toNat+j.toNat) (v:=(c+((M:Int)+(dg o (i.toNat+j.toNat):Int)))%4294967296) (by omega);rw[show(j+1).toNat=j.toNat+1 from by omega,G3 b, <-g3z i.toNat,g2a,g3e (dg a i.toNat)];have e1:dg a i.toNat*(4294967296^j.toNat*dg b j.toNat)=4294967296^j.toNat*M:=by rw[<-a5,g9g]
         rw[e1,g3e (4294967296^i.toNat), <-g2m (4294967296^i.toNat) (4294967296^j.toNat), <-g4l, <-g3z (nv out), <-g5];generalize 4294967296^(i.toNat+j.toNat)=P at*;have hd:((c+((M:Int)+(dg o (i.toNat+j.toNat):Int)))%4294967296).toNat+4294967296*((c+((M:Int)+(dg o (i.toNat+j.toNat):Int)))/4294967296).toNat=c.toNat+dg o (i.toNat+j.toNat)+M:=by omega
         have a8:=g3q (P* ·) hd;simp only[g3e, <-g2m]at a8;omega
       . rw[C8n (by omega),g0u (by omega)];exact g6 q hq
     . have hj:=g0b a2;rw[wr (a:=i+(b.length:Int)) (by omega) (by omega),w32 g2 g3];refine⟨⟨by omega,by omega⟩,⟨by show(o.set _ _).length= _;rw[g0j];exact g4, ?_,fun q hq=> ?_⟩⟩
       . show nv (o.set _ _)= _;have hs:=B1l (l:=o) (k:=(i+(b.length:Int)).toNat) (v:=c) (by omega);rw[g6 _ (by omega),g5z,g2x]at hs;rw[hs,show(i+(b.length:Int)).toNat=i.toNat+b.length from by omega];rw[show j.toNat=b.length from by omega,g0o (g0w b.length)]at g5;rw[g5,G3,g4a,h3,g2m]
       . show dg (o.set _ _) q=0;rw[C8n (by omega),g0u (by omega)];exact g6 q (by omega)
   . rintro⟨o,_⟩ _ ⟨k1,k2,k3⟩;simp only at k1 k2 k3⊢;rw[wr (by omega) (by omega),show(i+1).toNat=i.toNat+1 from by omega];exact⟨⟨by omega,by omega,k1,k2,k3⟩,by omega⟩
 . have h:=g0b h';refine⟨trivial, ?_⟩;rintro⟨r,_⟩ _ hr;simp only at hr⊢;rw[hr,h3,g0o (by omega)]
theorem A6n (x:A9 H0.args) (hw:awf H0.args x) (hp:H0.pre x):A1z x:=by
 obtain⟨l,d,_⟩:=x;have hl:A5 l:=A2 hw.1.2;change List Int at l;change Int at d;have hd:u32.min<=d/\d<=u32.max:=hw.2.1;rw[E1y,D8m]at hd;obtain⟨ll,d0⟩:l.length<=17592186044416/\d≠0:=hp;simp only[A1z];have wd:u64.wrap d=d:=w64 (by omega) (by omega);rw[wd,wr (a:=(l.length:Int)-1) (by omega) (by omega)];refine⟨⟨by omega,g0k _,by simp;omega,by omega⟩, ?_⟩;refine⟨fun p=> -1<=p.2.1/\p.2.1<(l.length:Int)/\0<=p.1/\p.1<d/\p.2.2.1.length=l.length/\nv (l.drop (p.2.1+1).toNat)=nv (p.2.2.1.drop (p.2.1+1).toNat)*d.toNat+p.1.toNat,fun p=>(p.2.1+1).toNat,⟨by show(-1:Int)<=(l.length:Int)-1;omega,by show(l.length:Int)-1< _;omega,g0k _,by show(0:Int)<d;omega,by simp, ?_⟩, ?_⟩
 . show nv (l.drop ((l.length:Int)-1+1).toNat)=nv ((List.replicate _ 0).drop ((l.length:Int)-1+1).toNat)* _ + _;rw[g2c (by omega),g2c (by rw[g1a];omega)];simp[nv]
 rintro⟨rest,i,q,_⟩ _ ⟨h0,h1,h2,h3,h4,h5⟩;change Int at rest i;change List Int at q;simp only at h0 h1 h2 h3 h4 h5⊢;refine⟨fun h'=> ?_,fun h'=> ?_⟩
 . have h:0<=i:=g0a h';have a0:=C0f hl h h1;have a4:=S0 (l:=l) h h1;rw[show Min.min (Int.toNat 32) u64.bits=32 from rfl];generalize gx 0 l i=b at*;have e1:u64.wrap (rest*2^32)=rest*2^32:=w64 (by omega) (by omega);have e2:u64.wrap b=b:=w64 (by omega) (by omega);have e3:(((BitVec.ofInt u64.bits (rest*2^32) |||BitVec.ofInt u64.bits b).toNat:Nat):Int)=b+rest*4294967296:=D2k (v:=b) (b:=rest) (k:=32) a0.1 (by omega) h2 (by omega) (by omega);rw[e1,e2,e3,w64 (a:=b+rest*4294967296) (by omega) (by omega),wr (a:=i-1) (by omega) (by omega)];have a1:0<=b+rest*4294967296:=by omega
   rw[g3k a1,IntWalk.u64_quo _ _ ⟨a1,by omega,by omega⟩];have a2:=g9x a1 (show 0<=d by omega);have a7:(b+rest*4294967296)/d<4294967296:=by
    rw[h1j (by omega)];have:(rest+1)*4294967296<=d*4294967296:=g2b (by omega) (by decide);omega
   have a3:=h1w (b+rest*4294967296) d0;have a6:=g9c (b+rest*4294967296) (b:=d) (by omega);have a8:=g7k (b+rest*4294967296) d;rw[w32 a2 (by omega)];generalize (b+rest*4294967296)/d=qi at*;generalize (b+rest*4294967296)%d=ri at*;refine⟨by decide,⟨h,h1⟩,d0,⟨h,by omega⟩,d0,⟨by omega,by omega,a3,a6,by rw[g0j];exact h4, ?_⟩,by omega⟩;rw[show i-1+1=i from by omega,a4];have a5:(q.set i.toNat qi).drop i.toNat=qi::q.drop (i+1).toNat:=by
    have u:i.toNat<q.length:=by omega
    rw[g6p (by rw[g0j];exact u),List.getElem_set_self,g8j (by omega),show(i+1).toNat=i.toNat+1 from by omega]
   rw[a5];simp only[nv];rw[h5];have hz:(b.toNat:Int)+4294967296*rest.toNat=qi.toNat*d.toNat+ri.toNat:=by
    rw[g2o a0.1,g2o h2,g2o a2,g2o (show 0<=d by omega),g2o a3,h1x qi];omega
   have a9:b.toNat+4294967296*rest.toNat=qi.toNat*d.toNat+ri.toNat:=by
    have:((b.toNat+4294967296*rest.toNat:Nat):Int)=((qi.toNat*d.toNat+ri.toNat:Nat):Int):=by
     rw[g6g,g6g,g4c,g4c];exact hz
    exact h1b this
   rw[g3e, <-g2m,g4a];omega
 . have h:¬0<=i:=g0b h';rw[show(i+1).toNat=0 from by omega,g3n,g3n]at h5;refine⟨trivial, ?_⟩;rintro⟨r,_⟩ _ hr;refine⟨trivial, ?_⟩;rintro⟨s,_⟩ _ hs;simp only at hr hs⊢;have u:rest.toNat<d.toNat:=by omega
   rw[g3d]at h5;rw[hr,hs,h5,h1p,g3j u,h1y (by omega),g3t u,g2x];exact⟨rfl,rfl⟩
theorem B6b (x:A9 K3.args) (hw:awf K3.args x) (hp:K3.pre x):A6v x:=by
 obtain⟨l,s,_⟩:=x;have hl:A5 l:=A2 hw.1.2;change List Int at l;change Int at s;obtain⟨ll,s0,s1⟩:l.length<=17592186044416/\0<=s/\s<=31:=hp;simp only[A6v];rw[wr (a:=(l.length:Int)+1) (by omega) (by omega)];refine⟨⟨by omega,g0k _,by simp;omega,by omega⟩, ?_⟩;have hsp:(2:Nat)^s.toNat<=2^31:=g1v (by decide) (by omega);have a3:0<(2:Nat)^s.toNat:=g3m (by decide);have u:((2:Int)^s.toNat)=((2^s.toNat:Nat):Int):=by rw[g6v];rfl
 refine⟨fun p=>0<=p.2.1/\p.2.1<=(l.length:Int)/\0<=p.1/\p.1<2^s.toNat/\p.2.2.1.length=l.length+1/\nv (p.2.2.1.take p.2.1.toNat)+4294967296^p.2.1.toNat*p.1.toNat=nv (l.take p.2.1.toNat)*2^s.toNat,fun p=>((l.length:Int)-p.2.1).toNat,⟨g0k _,g0d _,g0k _,by show(0:Int)<2^s.toNat;rw[u];omega,by rw[g1a];omega,by simp[nv]⟩, ?_⟩;rintro⟨c,i,out,_⟩ ⟨_,_,a4,_⟩ ⟨h0,h1,h2,h3,h4,h5⟩;change Int at c i;change List Int at out;simp only at h0 h1 h2 h3 h4 h5⊢;have hc:c<((2^s.toNat:Nat):Int):=by rw[<-u];exact h3
 refine⟨fun h'=> ?_,fun h'=> ?_⟩
 . have h:i<(l.length:Int):=g0a h';have dl:=R6 hl i.toNat;have a0:Min.min (Int.toNat s) u64.bits=s.toNat:=by show Min.min (Int.toNat s) 64= _;omega
   rw[A8l hl h0 h,a0,u];have e0:(dg l i.toNat:Int)*((2^s.toNat:Nat):Int)=((dg l i.toNat*2^s.toNat:Nat):Int):=(g4c _ _).symm;have hm:dg l i.toNat*2^s.toNat<=4294967295*2^s.toNat:=g1d _ dl;have e3:(((BitVec.ofInt u64.bits c|||BitVec.ofInt u64.bits ((dg l i.toNat*2^s.toNat:Nat):Int)).toNat:Nat):Int)=c+((dg l i.toNat*2^s.toNat:Nat):Int):=by
    have:=E5b (v:=c) (b:=(dg l i.toNat:Int)) (k:=s.toNat) h2 h3 (by omega) (by rw[u,e0];omega) (by omega);rw[u,e0]at this;exact this
   rw[w64 (a:=(dg l i.toNat:Int)) (by omega) (by omega),e0,w64 (a:=((dg l i.toNat*2^s.toNat:Nat):Int)) (by omega) (by omega),e3,w64 (by omega) (by omega),F4v _ (by omega),wr (by omega) (by omega),A1l];generalize a1:dg l i.toNat*2^s.toNat=M at*;refine⟨⟨h0,h⟩,s0,⟨h0,by omega⟩,by decide,⟨by omega,by omega,by omega, ?_,by rw[g0j];exact h4, ?_⟩,by omega⟩
   . generalize 2^s.toNat=T at*;omega
   . rw[show(i+1).toNat=i.toNat+1 from by omega,N0 (by omega),G3 l,g2a,g4a, <-h5,g2m (4294967296^i.toNat) (dg l i.toNat),a1];generalize 4294967296^i.toNat=P at*;have hd:((c+(M:Int))%4294967296).toNat+4294967296*((c+(M:Int))/4294967296).toNat=c.toNat+M:=by omega
     have a2:=g3q (P* ·) hd;simp only[g3e, <-g2m]at a2;omega
 . have h:¬i<(l.length:Int):=g0b h';rw[g0i,w32 (by omega) (by omega)];refine⟨⟨by omega,by omega⟩,by rw[g0j];exact h4, ?_⟩;have e:=N0 (l:=out) (i:=l.length) (v:=c) (by omega);rw[g0o (by rw[g0j];omega)]at e;rw[show i.toNat=l.length from by omega,g0o (g0w l.length)]at h5;rw[e,h5]
theorem A9g (x:A9 G6.args) (hw:awf G6.args x) (hp:G6.pre x):A3u x:=by
 obtain⟨a,n,_⟩:=x;have ha:A5 a:=A2 hw.1.2;have hn:=(show i64.min<=n/\n<=i64.max from hw.2.1);rw[C0m,C7y]at hn;change List Int at a;change Int at n;have la:a.length<=17592186044416:=hp;have n1:=C0 ha;have a3: -9223372036854775808<=n/\n<=9223372036854775807:=hn;simp only[A3u];refine⟨fun h=> ?_,fun h=>⟨trivial, ?_⟩⟩
 . have h:=g0a h;exact⟨fun _=>⟨by trivial,by trivial⟩,fun h1=>by omega⟩
 have h:=g0b h;have n0:0<=n:=by omega
 rintro⟨r,_⟩ _ hr;simp only at hr⊢;have e1:i64.wrap (Int.tdiv n 32)=((n.toNat/32:Nat):Int):=by
  rw[g7x n0,wr (by omega) (by omega)];omega
 have e2:(Int.tmod n 32).toNat=n.toNat%32:=by rw[g3k n0];omega
 have e3:(0:Int)<=Int.tmod n 32:=g8x _ n0;have e4:n.toNat=32*(n.toNat/32)+n.toNat%32:=by omega
 have e5:n.toNat%32<=31:=by omega
 have e6:Min.min (n.toNat%32) u64.bits=n.toNat%32:=by show Min.min (n.toNat%32) 64= _;omega
 rw[e1,e2,e6];have a2:nv r=nv a:=by rw[hr,F4]
 have a1:A5 r:=hr▸G8 _;have a4:r.length<=a.length:=by rw[hr];exact n1
 have a0:=E4v (l:=r) a1 (k:=n.toNat/32) (s:=n.toNat%32);rw[<-e4,a2]at a0;clear e1 e2 e6;refine⟨by decide,fun h1=> ?_,fun h1=> ?_⟩
 . have h1:=g0a h1;refine⟨fun u=>by omega,fun _=>⟨?_,by trivial⟩⟩;rw[a0,g2c (by omega),F0w,h2v,O4]
 . have h1:=g0b h1;rw[a0];rw[show(((n.toNat/32:Nat):Int)).toNat=n.toNat/32 from g0i _,show((r.length:Int)).toNat=r.length from g0i _,g0o (g0w _)];have ht:A5 (r.drop (n.toNat/32)):=fun y hy=>a1 y (g4r hy)
   have a5:(r.drop (n.toNat/32)).length<=r.length:=by rw[g2l];omega
   refine⟨by decide,⟨by omega,by omega,g0k _⟩,by decide,⟨by omega,g0k _,by omega,by omega⟩, ?_⟩;clear a0 e4;generalize r.drop (n.toNat/32)=t at*;generalize n.toNat%32=s at*;have hX:nv t/2^s<4294967296^t.length:=g9b (g6j _ _) (B0z ht);refine⟨fun p=>0<=p.1/\p.1<=(t.length:Int)/\p.2.1.length=t.length/\nv (p.2.1.take p.1.toNat)=nv t/2^s%4294967296^p.1.toNat,fun p=>((t.length:Int)-p.1).toNat,⟨g0k _,g0d _,by simp,by simp[nv];omega⟩, ?_⟩;rintro⟨i,out,_⟩ ⟨_,a6,_⟩ ⟨i0,i1,ol,hv⟩;change Int at i;change List Int at out;simp only at i0 i1 ol hv⊢;have d1:=R6 ht i.toNat;have d2:=R6 ht (i.toNat+1);refine⟨fun u=> ?_,fun u=> ?_⟩
   . have u:=g0a u;rw[wr (a:=i+1) (by omega) (by omega)];refine⟨⟨i0,u⟩,fun p=>p.1=((dg t i.toNat+dg t (i.toNat+1)*4294967296:Nat):Int),⟨fun h3=> ?_,fun h3=> ?_⟩, ?_⟩
     . have h3:=g0a h3;refine⟨⟨by omega,h3⟩,by decide, ?_⟩;show u64.wrap _= _;rw[A8l ht i0 u,A8l ht (by omega) h3,show(i+1).toNat=i.toNat+1 from by omega];rw[show Min.min (Int.toNat 32) u64.bits=32 from rfl];rw[w64 (a:=(dg t i.toNat:Int)) (by omega) (by omega),w64 (a:=(dg t (i.toNat+1):Int)) (by omega) (by omega),w64 (a:=(dg t (i.toNat+1):Int)*2^32) (by omega) (by omega)];have:=E5b (v:=(dg t i.toNat:Int)) (b:=(dg t (i.toNat+1):Int)) (k:=32) (by omega) (by omega) (by omega) (by omega) (by omega);rw[show u64.bits=64 from rfl,this,w64 (by omega) (by omega)];omega
     . have h3:=g0b h3;show u64.wrap _= _;rw[A8l ht i0 u,w64 (by omega) (by omega),B8u (i:=i.toNat+1) (by omega)];omega
     rintro⟨w,_⟩ _ hW;simp only at hW⊢;refine⟨e3,⟨i0,by omega⟩,⟨by omega,by omega,by rw[g0j];exact ol, ?_⟩,by omega⟩;rw[show(i+1).toNat=i.toNat+1 from by omega,N0 (by omega),hv,g2a,Nat.mod_mul,F8l ht _ e5];congr 2;rw[hW,A1l];have:Int.fdiv ((dg t i.toNat+dg t (i.toNat+1)*4294967296:Nat):Int) (2^s)=(((dg t i.toNat+dg t (i.toNat+1)*4294967296)/2^s:Nat):Int):=by
      rw[show((2:Int)^s)=((2^s:Nat):Int)from by rw[g6v];rfl,g2d _ (g0d _)];rfl
     rw[this];generalize (dg t i.toNat+dg t (i.toNat+1)*4294967296)/2^s=Z;omega
   . have u:=g0b u;refine⟨trivial, ?_⟩;rintro⟨q,_⟩ _ hq;simp only at hq⊢;refine⟨fun h=>by omega,fun _=>⟨?_,by trivial⟩⟩;rw[show i.toNat=t.length from by omega,g0o (by omega),g3j hX]at hv;rw[hq,hv]
def D9a:An:= {join:= [(4,⟨[],[],[(0,false,[.val (.int .u32)]),(2,false,vI)],[],[]⟩),(7,⟨[],[],[(0,false,[.val (.int .u32)]),(2,false,vI)],[],[]⟩)]}
def B2l:An:= {}
def C0x:An:= {}
def C7p:An:= {plan:= [(2,[],[],true,(pR 0 3 (pR 5 3 (.p 10 (pR 12 3 (.p 16 (.p 17 (.e 3 (.p 4 (.e 8 (.p 9 (.p 11 (.e 15 (pR 18 3 .done))))))))))))))]}
def C2k:An:= {loop:= [(7,⟨[4],[0],[(7,false,vU),(8,false,vU),(9,false,vU),(10,false,vU),(11,false,vU),(12,false,vU),(13,false,vU),(14,false,vU),(15,false,[.val .bool])],[],[]⟩)],plan:= [(9,[],[],true,(pR 0 6 .done))]}
def C2j:An:= {}
def A0v:ByteArray:=ByteArray.mk (([(0:UInt8),1,2,2,3,3,3,3,4,4,4,4,4,4,4,4,5,5,5,5,5,5,5,5,5,5,5,5,5,5,5,5,6,6,6,6,6,6,6,6,6,6,6,6,6,6,6,6,6,6,6,6,6,6,6,6,6,6,6,6,6,6,6,6].append [(7:UInt8),7,7,7,7,7,7,7,7,7,7,7,7,7,7,7,7,7,7,7,7,7,7,7,7,7,7,7,7,7,7,7,7,7,7,7,7,7,7,7,7,7,7,7,7,7,7,7,7,7,7,7,7,7,7,7,7,7,7,7,7,7,7,7]).append ([(8:UInt8),8,8,8,8,8,8,8,8,8,8,8,8,8,8,8,8,8,8,8,8,8,8,8,8,8,8,8,8,8,8,8,8,8,8,8,8,8,8,8,8,8,8,8,8,8,8,8,8,8,8,8,8,8,8,8,8,8,8,8,8,8,8,8].append [(8:UInt8),8,8,8,8,8,8,8,8,8,8,8,8,8,8,8,8,8,8,8,8,8,8,8,8,8,8,8,8,8,8,8,8,8,8,8,8,8,8,8,8,8,8,8,8,8,8,8,8,8,8,8,8,8,8,8,8,8,8,8,8,8,8,8])).toArray
def C2b:A9 A3p.args->Prop:=fun(x:Int×Unit)=>∃(J:Int×Int×Unit->Prop),((decide (65536<=x.1)=true->(0:(Ty.int u64).den)<=(16:Int)/\J (Int.fdiv x.1 ((2:Int)^Min.min ((16:Int).toNat) u32.bits),(16:Int),()))/\(decide (65536<=x.1)=false->J (x.1,(0:Int),())))/\∀(p:Int×Int×Unit),(Ty.int u32).wf p.1/\(Ty.int i64).wf p.2.1/\True->J p->∃(J:Int×Int×Unit->Prop),((decide (256<=p.1)=true->(0:(Ty.int u64).den)<=(8:Int)/\J (Int.fdiv p.1 ((2:Int)^Min.min ((8:Int).toNat) u32.bits),i64.wrap (p.2.1+8),()))/\(decide (256<=p.1)=false->J (p.1,p.2.1,())))/\∀(p:Int×Int×Unit),(Ty.int u32).wf p.1/\(Ty.int i64).wf p.2.1/\True->J p->((0:Int)<=IntKind.u8.wrap p.1/\IntKind.u8.wrap p.1<(↑(A0v).data.toList.length:Int))/\i64.wrap (p.2.1+i64.wrap (D3a (A0v) (IntKind.u8.wrap p.1)))=(↑(A0j x.1.toNat):Int)
def A2y:A9 F8.args->Prop:=fun(x:Int×Unit)=>True/\∀(r:Int×Unit),G1 r.1/\True->r.1=(↑(A0j x.1.toNat):Int)->i64.wrap (32-r.1)=(32:Int)-(↑(A0j x.1.toNat):Int)
def A5z:A9 M9.args->Prop:=fun(x:Int×List Int×Unit)=>let c:=(↑x.2.1.length:Int);let b:=(0:Int);let a:=(x.2.1.length:Int);(decide (x.1<a)=true->(b<=x.1/\x.1<a)/\u64.wrap (gx b x.2.1 x.1)=if x.1<c then x.2.1.getD x.1.toNat b else b)/\(decide (x.1<a)=false->b=if x.1<c then x.2.1.getD x.1.toNat b else b)
def A9e:A9 T9.args->Prop:=fun(x:List Int×Int×Int×Unit)=>let d:=(32:Int);let c:=(2:Int);let b:=(x.1.length:Int);let a:=(0:Int);a<=i64.wrap (x.2.1-1)/\∀(r:Int×Unit),B2m r.1/\True->(r.1=if i64.wrap (x.2.1-1)<b then List.getD x.1 (i64.wrap (x.2.1-1)).toNat a else a)->(0:(Ty.int u64).den)<=d/\a<=i64.wrap (x.2.1-c)/\∀(e:Int×Unit),B2m e.1/\True->(e.1=if i64.wrap (x.2.1-c)<b then List.getD x.1 (i64.wrap (x.2.1-c)).toNat a else a)->(0:(Ty.int i64).den)<=x.2.2.1/\a<=i64.wrap (x.2.1-3)/\∀(f:Int×Unit),B2m f.1/\True->(f.1=if i64.wrap (x.2.1-3)<b then List.getD x.1 (i64.wrap (x.2.1-3)).toNat a else a)->(0:(Ty.int i64).den)<=i64.wrap (d-x.2.2.1)/\u64.wrap (↑(BitVec.ofInt u64.bits (u64.wrap (u64.wrap (↑(BitVec.ofInt u64.bits (u64.wrap (r.1*c^Min.min d.toNat u64.bits)) |||BitVec.ofInt u64.bits e.1).toNat:Int)*c^Min.min x.2.2.1.toNat u64.bits)) |||BitVec.ofInt u64.bits (Int.fdiv f.1 (c^Min.min (i64.wrap (d-x.2.2.1)).toNat u64.bits))).toNat:Int)=(↑(nv x.1*2^x.2.2.1.toNat/(4294967296:Nat)^(x.2.1.toNat-(2:Nat))):Int)
def A7a:A9 Q9.args->Prop:=fun(x:List Int×List Int×Unit)=>let k:=(17592186044416:Int);let j:=(2:Nat);let i:=(1:Int);let h:=(4294967296:Nat);let f:=(↑(nv x.1):Int);let e:=(↑(nv x.2.1):Int);let d:=(0:Int);let b:=(x.1.length:Int);(d<=i64.wrap (b-i)/\i64.wrap (b-i)<b)/\True/\∀(r:Int×Unit),G1 r.1/\True->r.1=32-(↑(A0j (gx d x.1 (i64.wrap (b-i))).toNat):Int)->((3:Int)<=b/\b<=b/\b<=k/\d<=r.1/\r.1<=31/\nv x.1*j^Int.toNat r.1<h^b.toNat)/\∀(l:Int×Unit),B2m l.1/\True->l.1=(↑(nv x.1*j^Int.toNat r.1/h^(b.toNat-j)):Int)->((3:Int)<=b/\(x.2.1.length:Int)<=b/\b<=k/\d<=r.1/\r.1<=31/\nv x.2.1*j^Int.toNat r.1<h^b.toNat)/\∀(m:Int×Unit),B2m m.1/\True->m.1=(↑(nv x.2.1*j^Int.toNat r.1/h^(b.toNat-j)):Int)->∃(I:Int×Int×Int×Int×Int×Int×Int×Int×Bool×Unit->Prop),∃(μ: _->Nat),I (l.1,m.1,d,i,d,d,d,i,false,())/\∀(p:Int×Int×Int×Int×Int×Int×Int×Int×Bool×Unit),let g:=(decide (p.2.2.2.2.2.2.2.1<=p.2.1));let c:=(decide (u64.wrap (p.2.2.2.2.2.2.1+p.2.2.2.2.2.2.2.1)<=u64.wrap (p.1-p.2.1)));let a:=(p.2.1,Int.tmod p.1 p.2.1,p.2.2.2.1,p.2.2.2.2.1,u64.wrap (p.2.2.2.1+u64.wrap (u64.wrap (Int.tdiv p.1 p.2.1)*p.2.2.2.2.1)),p.2.2.2.2.2.2.1,p.2.2.2.2.2.2.2.1,u64.wrap (p.2.2.2.2.2.2.1+u64.wrap (u64.wrap (Int.tdiv p.1 p.2.1)*p.2.2.2.2.2.2.2.1)), !p.2.2.2.2.2.2.2.2.1,());(Ty.int u64).wf p.1/\(Ty.int u64).wf p.2.1/\(Ty.int u64).wf p.2.2.1/\(Ty.int u64).wf p.2.2.2.1/\(Ty.int u64).wf p.2.2.2.2.1/\(Ty.int u64).wf p.2.2.2.2.2.1/\(Ty.int u64).wf p.2.2.2.2.2.2.1/\(Ty.int u64).wf p.2.2.2.2.2.2.2.1/\Ty.bool.wf p.2.2.2.2.2.2.2.2.1/\True->I p->(sel g c false=true->p.2.1≠d/\p.2.1≠d/\I a/\μ a<μ p)/\(sel g c false=false->p.2.2.2.2.2.1=d\/∃(A':Int),∃(B':Int),(A'=if p.2.2.2.2.2.2.2.2.1=true then p.2.2.1*f-p.2.2.2.2.2.1*e else p.2.2.2.2.2.1*e-p.2.2.1*f)/\(B'=if p.2.2.2.2.2.2.2.2.1=true then p.2.2.2.2.2.2.1*e-p.2.2.2.1*f else p.2.2.2.1*f-p.2.2.2.2.2.2.1*e)/\d<=B'/\B'<=A'/\f=p.2.2.2.2.2.2.1*A'+p.2.2.2.2.2.1*B'/\e=p.2.2.2.1*A'+p.2.2.1*B'/\i<=p.2.2.2.2.2.1/\i<=p.2.2.2.2.2.2.1/\d<=p.2.2.1/\d<=p.2.2.2.1)
def A6w:A9 Q7.args->Prop:=fun(x:List Int×Int×List Int×Int×Unit)=>True/\∀(r:List Int×Unit),WfU r.1/\True->r.1=nc x.2.1.toNat->(sh1 x.1/\sh1 r.1)/\∀(a:List Int×Unit),WfU a.1/\True->a.1=nc (nv x.1*nv r.1)->True/\∀(r:List Int×Unit),WfU r.1/\True->r.1=nc x.2.2.2.1.toNat->(sh1 x.2.2.1/\sh1 r.1)/\∀(b:List Int×Unit),WfU b.1/\True->b.1=nc (nv x.2.2.1*nv r.1)->(sh1 a.1/\sh1 b.1)/\∀(r:List Int×Bool×Unit),WfU r.1/\True/\True->(nv a.1<nv b.1->r.1= []/\r.2.1=false)/\(nv b.1<=nv a.1->r.1=nc (nv a.1-nv b.1)/\r.2.1=true)->r.1=nc (nv x.1*x.2.1.toNat-nv x.2.2.1*x.2.2.2.1.toNat)
theorem H1b:∀k:Fin 256,D3a A0v (k.val:Int)=(A0j k.val:Int):=by decide+kernel
theorem C9n (x:A9 A3p.args) (hw:awf A3p.args x) (_:A3p.pre x):C2b x:=by
 obtain⟨v,_⟩:=x;change Int at v;have hv:=(show u32.min<=v/\v<=u32.max from hw.1);rw[E1y,D8m]at hv;simp only[C2b];have a1:Int.fdiv v (2^Min.min (Int.toNat 16) u32.bits)=v/65536:=by
  rw[show Min.min (Int.toNat 16) u32.bits=16 from rfl,g2d _ (by decide)];rfl
 rw[a1];refine⟨fun p=>0<=p.1/\p.1<65536/\0<=p.2.1/\p.2.1<=16/\(A0j v.toNat:Int)=A0j p.1.toNat+p.2.1,⟨fun h=> ?_,fun h=> ?_⟩, ?_⟩
 . have h:=g0a h;have e:=D0b (n:=v.toNat) (k:=16) (by omega);refine⟨by decide,by show(0:Int)<=v/65536;omega,by show v/65536<65536;omega,by show(0:Int)<=16;omega,by show(16:Int)<=16;omega, ?_⟩;show(A0j v.toNat:Int)=A0j (v/65536).toNat+16;rw[e,show(v/65536).toNat=v.toNat/2^16 from by omega];omega
 . have h:=g0b h;refine⟨by show(0:Int)<=v;omega,by show v<65536;omega,by show(0:Int)<=0;omega,by show(0:Int)<=16;omega, ?_⟩;show(A0j v.toNat:Int)=A0j v.toNat+0;omega
 rintro⟨w,n,_⟩ _ ⟨h0,h1,h2,h3,h4⟩;change Int at w n;simp only at h0 h1 h2 h3 h4⊢;have f8:Int.fdiv w (2^Min.min (Int.toNat 8) u32.bits)=w/256:=by
  rw[show Min.min (Int.toNat 8) u32.bits=8 from rfl,g2d _ (by decide)];rfl
 rw[f8,wr (a:=n+8) (by omega) (by omega)];refine⟨fun p=>0<=p.1/\p.1<256/\0<=p.2.1/\p.2.1<=24/\(A0j v.toNat:Int)=A0j p.1.toNat+p.2.1,⟨fun h=> ?_,fun h=> ?_⟩, ?_⟩
 . have h:=g0a h;have e:=D0b (n:=w.toNat) (k:=8) (by omega);refine⟨by decide,by show(0:Int)<=w/256;omega,by show w/256<256;omega,by show 0<=n+8;omega,by show n+8<=24;omega, ?_⟩;show(A0j v.toNat:Int)=A0j (w/256).toNat+(n+8);rw[h4,e,show(w/256).toNat=w.toNat/2^8 from by omega];omega
 . have h:=g0b h;exact⟨h0,by show w<256;omega,h2,by show n<=24;omega,h4⟩
 rintro⟨u,m,_⟩ _ ⟨g0,g1,g2,g3,g4⟩;change Int at u m;simp only at g0 g1 g2 g3 g4⊢;have w8:IntKind.u8.wrap u=u:=IntWalk.u8_in _ ⟨g0,by omega⟩;have a0:(A0v.data.toList.length:Int)=256:=by decide+kernel
 have ht:=H1b ⟨u.toNat,by omega⟩;simp only at ht;rw[show((u.toNat:Nat):Int)=u from by omega]at ht;have a2:A0j u.toNat<=8:=by
  rcases g2i 8 (A0j u.toNat)with h|h
  . have h5:u.toNat≠0:=fun e=>by rw[e,C2o]at h;omega
    have h6:=(C7a h5).1;have h7:2^8<=2^(A0j u.toNat-1):=g1v (by decide) (by omega);omega
  . exact h
 rw[w8,ht];refine⟨⟨g0,by rw[a0];exact g1⟩, ?_⟩;rw[wr (a:=(A0j u.toNat:Int)) (by omega) (by omega),wr (by omega) (by omega),g4];omega
theorem E0c {v:Nat} (h:v<4294967296):A0j v<=32:=by
 rcases g2i 32 (A0j v)with h1|h1
 . have u:v≠0:=fun e=>by rw[e,C2o]at h1;omega
   have h6:=(C7a u).1;have h7:2^32<=2^(A0j v-1):=g1v (by decide) (by omega);omega
 . exact h1
theorem A7m (x:A9 F8.args) (hw:awf F8.args x) (_:F8.pre x):A2y x:=by
 obtain⟨v,_⟩:=x;change Int at v;have hv:=(show u32.min<=v/\v<=u32.max from hw.1);rw[E1y,D8m]at hv;simp only[A2y];refine⟨trivial, ?_⟩;rintro⟨r,_⟩ _ u;simp only at u⊢;have:=E0c (v:=v.toNat) (by omega);rw[u,wr (by omega) (by omega)]
theorem B2f (x:A9 M9.args) (hw:awf M9.args x) (hp:M9.pre x):A5z x:=by
 obtain⟨i,l,_⟩:=x;have hl:A5 l:=A2 hw.2.1.2;change Int at i;change List Int at l;have u:0<=i:=hp;simp only[A5z];refine⟨fun h=> ?_,fun h=> ?_⟩
 . have h:=g0a h;have hb:=C0f hl u h;rw[g1c h, <-F3 (d:=(0:Int)) u h,w64 hb.1 (by omega)];exact⟨⟨u,h⟩,rfl⟩
 . have h:=g0b h;rw[g0u h]
theorem G8c {l:List Int} (h:A5 l) {i:Int} (u:0<=i):(if i<(l.length:Int)then l.getD i.toNat 0 else 0)=(dg l i.toNat:Int):=by
 split
 . exact Y5 h
 . rw[B8u (by omega)];rfl
theorem B7y (x:A9 T9.args) (hw:awf T9.args x) (hp:T9.pre x):A9e x:=by
 obtain⟨l,n,s,_⟩:=x;have hl:A5 l:=A2 hw.1.2;change List Int at l;change Int at n s;obtain⟨n3,ln,nM,s0,s1,a0⟩:3<=n/\(l.length:Int)<=n/\n<=17592186044416/\0<=s/\s<=31/\nv l*2^s.toNat<4294967296^n.toNat:=hp;simp only[A9e];rw[wr (a:=n-1) (by omega) (by omega),wr (a:=n-2) (by omega) (by omega),wr (a:=n-3) (by omega) (by omega),wr (a:=32-s) (by omega) (by omega)];refine⟨by omega, ?_⟩;rintro⟨a,_⟩ _ ha;refine⟨by decide,by omega, ?_⟩;rintro⟨b,_⟩ _ hb;refine⟨s0,by omega, ?_⟩;rintro⟨c,_⟩ _ hc;simp only at ha hb hc⊢;rw[G8c hl (by omega)]at ha hb hc;have da:=R6 hl (n-1).toNat;have db:=R6 hl (n-2).toNat;have dc:=R6 hl (n-3).toNat;obtain⟨m,rfl⟩:∃m:Nat,n=(m:Int)+3:=⟨(n-3).toNat,by omega⟩;rw[show((m:Int)+3-1).toNat=m+2 from by omega]at ha da;rw[show((m:Int)+3-2).toNat=m+1 from by omega]at hb db;rw[show((m:Int)+3-3).toNat=m from by omega]at hc dc;rw[show((m:Int)+3).toNat=m+3 from by omega]at a0⊢;rw[show m+3-2=m+1 from by omega];have e3:=F8d l (n:=m) (by omega);have a3:=P8 hl m;have hP:0<4294967296^m:=g3m (by decide);subst ha hb hc;generalize hA:dg l (m+2)=A at*;generalize hB:dg l (m+1)=B at*;generalize hC:dg l m=C at*;have a7:=G7b (a:=nv l) (low:=nv (l.take m)) (lo:=C) (H:=A*4294967296+B) (P:=4294967296^m) (s:=s.toNat) hP (by rw[e3];grind) a3 (by omega);rw[g2a,a7];have hH:(A*4294967296+B)*2^s.toNat<18446744073709551616:=by
  have h1:(A*4294967296+B)*2^s.toNat*(4294967296^m*4294967296)<=nv l*2^s.toNat:=by
   have:(A*4294967296+B)*(4294967296^m*4294967296)<=nv l:=by rw[e3];grind
   have:=g1d (2^s.toNat) this;rwa[g9a]at this
  have h2:4294967296^(m+3)=18446744073709551616*(4294967296^m*4294967296):=by
   rw[g2a,g2a,g2a];grind
  rw[h2]at a0;exact g6k (g9b h1 a0)
 have a4:Min.min (Int.toNat s) u64.bits=s.toNat:=by show Min.min (Int.toNat s) 64= _;omega
 have a1:Min.min (Int.toNat (32-s)) u64.bits=32-s.toNat:=by show Min.min (Int.toNat (32-s)) 64= _;omega
 rw[a4,a1,show Min.min (Int.toNat 32) u64.bits=32 from rfl];have ab:A*4294967296+B<18446744073709551616:=by omega
 have q1:(((BitVec.ofInt u64.bits (u64.wrap ((A:Int)*2^32)) |||BitVec.ofInt u64.bits (B:Int)).toNat:Nat):Int)=((A*4294967296+B:Nat):Int):=by
  rw[w64 (a:=(A:Int)*2^32) (by omega) (by omega)];have:=D2k (v:=(B:Int)) (b:=(A:Int)) (k:=32) (by omega) (by omega) (by omega) (by omega) (by omega);rw[show u64.bits=64 from rfl,this];omega
 rw[q1,w64 (a:=((A*4294967296+B:Nat):Int)) (by omega) (by omega)];have a5:((2:Int)^s.toNat)=((2^s.toNat:Nat):Int):=by rw[g6v];rfl
 have u:((A*4294967296+B:Nat):Int)*2^s.toNat=(((A*4294967296+B)*2^s.toNat:Nat):Int):=by rw[a5,g4c]
 have q2:Int.fdiv (C:Int) (2^(32-s.toNat))=((C/2^(32-s.toNat):Nat):Int):=by
  have a6:((2:Int)^(32-s.toNat))=((2^(32-s.toNat):Nat):Int):=by rw[g6v];rfl
  rw[a6,g2d _ (g0d _)];rfl
 have a9:C/2^(32-s.toNat)<2^s.toNat:=by
  rw[g3g (g3m (by decide)), <-C4m (by omega)];omega
 have a8:(0:Int)<=(((A*4294967296+B)*2^s.toNat:Nat):Int):=g0d _;rw[q2,w64 (a:=((A*4294967296+B:Nat):Int)*2^s.toNat) (by rw[u];omega) (by rw[u];omega)];generalize C/2^(32-s.toNat)=L at*;have a2:(L:Int)<2^s.toNat:=by rw[a5];omega
 have aa:(2:Nat)^s.toNat<=2^31:=g1v (by decide) (by omega);have q3:=D2k (v:=(L:Int)) (b:=((A*4294967296+B:Nat):Int)) (k:=s.toNat) (by omega) a2 (by omega) (by rw[u];omega) (by omega);rw[show u64.bits=64 from rfl,q3,u,w64 (a:=(L:Int)+(((A*4294967296+B)*2^s.toNat:Nat):Int)) (Int.add_nonneg (g0d _) a8) ?_]
 . constructor
   . exact Int.sub_nonneg.2 (Int.le_trans s1 (by decide))
   . rw[g6g];exact Int.add_comm _ _
 . --the shifted number and the digits behind it are below 2^64
   have h2:(18446744073709551616:Nat)=18446744073709551616/2^s.toNat*2^s.toNat:=by
    refine(Nat.div_mul_cancel ?_).symm;exact⟨2^(64-s.toNat),by rw[<-g4l,show s.toNat+(64-s.toNat)=64 from by omega]⟩
   have h3:A*4294967296+B<18446744073709551616/2^s.toNat:=by
    rw[h2]at hH;exact g6k hH
   have h4:(A*4294967296+B+1)*2^s.toNat<=18446744073709551616:=by
    rw[h2];exact g1d _ h3
   rw[g4a,g6q]at h4;have h5:L+(A*4294967296+B)*2^s.toNat<18446744073709551616:=g1f (by rw[g5n];exact Nat.add_lt_add_left a9 _) h4;have h6:((L+(A*4294967296+B)*2^s.toNat:Nat):Int)<18446744073709551616:=g2e.2 h5;rw[g6g]at h6;exact Int.le_of_lt_add_one h6
theorem B5o (x:A9 Q9.args) (hw:awf Q9.args x) (hp:Q9.pre x):A7a x:=by
 obtain⟨a,b,_⟩:=x;have ha:A5 a:=A2 hw.1.2;have hb:A5 b:=A2 hw.2.1.2;change List Int at a b;obtain⟨la,a3,a5,ad,b6⟩:a.length<=17592186044416/\3<=a.length/\B4g a/\nv b<=nv a/\b.length<=a.length:=hp;simp only[A7a];have ea:i64.wrap ((a.length:Int)-1)=(a.length:Int)-1:=wr (by omega) (by omega);rw[ea,A8l ha (by omega) (by omega),show((a.length:Int)-1).toNat=a.length-1 from by omega];refine⟨⟨by omega,by omega⟩,trivial, ?_⟩;rintro⟨s,_⟩ _ hs;change Int at s;simp only at hs⊢;rw[g0i]at hs;have hd:=D0y ha a5;have b7:=R6 ha (a.length-1);have au:=E0c (v:=dg a (a.length-1)) (by omega);have b5:=(C7a hd).2;have a9:=F9z ha (n:=a.length-1) (by omega) (s:=s.toNat) (by omega);rw[show a.length-1+1=a.length from by omega]at a9;have ae:nv b*2^s.toNat<4294967296^a.length:=g9b (g1d _ ad) a9;have ay:=D5y ha a5;rw[g0i];refine⟨⟨by omega,g0k _,by omega,by omega,by omega,a9⟩, ?_⟩;rintro⟨X,_⟩ ⟨ac,_⟩ hX;refine⟨⟨by omega,by omega,by omega,by omega,by omega,ae⟩, ?_⟩;rintro⟨Y,_⟩ ⟨ar,_⟩ hY;change Int at X Y;simp only at hX hY ac ar⊢;have hK:s.toNat<=32*(a.length-2):=by omega
 rw[B5r,F7d hK]at hX hY;have a7:0<2^(32*(a.length-2)-s.toNat):=g3m (by decide);have a8:0<X:=by
  rw[hX];have h1:=B9f a (n:=a.length-1) (by omega);have h2:2^(32*(a.length-2)-s.toNat)<=nv a:=by
   have h3:2^(32*(a.length-2)-s.toNat)<=4294967296^(a.length-1):=by
    rw[B5r];exact g1v (by decide) (by omega)
   have h4:=g2t (4294967296^(a.length-1)) (g2p hd);omega
  have:=(g4m a7).2 (by rw[g6q];exact h2);omega
 have aq:Y<=X:=by rw[hX,hY];exact Int.ofNat_le.2 (Nat.div_le_div_right ad)
 have ap:0<=Y:=by rw[hY];exact g0d _
 have hA:=g6i (nv a) (2^(32*(a.length-2)-s.toNat));have az:=g5t (nv a) a7;have hB:=g6i (nv b) (2^(32*(a.length-2)-s.toNat));have b3:=g5t (nv b) a7;generalize 2^(32*(a.length-2)-s.toNat)=K at*;have b4:X<=18446744073709551615:=by have:=ac.2;rw[C7o]at this;exact this
 refine⟨fun p=>∃w,Leh X Y w p.1 p.2.1 p.2.2.1 p.2.2.2.1 p.2.2.2.2.1 p.2.2.2.2.2.1 p.2.2.2.2.2.2.1 p.2.2.2.2.2.2.2.1 p.2.2.2.2.2.2.2.2.1,fun p=>p.2.1.toNat,⟨0,Leh.start ap aq a8⟩, ?_⟩;rintro⟨x,y,u0,u1,u2,v0,v1,v2,ev,_⟩ _ ⟨w,hL⟩;change Int at x y u0 u1 u2 v0 v1 v2;change Bool at ev;simp only at hL⊢;have av:=hL.idX;have aw:=hL.idY;have bd:=hL.yx;have aa:=hL.y0;have bc:=hL.x0;have ai:=hL.u10;have a0:=hL.u20;have a6:=hL.v10;have ak:=hL.v20;have bh:x*1<=x*v2:=g3i ak (by omega);have bj:0<=y*v1:=g3f aa a6;have bg:0<=x*u2:=g3f (by omega) a0;have bi:0<=y*u1:=g3f aa ai;have bf:1*v2<=x*v2:=g2b (by omega) (by omega);refine⟨fun hc=> ?_,fun _=> ?_⟩
 . rw[J5]at hc;simp only[g0c,g1y]at hc;obtain⟨c1,c2⟩:=hc;have ab:1<=y:=by omega
   have be:1*v1<=y*v1:=g2b ab a6;rw[w64 (a:=v1+v2) (by omega) (by omega),w64 (a:=x-y) (by omega) (by omega)]at c2;have u:=hL.step c1 c2;have b9:=u.idX;have ba:=u.idY;have ah:=u.u20;have bb:=u.v20;have af:0<=x/y:=g9x (by omega) aa;have b8:x/y<=x:=Int.ediv_le_self _ (by omega);have ag:=u.y0;have a1:1*(v1+x/y*v2)<=y*(v1+x/y*v2):=g2b ab (by omega);have a2:0<=x%y*v2:=g3f ag (by omega);have a3:1*(u1+x/y*u2)<=y*(u1+x/y*u2):=g2b ab ah;have a4:0<=x%y*u2:=g3f ag a0;have b1:0<=x/y*v2:=g3f af (by omega);have b2:0<=x/y*u2:=g3f af a0;rw[g3k (by omega),IntWalk.u64_quo _ _ ⟨by omega,by omega,by omega⟩];rw[w64 (a:=x/y*u2) b2 (by omega),w64 (a:=x/y*v2) b1 (by omega),w64 (a:=u1+x/y*u2) ah (by omega),w64 (a:=v1+x/y*v2) (by omega) (by omega)];have ax:=g9c x (b:=y) (by omega);exact⟨by omega,by omega,⟨x,u⟩,by omega⟩
 . by_cases aj:v0=0
   . exact .inl aj
   . right;have am:(nv a:Int)=X*(K:Int)+((nv a%K:Nat):Int):=by
      rw[hX, <-g4c, <-g6g,g3d,hA]
     have ao:(nv b:Int)=Y*(K:Int)+((nv b%K:Nat):Int):=by
      rw[hY, <-g4c, <-g6g,g3d,hB]
     exact hL.apply aj (P:=(K:Int)) (by omega) (g0d _) (by omega) (g0d _) (by omega) am ao
theorem B5s (x:A9 Q7.args) (hw:awf Q7.args x) (hp:Q7.pre x):A6w x:=by
 obtain⟨a,x,b,y,_⟩:=x;have ha:A5 a:=A2 hw.1.2;have hb:A5 b:=A2 hw.2.2.1.2;change List Int at a b;change Int at x y;have hx:=(show u64.min<=x/\x<=u64.max from hw.2.1);have hy:=(show u64.min<=y/\y<=u64.max from hw.2.2.2.1);rw[E7n,C7o]at hx hy;obtain⟨la,lb,a1⟩:a.length<=8796093022208/\b.length<=8796093022208/\nv b*y.toNat<=nv a*x.toNat:=hp;have n1:=C0 ha;have n2:=C0 hb;have n3:(nc x.toNat).length<=2:=A7d (by omega);have n4:(nc y.toNat).length<=2:=A7d (by omega);have n5:=B8i (nv a) x.toNat;have n6:=B8i (nv b) y.toNat;simp only[A6w];refine⟨trivial, ?_⟩;rintro⟨r,_⟩ _ hr;simp only at hr⊢;subst hr;refine⟨⟨by omega,by omega⟩, ?_⟩;rintro⟨r1,_⟩ _ u;refine⟨trivial, ?_⟩;rintro⟨r,_⟩ _ hr;simp only at hr u⊢;subst hr;refine⟨⟨by omega,by omega⟩, ?_⟩;rintro⟨r2,_⟩ _ a0;simp only at a0⊢;rw[F4]at u a0;subst u a0;refine⟨⟨by omega,by omega⟩, ?_⟩;rintro⟨r,ok,_⟩ _ ⟨_,h2⟩;simp only at h2⊢;rw[F4,F4]at h2;exact(h2 a1).1
noncomputable def A8y:L3:= []
def A8x:An:= {join:= [(8,⟨[0,1,5],[0,1,2],[(7,false,vU)],[],[]⟩)],loop:= [(4,⟨[0,1,5],[0,1,2],[(7,false,vU),(8,false,vU)],[],[]⟩),(10,⟨[0,1,5,7,84,85],[0,2],[(9,false,vU),(86,false,vI)],[],[(1, .row (.int .u32) 70)]⟩),(23,⟨[0,5,7,134,135],[0,2],[(9,false,vU),(136,false,vI)],[],[(1, .row (.int .u32) 70)]⟩)],plan:= [(2,[3,10],[],true,(pR 0 3 (.q 3 (pR 4 6 (.q 10 (pR 11 3 .done)))))),(3,[5,13],[],true,(pR 0 5 (.q 5 (pR 6 7 (.q 13 (pR 14 4 .done)))))),(4,[9,18],[],true,(pR 0 9 (.q 9 (pR 10 8 (.q 18 (pR 19 4 .done))))))]}
def B2x:An:= {join:= [(12,⟨[4,6,7,8,9,10,35,36],[0],[],[],[(1, .row (.int .u32) 70),(2, .row (.int .u32) 70)]⟩)],loop:= [(8,⟨[4,6,7,8,9,10,35],[0],[(36,false,vI)],[],[(1, .row (.int .u32) 70),(2, .row (.int .u32) 70)]⟩)]}
noncomputable def B6f:L3:= [(83,X9),(141,F8),(143,K3),(145,G6),(144,A6e (E2u ⟨prog,tys⟩ [(53,A8y,A8x)] f144.results.toList (f144.body.getD .skip) f144.ntmps))]
def A4c:A9 J2.args->Prop:=fun(x:List Int×List Int×Unit)=>let L:=(63:Int);let D:=(32:Int);let w:=(2:Int);let u:=D.toNat;let t:=(1:Int);let c:=(0:Int);let b:=(x.2.1.length:Int);let q:Prop:=(c<=i64.wrap (b-c-t)/\i64.wrap (b-c-t)<b-c);(c<=i64.wrap (b-t)/\i64.wrap (b-t)<b)/\True/\∀(r:Int×Unit),G1 r.1/\True->r.1=D-(↑(A0j (gx c x.2.1 (i64.wrap (b-t))).toNat):Int)->(sh1 x.2.1/\c<=r.1/\r.1<=31)/\∀(Q:List Int×Unit),let g:=(List.getD Q.1 (c+i64.wrap (b-c-t)).toNat c);WfU Q.1/\True->Q.1.length=List.length x.2.1+1/\nv Q.1=nv x.2.1*2^Int.toNat r.1->(c<=c/\c<=b/\b<=(Q.1.length:Int))/\(sh1 x.1/\c<=r.1/\r.1<=31)/\∀(S:List Int×Unit),let n:=(S.1.length:Int);WfU S.1/\True->S.1.length=List.length x.1+1/\nv S.1=nv x.1*2^Int.toNat r.1->(c<=i64.wrap (n-b)/\i64.wrap (n-b)<=i64.wrap (n-b)/\(↑(4:Nat):Int)*i64.wrap (n-b)<=(281474976710656:Int)/\i64.wrap (n-b)<=(9223372036854775807:Int))/\∃(I:Int×List Int×List Int×Unit->Prop),∃(μ: _->Nat),I (c,S.1,List.replicate (i64.wrap (n-b)).toNat c,())/\∀(p:Int×List Int×List Int×Unit),let M:Prop:=(p.1<i64.wrap (n-b));let G:=(p.2.1.length:Int);let a:=(i64.wrap (i64.wrap (n-b)-t)-p.1);let A:Prop:=(c<=i64.wrap a/\i64.wrap a<(p.2.2.1.length:Int));let s:=(i64.wrap a+(b-c));let i:=(u64.wrap (↑(BitVec.ofInt u64.bits (u64.wrap (u64.wrap (List.getD p.2.1 s.toNat c)*w^Min.min u u64.bits)) |||BitVec.ofInt u64.bits (u64.wrap (List.getD p.2.1 (i64.wrap a+i64.wrap (b-c-t)).toNat c))).toNat:Int));let e:=(i64.wrap (i64.wrap a+b)+t);let m:Prop:=(c<=b-c/\b-c<i64.wrap e-i64.wrap a);(Ty.int i64).wf p.1/\WfU p.2.1/\WfU p.2.2.1/\True->I p->(decide M=true->∃(J:List Int×List Int×Unit->Prop),((c<=i64.wrap a/\i64.wrap a<=i64.wrap e/\i64.wrap e<=G)/\m/\(0:(Ty.int u64).den)<=D/\(c<=i64.wrap (b-c-t)/\i64.wrap (b-c-t)<i64.wrap e-i64.wrap a)/\q/\u64.wrap g≠c/\q/\u64.wrap g≠c/\∃(J_1:Int×Unit->Prop),(∃(I:Int×Int×Unit->Prop),∃(μ: _->Nat),I (u64.wrap (i.tdiv (u64.wrap g)),i.tmod (u64.wrap g),())/\∀(N:Int×Int×Unit),let z:=(u64.wrap (N.1-t),u64.wrap (N.2.1+u64.wrap g),());let y:Prop:=((u64.wrap (N.2.1+u64.wrap g)).fdiv (w^Min.min u u64.bits)≠c);let k:Prop:=(Int.fdiv N.1 (w^Min.min u u64.bits)≠c);let h:=(decide (u64.wrap (↑(BitVec.ofInt u64.bits (u64.wrap (N.2.1*w^Min.min u u64.bits)) |||BitVec.ofInt u64.bits (u64.wrap (List.getD p.2.1 (i64.wrap a+i64.wrap (b-c-w)).toNat c))).toNat:Int)<u64.wrap (N.1*u64.wrap (List.getD Q.1 (c+i64.wrap (b-c-w)).toNat c))));(Ty.int u64).wf N.1/\(Ty.int u64).wf N.2.1/\True->I N->(0:(Ty.int u64).den)<=D/\(decide k=false->c<=i64.wrap (b-c-w)/\i64.wrap (b-c-w)<b-c)/\(decide k=false->(0:(Ty.int u64).den)<=D)/\(decide k=false->c<=i64.wrap (b-c-w)/\i64.wrap (b-c-w)<i64.wrap e-i64.wrap a)/\(sel (decide k) true h=true->q/\(0:(Ty.int u64).den)<=D/\(decide y=true->J_1 (u64.wrap (N.1-t),()))/\(decide y=false->I z/\μ z<μ N))/\(sel (decide k) true h=false->J_1 (N.1,())))/\∀(N:Int×Unit),(Ty.int u64).wf N.1/\True->J_1 N->∃(I:Int×Int×List Int×Unit->Prop),∃(μ: _->Nat),I (c,c,p.2.1,())/\∀(O:Int×Int×List Int×Unit),let H:=(i64.wrap a+O.2.1);let B:Prop:=(c<=O.2.1/\O.2.1<i64.wrap e-i64.wrap a);let v:=(u64.wrap (u64.wrap (N.1*u64.wrap (List.getD Q.1 (c+O.2.1).toNat c))+O.1));let l:=(u64.wrap (u64.wrap (List.getD O.2.2.1 H.toNat c)-u64.wrap (u32.wrap v)));let j:=(u64.wrap (u64.wrap (List.getD O.2.2.1 s.toNat c)-O.1));let E:Prop:=(j.fdiv (w^Min.min L.toNat u64.bits)=c);let d:=(u64.wrap (v.fdiv (w^Min.min u u64.bits)+l.fdiv (w^Min.min L.toNat u64.bits)),i64.wrap (O.2.1+t),List.set O.2.2.1 H.toNat (u32.wrap l),());(Ty.int u64).wf O.1/\(Ty.int i64).wf O.2.1/\WfU O.2.2.1/\True->I O->(decide (O.2.1<b-c)=true->(c<=O.2.1/\O.2.1<b-c)/\B/\B/\(0:(Ty.int u64).den)<=D/\(0:(Ty.int u64).den)<=L/\I d/\μ d<μ O)/\(decide (O.2.1<b-c)=false->m/\m/\(0:(Ty.int u64).den)<=L/\(decide E=true->A/\J (List.set O.2.2.1 s.toNat (u32.wrap j),List.set p.2.2.1 (i64.wrap a).toNat (u32.wrap N.1),()))/\(decide E=false->∃(I:Int×Int×List Int×Unit->Prop),∃(μ: _->Nat),I (c,c,List.set O.2.2.1 s.toNat (u32.wrap j),())/\∀(P:Int×Int×List Int×Unit),let K:=(i64.wrap a+P.2.1);let C:Prop:=(c<=P.2.1/\P.2.1<i64.wrap e-i64.wrap a);let o:=(u64.wrap (P.1+u64.wrap (u64.wrap (List.getD P.2.2.1 K.toNat c)+u64.wrap (List.getD Q.1 (c+P.2.1).toNat c))));let f:=(o.fdiv (w^Min.min u u64.bits),i64.wrap (P.2.1+t),List.set P.2.2.1 K.toNat (u32.wrap o),());(Ty.int u64).wf P.1/\(Ty.int i64).wf P.2.1/\WfU P.2.2.1/\True->I P->(decide (P.2.1<b-c)=true->(c<=P.2.1/\P.2.1<b-c)/\C/\C/\(0:(Ty.int u64).den)<=D/\I f/\μ f<μ P)/\(decide (P.2.1<b-c)=false->m/\m/\A/\J (List.set P.2.2.1 s.toNat (u32.wrap (List.getD P.2.2.1 s.toNat c+u32.wrap P.1)),List.set p.2.2.1 (i64.wrap a).toNat (u32.wrap (u64.wrap (N.1-t))),())))))/\∀(N:List Int×List Int×Unit),let F:=(i64.wrap (p.1+t),N.1,N.2.1,());WfU N.1/\WfU N.2.1/\True->J N->I F/\μ F<μ p)/\(decide M=false->(c<=c/\c<=b/\b<=G)/\sh1 (List.drop c.toNat (List.take b.toNat p.2.1))/\∀(R:List Int×Bool×Unit),WfU R.1/\True/\True->(r.1<c->R.1= []/\R.2.1=false)/\(c<=r.1->R.1=nc (nv (List.drop c.toNat (List.take b.toNat p.2.1))/(2:Nat)^Int.toNat r.1)/\R.2.1=true)->True/\∀(r:List Int×Unit),WfU r.1/\True->r.1=nc (nv p.2.2.1)->r.1=nc (nv x.1/nv x.2.1)/\R.1=nc (nv x.1%nv x.2.1))
theorem G3f {a b:List Int} {N D S:Nat} (ha:A5 a) (hb:A5 b) (hN:b.length=N+2) (hd:dg b (N+1)≠0) (hD:a.length+1=D+(N+2)):nv a*2^S<nv b*2^S*4294967296^D:=by
 have h2:0<2^S:=g3m (by decide);have e1:=B9f b (n:=N+1) (by omega);have h3:4294967296^(N+1)<=nv b:=by
  have:=g2t (4294967296^(N+1)) (g2p hd);omega
 have u:=B0z ha;rw[show a.length=(N+1)+D from by omega,g4l]at u;have h5:nv a<nv b*4294967296^D:=g1f u (g1d _ h3);have h6:=g6h h5 h2;rw[g9a]at h6;exact h6
theorem H0p {A B S q r:Nat} (hB:0<B) (he:A*2^S=q*(B*2^S)+r) (hr:r<B*2^S):q=A/B/\r/2^S=A%B:=by
 have u:0<2^S:=g3m (by decide);have e1:q=A/B:=by
  rw[<-g9l A B u,he,g3d q,h1y (Nat.mul_pos hB u),g3t hr,g2x]
 refine⟨e1, ?_⟩;have e3:=g6i A B;have e4:r=(A%B)*2^S:=by
  have:A*2^S=(B*(A/B)+A%B)*2^S:=by rw[e3]
  rw[this,e1]at he;grind
 rw[e4,Nat.mul_div_cancel _ u]
theorem H1a {v:List Int} (hv:A5 v) {n:Nat} (h1:4294967296^n<=nv v) (h2:nv v<4294967296^(n+1)):dg v n≠0:=by
 have u:0<4294967296^n:=g3m (by decide);rw[D7q hv,g3j (by rw[g3g u,g3d, <-g2a];exact h2)];have:=(g4m u).2 (by rw[g6q];exact h1);omega
theorem F5g {u:List Int} (hu:A5 u) {m i:Nat} (h:nv u<4294967296^m) (hi:m<=i):dg u i=0:=by
 rw[D7q hu,g3t (g1f h (g1v (by decide) hi))]
theorem E4h {x y:Nat} (hx:x<=4294967295) (u:y<=4294967295):u64.wrap (((BitVec.ofInt 64 (u64.wrap ((x:Int)*2^32)) |||BitVec.ofInt 64 (y:Int)).toNat:Nat):Int)=((x*4294967296+y:Nat):Int):=by
 rw[w64 (a:=(x:Int)*2^32) (by omega) (by omega)];have:=D2k (v:=(y:Int)) (b:=(x:Int)) (k:=32) (by omega) (by omega) (by omega) (by omega) (by omega);rw[this,w64 (by omega) (by omega)];omega
theorem H2h {v:Int} :Int.fdiv v (2^32)=v/4294967296:=by
 rw[g2d _ (by decide)];rfl
theorem H4t {v:Int} :Int.fdiv v (2^63)=v/9223372036854775808:=by
 rw[g2d _ (by decide)];rfl
theorem E3f {d x:Nat} (u:d<=4294967295) (hx:x<=4294967295):d*x<=18446744065119617025:=g0t (g8a u hx) (by decide)
theorem G3t {d v2 r u:Nat} (hv:v2<=4294967295):sel (decide ((d:Int)/4294967296≠0)) true (decide (((r*4294967296+u:Nat):Int)<u64.wrap ((d:Int)*(v2:Int))))=decide (4294967296<=d\/r*4294967296+u<d*v2):=by
 rw[M5];rcases g2i d 4294967296 with h|h
 . have hm:=E3f (d:=d) (x:=v2) (by omega) hv;rw[<-g4c,w64 (by omega) (by omega)];have e1:decide ((d:Int)/4294967296≠0)=false:=g1e (by omega);rw[e1,g5v,g4z];omega
 . have e1:decide ((d:Int)/4294967296≠0)=true:=g0z (by omega);rw[e1,h0e];exact(g0z (.inl h)).symm
theorem G3u {d x c y:Nat} (hd:d<=4294967295) (hx:x<=4294967295) (hc:c<=d) (hy:y<=4294967295):∃c' s':Nat,
 u64.wrap (Int.fdiv (u64.wrap (u64.wrap ((d:Int)*(x:Int))+(c:Int))) (2^32)+Int.fdiv (u64.wrap ((y:Int)-u64.wrap (u32.wrap (u64.wrap (u64.wrap ((d:Int)*(x:Int))+(c:Int)))))) (2^63))=(c':Int)/\
 u32.wrap (u64.wrap ((y:Int)-u64.wrap (u32.wrap (u64.wrap (u64.wrap ((d:Int)*(x:Int))+(c:Int))))))=(s':Int)/\c'<=d/\y+4294967296*c'=s'+(d*x+c):=by
 have hm:=E3f hd hx;obtain⟨b1,u⟩:=G2f (D:=d) (v:=x) (c:=c) (t:=y) (by omega) (by omega) hc;rw[<-g4c,w64 (a:=((d*x:Nat):Int)) (by omega) (by omega)];generalize d*x=p at*;rw[w64 (a:=(p:Int)+(c:Int)) (by omega) (by omega),A1l,w64 (a:=((p:Int)+(c:Int))%4294967296) (by omega) (by omega),H2h,H4t,A1u ((y:Int)-_),A1l];refine⟨(p+c)/4294967296+(if y<(p+c)%4294967296 then 1 else 0),if y<(p+c)%4294967296 then y+4294967296-(p+c)%4294967296 else y-(p+c)%4294967296, ?_, ?_,u, ?_⟩
 . rw[w64 (by omega) (by omega)];split<;>omega
 . split<;>omega
 . split<;>omega
theorem G5l {U P V d:Nat} (u:0<P) (hV:0<V) (h:P*(d*V)<=U):d<=U/P/V:=by
 rw[g4m hV,g4m u,g3d];exact h
theorem H0n {U P V d:Nat} (u:0<P) (hV:0<V) (h:U<P*(d*V)):U/P/V<d:=by
 rw[g3g hV,g3g u,g3d];exact h
theorem E4x {U0 U W V P d q q':Nat} (he:U0=q*V+U) (hW:W+P*(d*V)=U) (hq:q'=q+P*d) (u:0<P) (hV:0<V) (hd:U/P/V=d):U0=q'*V+W/\W<V*P:=by
 refine⟨by subst hq;rw[he, <-hW];grind, ?_⟩;have h1:¬(P*((d+1)*V)<=U):=fun h=>by have:=G5l u hV h;omega
 have e:P*((d+1)*V)=P*(d*V)+V*P:=by grind
 omega
theorem G9x {q:List Int} (hq:A5 q) {Q j d:Nat} (u:nv q=Q*4294967296^(j+1)) (hj:j<q.length):nv (q.set j (d:Int))=nv q+4294967296^j*d/\nv (q.set j (d:Int))=(Q*4294967296+d)*4294967296^j:=by
 have hP:0<4294967296^j:=g3m (by decide);have h:=B1l (l:=q) (k:=j) (v:=(d:Int)) hj;rw[g0i]at h;have h0:dg q j=0:=by
  rw[D7q hq,u,g2a,g3d (4294967296^j), <-g2m,Nat.mul_div_cancel _ hP,Nat.mul_mod_left]
 rw[h0,g5z,g2x]at h;refine⟨h, ?_⟩;rw[h,u,g2a];grind
theorem G2u {x c y:Nat} (hx:x<=4294967295) (u:c<=1) (hy:y<=4294967295):∃c' s':Nat,
 Int.fdiv (u64.wrap ((c:Int)+u64.wrap ((y:Int)+(x:Int)))) (2^32)=(c':Int)/\
 u32.wrap (u64.wrap ((c:Int)+u64.wrap ((y:Int)+(x:Int))))=(s':Int)/\c'<=1/\s'+4294967296*c'=c+(y+x):=by
 rw[w64 (a:=(y:Int)+(x:Int)) (by omega) (by omega),w64 (a:=(c:Int)+((y:Int)+(x:Int))) (by omega) (by omega),H2h,A1l];exact⟨(c+(y+x))/4294967296,(c+(y+x))%4294967296,by omega,by omega,by omega,by omega⟩
theorem A9k (x:A9 J2.args) (hw:awf J2.args x) (hp:J2.pre x):A4c x:=by
 obtain⟨a,b,_⟩:=x;have ha:A5 a:=A2 hw.1.2;have hb:A5 b:=A2 hw.2.1.2;change List Int at a b;obtain⟨la,b2,c3,ah⟩:a.length<=17592186044416/\2<=b.length/\b.length<=a.length/\B4g b:=hp;obtain⟨N,hN⟩:∃N,b.length=N+2:=⟨b.length-2,by omega⟩;have hd:=D0y hb ah;rw[show b.length-1=N+1 from by omega]at hd;simp only[A4c,Int.sub_zero,Int.zero_add];rw[wr (a:=(b.length:Int)-1) (by omega) (by omega),wr (a:=(b.length:Int)-2) (by omega) (by omega),A8l hb (by omega) (by omega),show((b.length:Int)-1).toNat=N+1 from by omega,show((b.length:Int)-2).toNat=N from by omega];refine⟨⟨by omega,by omega⟩,trivial, ?_⟩;rintro⟨s,_⟩ _ hs;change Int at s;simp only at hs⊢;rw[g0i]at hs;have c4:=R6 hb (N+1);have bv:=E0c (v:=dg b (N+1)) (by omega);have c2:=(C7a hd).2;refine⟨⟨by show b.length<= _;omega,by omega,by omega⟩, ?_⟩;rintro⟨v,_⟩ ⟨bj,_⟩ ⟨az,hv⟩;refine⟨⟨g0k _,by omega,by simp only at az⊢;omega⟩,⟨by show a.length<= _;omega,by omega,by omega⟩, ?_⟩;rintro⟨u0,_⟩ ⟨bi,_⟩ ⟨bg,hu⟩;have a0:A5 v:=A2 bj.2;have bz:A5 u0:=A2 bi.2;change List Int at v u0;simp only at az hv bg hu⊢;have a6:nv v<4294967296^(N+2):=by
  rw[hv];exact F9z hb (n:=N+1) (by omega) (s:=s.toNat) (by omega)
 have ag:4294967296^(N+1)<=nv v:=by
  have e1:=B9f b (n:=N+1) (by omega);have h3:4294967296^(N+1)<=nv b:=by
   have:=g2t (4294967296^(N+1)) (g2p hd);omega
  rw[hv];exact g0t h3 (Nat.le_mul_of_pos_right _ (g3m (by decide)))
 have ay:=H1a a0 ag a6;have a1:0<nv v:=g1f (g3m (by decide)) ag;obtain⟨D,hD⟩:∃D,u0.length=D+(N+2):=⟨u0.length-(N+2),by omega⟩;have ax:=G3f (S:=s.toNat) ha hb hN hd (D:=D) (by omega);rw[<-hu, <-hv]at ax;rw[wr (a:=(u0.length:Int)-(b.length:Int)) (by omega) (by omega),show(u0.length:Int)-(b.length:Int)=(D:Int)from by omega];have c0:1<=D:=by omega
 refine⟨⟨by omega,g0k _,by omega,by omega⟩, ?_⟩;refine⟨fun p=>0<=p.1/\p.1<=(D:Int)/\p.2.1.length=u0.length/\p.2.2.1.length=D/\nv u0=nv p.2.2.1*nv v+nv p.2.1/\nv p.2.1<nv v*4294967296^((D:Int)-p.1).toNat/\∃Q,nv p.2.2.1=Q*4294967296^((D:Int)-p.1).toNat,fun p=>((D:Int)-p.1).toNat,⟨g0k _,g0d _,rfl,by simp, ?_, ?_,0, ?_⟩, ?_⟩
 . show nv u0=nv (List.replicate _ 0)*nv v+nv u0;rw[B6g];omega
 . show nv u0<nv v*4294967296^((D:Int)-0).toNat;rw[show((D:Int)-0).toNat=D from by omega];exact ax
 . show nv (List.replicate _ 0)= _;rw[B6g];omega
 rintro⟨k,u,q,_⟩ ⟨_,b1,bh,_⟩ ⟨k0,k1,ul,ql,he,a8,Q,hQ⟩;change Int at k;have a5:A5 u:=A2 b1.2;have aw:A5 q:=A2 bh.2;change List Int at u q;simp only at k0 k1 ul ql he a8 hQ⊢;refine⟨fun hk=> ?_,fun hk=> ?_⟩
 . have hk:=g0a hk;obtain⟨j,hj⟩:∃j:Nat,(D:Int)-1-k=(j:Int):=⟨((D:Int)-1-k).toNat,by omega⟩;rw[show((D:Int)-k).toNat=j+1 from by omega]at a8 hQ;rw[wr (a:=(D:Int)-1) (by omega) (by omega),hj,wr (a:=(j:Int)) (by omega) (by omega),wr (a:=(j:Int)+(b.length:Int)) (by omega) (by omega),wr (a:=(j:Int)+(b.length:Int)+1) (by omega) (by omega),wr (a:=k+1) (by omega) (by omega)];rw[show((j:Int)+(b.length:Int)).toNat=j+N+2 from by omega,show((j:Int)+((b.length:Int)-1)).toNat=j+N+1 from by omega,show((j:Int)+((b.length:Int)-2)).toNat=j+N from by omega];have c6:j+1<=D:=by omega
   have a7:=H3o a5 a0 (j:=j) (n:=N) (by omega) a6 ay (by omega) a8;have v1b:=R6 a0 (N+1);have v2b:=R6 a0 N;have bs:=R6 a5 (j+N+2);have bt:=R6 a5 (j+N+1);have bu:=R6 a5 (j+N);have a9:0<4294967296^j:=g3m (by decide);refine⟨fun p=>p.1.length=u0.length/\p.2.1.length=D/\nv u0=nv p.2.1*nv v+nv p.1/\nv p.1<nv v*4294967296^j/\∃Q,nv p.2.1=Q*4294967296^j, ?_, ?_⟩
   . rw[Y5 a0,Y5 a0,Y5 a5,Y5 a5,Y5 a5];rw[w64 (a:=(dg v (N+1):Int)) (by omega) (by omega),w64 (a:=(dg v N:Int)) (by omega) (by omega),w64 (a:=(dg u (j+N+2):Int)) (by omega) (by omega),w64 (a:=(dg u (j+N+1):Int)) (by omega) (by omega),w64 (a:=(dg u (j+N):Int)) (by omega) (by omega)];rw[show Min.min (Int.toNat 32) u64.bits=32 from rfl,show Min.min (Int.toNat 63) u64.bits=63 from rfl,show u64.bits=64 from rfl,E4h bs bt];refine⟨⟨by omega,by omega,by omega⟩,⟨by omega,by omega⟩,by decide,⟨by omega,by omega⟩,⟨by omega,by omega⟩,by omega,⟨by omega,by omega⟩,by omega, ?_⟩;have ab:=a7.est;have a4:= @Dig.near _ _ _ _ _ _ _ a7;have aa:= @Dig.dec _ _ _ _ _ _ _ a7;have ac:= @Dig.out _ _ _ _ _ _ _ a7;generalize b6:nv u/4294967296^j/nv v=QS at ab a4 aa ac⊢;refine⟨fun p=>QS<=p.1.toNat/\p.1.toNat<=QS+1/\0<=p.1/\p.1<4294967296, ?_, ?_⟩
     . refine⟨fun p=>∃d r:Nat,p.1=(d:Int)/\p.2.1=(r:Int)/\dg u (j+N+2)*4294967296+dg u (j+N+1)=d*dg v (N+1)+r/\QS<=d/\r<4294967296,fun p=>p.1.toNat, ?_, ?_⟩
       . have ai:0<dg v (N+1):=g2p ay;have bb:=(g4m ai).2 ab;have hm:=g5t (dg u (j+N+2)*4294967296+dg u (j+N+1)) ai;have b9:=g6i (dg u (j+N+2)*4294967296+dg u (j+N+1)) (dg v (N+1));have bx:=g6j (dg u (j+N+2)*4294967296+dg u (j+N+1)) (dg v (N+1));have hT:dg u (j+N+2)*4294967296+dg u (j+N+1)<=18446744073709551615:=by omega
         refine⟨(dg u (j+N+2)*4294967296+dg u (j+N+1))/dg v (N+1),(dg u (j+N+2)*4294967296+dg u (j+N+1))%dg v (N+1), ?_,rfl, ?_,bb,by omega⟩
         . show u64.wrap (Int.tdiv _ _)= _;have e:Int.tdiv ((dg u (j+N+2)*4294967296+dg u (j+N+1):Nat):Int) ((dg v (N+1):Nat):Int)=(((dg u (j+N+2)*4294967296+dg u (j+N+1))/dg v (N+1):Nat):Int):=rfl;rw[e];generalize (dg u (j+N+2)*4294967296+dg u (j+N+1))/dg v (N+1)=z at*;exact w64 (by omega) (by omega)
         . have:=b9.symm;rw[g3d (dg v (N+1))]at this;exact this
       . rintro⟨dd,rr,_⟩ ⟨av,_⟩ ⟨d,r,e1,e2,ht,be,hr⟩;change Int at dd rr;simp only at e1 e2 av⊢;subst e1 e2;have bw:(d:Int)<=18446744073709551615:=by have:=av.2;rw[C7o]at this;exact this
         rw[H2h,H2h,E4h (x:=r) (by omega) bu,G3t v2b];refine⟨by decide,fun _=>⟨by omega,by omega⟩,fun _=>by decide,fun _=>⟨by omega,by omega⟩,fun hc=> ?_,fun hc=> ?_⟩
         . have hc:=g0a hc;have c5:=aa ht be hc;rw[w64 (a:=(r:Int)+(dg v (N+1):Int)) (by omega) (by omega),w64 (a:=(d:Int)-1) (by omega) (by omega)];obtain⟨e,rfl⟩:∃e,d=e+1:=⟨d-1,by omega⟩;have ao:dg u (j+N+2)*4294967296+dg u (j+N+1)=e*dg v (N+1)+(r+dg v (N+1)):=by rw[ht,g4a,g6q];omega
           refine⟨⟨by omega,by omega⟩,by decide,fun h6=> ?_,fun h6=> ?_⟩
           . have h6:=g0a h6;obtain⟨o1,o2⟩:=ac ao (by omega) (by omega);have o3:=a4 ao o1 o2;have ee:(((e+1:Nat):Int)-1).toNat=e:=by omega
             refine⟨?_, ?_, ?_, ?_⟩
             . show _ <=(((e+1:Nat):Int)-1).toNat;rw[ee];omega
             . show(((e+1:Nat):Int)-1).toNat<= _;rw[ee];exact o3
             . show(0:Int)<=((e+1:Nat):Int)-1;omega
             . show((e+1:Nat):Int)-1< _;omega
           . have h6:(((r:Int)+(dg v (N+1):Int))/4294967296)=0:=Decidable.of_not_not (g0b h6);refine⟨⟨e,r+dg v (N+1),by omega,by omega,ao,by omega,by omega⟩,by omega⟩
         . have hc:=g0b hc;have o3:=a4 ht (by omega) (by omega);exact⟨by show _ <=(d:Int).toNat;omega,by show(d:Int).toNat<= _;omega,g0d _,by show(d:Int)< _;omega⟩
     . rintro⟨dd,_⟩ _ ⟨d1,d2,d3,d4⟩;change Int at dd;simp only at d1 d2 d3 d4⊢;obtain⟨d,rfl⟩:=g3v d3;rw[g0i]at d1 d2;clear ab a4 aa ac;refine⟨fun p=>∃c i:Nat,p.1=(c:Int)/\p.2.1=(i:Int)/\i<=N+2/\c<=d/\p.2.2.1.length=u0.length/\nv p.2.2.1+4294967296^j*(d*nv (v.take i))=nv u+4294967296^(j+i)*c/\∀m,j+i<=m->dg p.2.2.1 m=dg u m,fun p=>((N:Int)+2-p.2.1).toNat,⟨0,0,rfl,rfl,by omega,by omega,ul,by simp[nv],fun _ _=>rfl⟩, ?_⟩;rintro⟨cc,ii,w,_⟩ ⟨_,_,bk,_⟩ ⟨c,i,e1,e2,hi,hc,wl,hE,hK⟩;change Int at cc ii;have af:A5 w:=A2 bk.2;change List Int at w;simp only at e1 e2 hi hc wl hE hK⊢;subst e1 e2;refine⟨fun h1=> ?_,fun h1=> ?_⟩
       . have h1:(i:Int)<(b.length:Int):=g0a h1;have xb:=R6 a0 i;have yb:=R6 af (j+i);rw[show((i:Int)).toNat=i from g0i _,show((j:Int)+(i:Int)).toNat=j+i from by omega,Y5 a0,Y5 af,w64 (a:=(dg v i:Int)) (by omega) (by omega),w64 (a:=(dg w (j+i):Int)) (by omega) (by omega),wr (a:=(i:Int)+1) (by omega) (by omega)];obtain⟨c',s',q1,q2,q3,q4⟩:=G3u (d:=d) (x:=dg v i) (c:=c) (y:=dg w (j+i)) (by omega) xb hc yb;rw[q1,q2];refine⟨⟨by omega,h1⟩,⟨by omega,by omega⟩,⟨by omega,by omega⟩,by decide,by decide,⟨c',i+1,rfl,by omega,by omega,q3,by rw[g0j];exact wl, ?_, ?_⟩,by omega⟩
         . have a3:=B1l (l:=w) (k:=j+i) (v:=(s':Int)) (by omega);rw[g0i]at a3;rw[G3,show j+(i+1)=(j+i)+1 from by omega,g2a _ (j+i)];exact F9v hE a3 q4 (g4l ..)
         . intro m hm;rw[C8n (by omega),g0u (by omega)];exact hK m (by omega)
       . have h1:=g0b h1;have ak:i=N+2:=by omega
         subst ak;rw[A5m a0,g3j a6]at hE;have ap:=hK (j+N+2) (by omega);rw[Y5 af,ap,w64 (a:=(dg u (j+N+2):Int)) (by omega) (by omega),H4t,show((j:Int)).toNat=j from g0i _];have bc:nv u<4294967296^(j+N+3):=by
          refine g1f a8 ?_;have e:4294967296^(j+N+3)=4294967296^(N+2)*4294967296^(j+1):=by rw[<-g4l];congr 1;omega
          rw[e];exact g1d _ (g5o a6)
         rw[show j+(N+2)=j+N+2 from by omega]at hE;refine⟨⟨by omega,by omega⟩,⟨by omega,by omega⟩,by decide,fun h2=> ?_,fun h2=> ?_⟩
         . have h2:=g0a h2;have au:c<=dg u (j+N+2):=by rw[A1u]at h2;omega
           rw[w64 (a:=(dg u (j+N+2):Int)-(c:Int)) (by omega) (by omega),w32 (a:=(dg u (j+N+2):Int)-(c:Int)) (by omega) (by omega),w32 (a:=(d:Int)) (by omega) (by omega)];have a3:=B1l (l:=w) (k:=j+N+2) (v:=(dg u (j+N+2):Int)-(c:Int)) (by omega);rw[ap,show((dg u (j+N+2):Int)-(c:Int)).toNat=dg u (j+N+2)-c from by omega,Nat.mul_sub]at a3;have ar:=g2t (4294967296^(j+N+2)) au;have hW:nv (w.set (j+N+2) ((dg u (j+N+2):Int)-(c:Int)))+4294967296^j*(d*nv v)=nv u:=by omega
           have ba:=G5l a9 a1 (U:=nv u) (d:=d) (by omega);obtain⟨s1,s2⟩:=G9x aw (d:=d) hQ (by omega);obtain⟨f1,f2⟩:=E4x he hW s1 a9 a1 (by omega);exact⟨⟨by omega,by omega⟩,by show(List.set _ _ _).length= _;rw[g0j];exact wl,by show(List.set _ _ _).length= _;rw[g0j];exact ql,f1,f2,_,s2⟩
         . have h2:=g0b h2;have au:dg u (j+N+2)<c:=by rw[A1u]at h2;omega
           have b5:u32.wrap (u64.wrap ((dg u (j+N+2):Int)-(c:Int)))=((dg u (j+N+2)+4294967296-c:Nat):Int):=by
            rw[A1u,A1l];omega
           rw[b5];have a3:=B1l (l:=w) (k:=j+N+2) (v:=((dg u (j+N+2)+4294967296-c:Nat):Int)) (by omega);rw[ap,g0i,Nat.mul_sub,g3e]at a3;have ar:=g2t (4294967296^(j+N+2)) (show c<=dg u (j+N+2)+4294967296 by omega);rw[g3e]at ar;have bq:A5 (w.set (j+N+2) ((dg u (j+N+2)+4294967296-c:Nat):Int)):=E6a af (by show 0<= _ /\ _ <= _;omega);have b3:∀m,j+N+3<=m->dg (w.set (j+N+2) ((dg u (j+N+2)+4294967296-c:Nat):Int)) m=0:=fun m hm=>by
            rw[C8n (by omega),g0u (by omega),hK m (by omega)];exact F5g a5 bc hm
           have am:(w.set (j+N+2) ((dg u (j+N+2)+4294967296-c:Nat):Int)).length=u0.length:=by rw[g0j];exact wl
           generalize w.set (j+N+2) ((dg u (j+N+2)+4294967296-c:Nat):Int)=w1 at*;have b8:nv w1+4294967296^j*(d*nv v)=nv u+4294967296^(j+N+2)*4294967296:=by omega
           have aq:nv w1<4294967296^(j+N+2)*4294967296:=by
            have h:=P8 bq (j+N+3);rw[D0z b3, <-H4r (j+N)]at h;exact h
           have ba:=H0n a9 a1 (U:=nv u) (d:=d) (by omega);obtain⟨e,rfl⟩:∃e,d=e+1:=⟨d-1,by omega⟩;refine⟨fun p=>∃c i:Nat,p.1=(c:Int)/\p.2.1=(i:Int)/\i<=N+2/\c<=1/\p.2.2.1.length=u0.length/\nv p.2.2.1+4294967296^(j+i)*c=nv w1+4294967296^j*nv (v.take i)/\∀m,j+i<=m->dg p.2.2.1 m=dg w1 m,fun p=>((N:Int)+2-p.2.1).toNat,⟨0,0,rfl,rfl,by omega,by omega,am,by simp[nv],fun _ _=>rfl⟩, ?_⟩;rintro⟨cc,ii,y,_⟩ ⟨_,_,bm,_⟩ ⟨g,i,e1,e2,hi,hg,yl,ae,aj⟩;change Int at cc ii;have ad:A5 y:=A2 bm.2;change List Int at y;simp only at e1 e2 hi hg yl ae aj⊢;subst e1 e2;refine⟨fun h1=> ?_,fun h1=> ?_⟩
           . have h1:(i:Int)<(b.length:Int):=g0a h1;have xb:=R6 a0 i;have yb:=R6 ad (j+i);rw[show((i:Int)).toNat=i from g0i _,show((j:Int)+(i:Int)).toNat=j+i from by omega,Y5 a0,Y5 ad,w64 (a:=(dg v i:Int)) (by omega) (by omega),w64 (a:=(dg y (j+i):Int)) (by omega) (by omega),wr (a:=(i:Int)+1) (by omega) (by omega)];obtain⟨c',s',q1,q2,q3,q4⟩:=G2u (x:=dg v i) (c:=g) (y:=dg y (j+i)) xb hg yb;rw[q1,q2];refine⟨⟨by omega,h1⟩,⟨by omega,by omega⟩,⟨by omega,by omega⟩,by decide,⟨c',i+1,rfl,by omega,by omega,q3,by rw[g0j];exact yl, ?_, ?_⟩,by omega⟩
             . have a2:=B1l (l:=y) (k:=j+i) (v:=(s':Int)) (by omega);rw[g0i]at a2;rw[G3,show j+(i+1)=(j+i)+1 from by omega,g2a _ (j+i)];exact F6d ae a2 q4 (g4l ..)
             . intro m hm;rw[C8n (by omega),g0u (by omega)];exact aj m (by omega)
           . have h1:=g0b h1;have ak:i=N+2:=by omega
             subst ak;rw[A5m a0,g3j a6,show j+(N+2)=j+N+2 from by omega]at ae;have yb:=R6 ad (j+N+2);have ez:u32.wrap ((dg y (j+N+2):Int)+u32.wrap (g:Int))=(((dg y (j+N+2)+g)%4294967296:Nat):Int):=by
              rw[w32 (a:=(g:Int)) (by omega) (by omega),A1l];omega
             have ed:u32.wrap (u64.wrap (((e+1:Nat):Int)-1))=(e:Int):=by
              rw[w64 (by omega) (by omega),w32 (by omega) (by omega)];omega
             rw[Y5 ad,ez,ed];have a2:=B1l (l:=y) (k:=j+N+2) (v:=(((dg y (j+N+2)+g)%4294967296:Nat):Int)) (by omega);rw[g0i]at a2;obtain⟨o,ho,bd⟩:∃o,dg y (j+N+2)+g=(dg y (j+N+2)+g)%4294967296+4294967296*o/\o<=1:=⟨(dg y (j+N+2)+g)/4294967296,by omega,by omega⟩;have zL:A5 (y.set (j+N+2) (((dg y (j+N+2)+g)%4294967296:Nat):Int)):=E6a ad (by show 0<= _ /\ _ <= _;omega);have bn:∀m,j+N+3<=m->dg (y.set (j+N+2) (((dg y (j+N+2)+g)%4294967296:Nat):Int)) m=0:=fun m hm=>by
              rw[C8n (by omega),g0u (by omega),aj m (by omega)];exact b3 m hm
             have bp:(y.set (j+N+2) (((dg y (j+N+2)+g)%4294967296:Nat):Int)).length=u0.length:=by rw[g0j];exact yl
             generalize y.set (j+N+2) (((dg y (j+N+2)+g)%4294967296:Nat):Int)=z at*;have b4:nv z<4294967296^(j+N+2)*4294967296:=by
              have h:=P8 zL (j+N+3);rw[D0z bn, <-H4r (j+N)]at h;exact h
             obtain⟨b7,hW⟩:=G2e (U:=nv u) (P:=4294967296^j) (V:=nv v) (e:=e) (M:=4294967296^(j+N+2)) a9 a1 b8 aq (by rw[b6];exact d2) ae a2 ho bd b4;obtain⟨s1,s2⟩:=G9x aw (d:=e) hQ (by omega);obtain⟨f1,f2⟩:=E4x he hW s1 a9 a1 b7;exact⟨⟨by omega,by omega⟩,⟨by omega,by omega⟩,⟨by omega,by omega⟩,bp,by show(List.set _ _ _).length= _;rw[g0j];exact ql,f1,f2,_,s2⟩
   . rintro⟨u',q',_⟩ _ ⟨j1,j2,j3,j4,Q',j5⟩;simp only at j1 j2 j3 j4 j5⊢;rw[show((D:Int)-(k+1)).toNat=j from by omega];exact⟨⟨by omega,by omega,j1,j2,j3,j4,Q',j5⟩,by omega⟩
 . have hk:=g0b hk;rw[show((D:Int)-k).toNat=0 from by omega,h2u,g8m]at a8;have bf:0<=s:=by omega
   obtain⟨f1,f2⟩:=H0p (A:=nv a) (B:=nv b) (S:=s.toNat) (q:=nv q) (r:=nv u) (g2p (D5y hb ah)) (by rw[<-hu, <-hv];exact he) (by rw[<-hv];exact a8);refine⟨⟨g0k _,by omega,by omega⟩, ?_, ?_⟩
   . show(List.drop _ (List.take _ _)).length<= _;rw[g2l,g0q];omega
   rintro⟨m,ok,_⟩ _ hm;refine⟨trivial, ?_⟩;rintro⟨z,_⟩ _ hz;simp only at hm hz⊢;have hm:=(hm.2 bf).1;rw[show(Int.toNat 0)=0 from rfl,g3n,show((b.length:Int)).toNat=b.length from g0i _,A5m a5,hN,g3j (by omega),f2]at hm;exact⟨by rw[hz,f1],hm⟩
def C5s:An:= {plan:= [(8,[],[],true,(pR 0 3 (pR 4 3 (.e 3 (.e 7 (pR 8 3 .done))))))]}
def D4n:An:= {join:= [(4,⟨[],[],[(0,false,[.val (.sl (.int .u32))]),(1,false,[.val (.sl (.int .u32))])],[],[]⟩)],loop:= [(7,⟨[],[],[(5,false,vU),(6,false,vU)],[],[]⟩),(4,⟨[],[],[(0,false,[.val (.sl (.int .u32))]),(1,false,[.val (.sl (.int .u32))])],[],[]⟩)],plan:= [(8,[],[],true,(pR 0 6 .done)),(15,[2,5,9,12],[],true,(.p 0 (.p 1 (.q 2 (.p 3 (.p 4 (.q 5 (.p 7 (.p 8 (.q 9 (.p 10 (.p 11 (.q 12 (.e 6 (.e 13 (.p 14 (.p 15 .done))))))))))))))))),(16,[2,5,9,12],[],true,(.p 0 (.p 1 (.q 2 (.p 3 (.p 4 (.q 5 (.p 7 (.p 8 (.q 9 (.p 10 (.p 11 (.q 12 (.e 6 (.e 13 (.p 14 (.p 15 .done)))))))))))))))))]}
def A9i:A9 U4.args->Prop:=fun(x:List Int×List Int×Unit)=>let e:=(0:Nat);let d:=(nv x.1%nv x.2.1);let c:=(nv x.1/nv x.2.1);let b:=(0:Int);True/\∀(r:List Int×Unit),let f:Prop:=((r.1.length:Int)<=(2:Int));WfU r.1/\True->r.1=nc (nv x.1)->True/\∀(h:List Int×Unit),let a:=(h.1.length:Int);WfU h.1/\True->h.1=nc (nv x.2.1)->(decide (a=b)=true->(nv x.2.1=e->B2r Int= []/\B2r Int= []/\false=false)/\(nv x.2.1≠e->B2r Int=nc c/\B2r Int=nc d/\false=true))/\(decide (a=b)=false->True/\∀(i:Int×Unit),G1 i.1/\True->i.1=B3y (nv r.1) (nv h.1)->(decide (i.1<b)=true->sh0 r.1/\∀(g:List Int×Unit),WfU g.1/\True->g.1=nc (nv r.1)->(nv x.2.1=e->B2r Int= []/\g.1= []/\true=false)/\(nv x.2.1≠e->B2r Int=nc c/\g.1=nc d/\true=true))/\(decide (i.1<b)=false->(decide f=true->List.length r.1<=2/\∀(g:Int×Unit),B2m g.1/\True->g.1=(↑(nv r.1):Int)->List.length h.1<=2/\∀(r:Int×Unit),B2m r.1/\True->r.1=(↑(nv h.1):Int)->r.1≠b/\r.1≠b/\True/\∀(j:List Int×Unit),WfU j.1/\True->j.1=nc (u64.wrap (Int.tdiv g.1 r.1)).toNat->True/\∀(k:List Int×Unit),WfU k.1/\True->k.1=nc (Int.tmod g.1 r.1).toNat->(nv x.2.1=e->j.1= []/\k.1= []/\true=false)/\(nv x.2.1≠e->j.1=nc c/\k.1=nc d/\true=true))/\(decide f=false->(decide (a=(1:Int))=true->(b<=b/\b<a)/\(sh1 r.1/\gx b h.1 b≠b)/\∀(g:List Int×List Int×Unit),WfU g.1/\WfU g.2.1/\True->g.1=nc (nv r.1/(gx b h.1 b).toNat)/\g.2.1=nc (nv r.1%(gx b h.1 b).toNat)->(nv x.2.1=e->g.1= []/\g.2.1= []/\true=false)/\(nv x.2.1≠e->g.1=nc c/\g.2.1=nc d/\true=true))/\(decide (a=(1:Int))=false->(sh1 r.1/\(2:Nat)<=List.length h.1/\List.length h.1<=List.length r.1/\B4g h.1)/\∀(g:List Int×List Int×Unit),WfU g.1/\WfU g.2.1/\True->g.1=nc (nv r.1/nv h.1)/\g.2.1=nc (nv r.1%nv h.1)->(nv x.2.1=e->g.1= []/\g.2.1= []/\true=false)/\(nv x.2.1≠e->g.1=nc c/\g.2.1=nc d/\true=true)))))
def B9d:A9 A2m.args->Prop:=fun(x:List Int×List Int×Unit)=>let e:=(nv x.2.1);let a:=(0:Int);True/\∀(r:List Int×Unit),WfU r.1/\True->r.1=nc (nv x.1)->True/\∀(j:List Int×Unit),WfU j.1/\True->j.1=nc e->∃(J:List Int×List Int×Unit->Prop),(True/\∀(h:Int×Unit),G1 h.1/\True->h.1=B3y (nv r.1) (nv j.1)->(decide (h.1<a)=true->J (j.1,r))/\(decide (h.1<a)=false->J (r.1,j)))/\∀(p:List Int×List Int×Unit),(Ty.int u32).sl.wf p.1/\(Ty.int u32).sl.wf p.2.1/\True->J p->∃(I:List Int×List Int×Unit->Prop),∃(μ: _->Nat),I (p.1,p.2.1,())/\∀(p:List Int×List Int×Unit),let g:=(↑(nv p.2.1):Int);let d:=(p.2.1.length:Int);let c:Prop:=((p.1.length:Int)<=(2:Int));(Ty.int u32).sl.wf p.1/\(Ty.int u32).sl.wf p.2.1/\True->I p->(decide (a<d)=true->(decide c=true->List.length p.1<=2/\∀(r:Int×Unit),B2m r.1/\True->r.1=(↑(nv p.1):Int)->List.length p.2.1<=2/\∀(h:Int×Unit),B2m h.1/\True->h.1=g->∃(I:Int×Int×Unit->Prop),∃(μ: _->Nat),I (r.1,h)/\∀(p:Int×Int×Unit),let b:=(p.2.1,Int.tmod p.1 p.2.1,());(Ty.int u64).wf p.1/\(Ty.int u64).wf p.2.1/\True->I p->(decide (p.2.1≠a)=true->p.2.1≠a/\I b/\μ b<μ p)/\(decide (p.2.1≠a)=false->True/\∀(r:List Int×Unit),WfU r.1/\True->r.1=nc p.1.toNat->r.1=nc ((nv x.1).gcd e)))/\(decide c=false->(sh1 p.1/\(3:Nat)<=List.length p.1/\B4g p.1/\nv p.2.1<=nv p.1/\List.length p.2.1<=List.length p.1)/\∀(r:(Int×Int×Int×Int×Bool)×Unit),(B2m r.1.1/\B2m r.1.2.1/\B2m r.1.2.2.1/\B2m r.1.2.2.2.1/\True)/\True->H4l (↑(nv p.1):Int) g r.1.1 r.1.2.1 r.1.2.2.1 r.1.2.2.2.1 r.1.2.2.2.2->(decide (r.1.2.2.1=a)=true->sh1 p.1/\∀(r:List Int×List Int×Bool×Unit),let f:=(p.2.1,r.2.1,());WfU r.1/\WfU r.2.1/\True/\True->(nv p.2.1=0->r.1= []/\r.2.1= []/\r.2.2.1=false)/\(nv p.2.1≠0->r.1=nc (nv p.1/nv p.2.1)/\r.2.1=nc (nv p.1%nv p.2.1)/\r.2.2.1=true)->I f/\μ f<μ p)/\(decide (r.1.2.2.1=a)=false->(r.1.2.2.2.2=true->(sh2 p.1/\sh2 p.2.1/\nv p.2.1*Int.toNat r.1.2.2.1<=nv p.1*Int.toNat r.1.1)/\∀(h:List Int×Unit),WfU h.1/\True->h.1=nc (nv p.1*Int.toNat r.1.1-nv p.2.1*Int.toNat r.1.2.2.1)->(sh2 p.2.1/\sh2 p.1/\nv p.1*Int.toNat r.1.2.1<=nv p.2.1*Int.toNat r.1.2.2.2.1)/\∀(i:List Int×Unit),WfU i.1/\True->i.1=nc (nv p.2.1*Int.toNat r.1.2.2.2.1-nv p.1*Int.toNat r.1.2.1)->I (h.1,i)/\μ (h.1,i)<μ p)/\(r.1.2.2.2.2=false->(sh2 p.2.1/\sh2 p.1/\nv p.1*Int.toNat r.1.1<=nv p.2.1*Int.toNat r.1.2.2.1)/\∀(h:List Int×Unit),WfU h.1/\True->h.1=nc (nv p.2.1*Int.toNat r.1.2.2.1-nv p.1*Int.toNat r.1.1)->(sh2 p.1/\sh2 p.2.1/\nv p.2.1*Int.toNat r.1.2.2.2.1<=nv p.1*Int.toNat r.1.2.1)/\∀(i:List Int×Unit),WfU i.1/\True->i.1=nc (nv p.1*Int.toNat r.1.2.1-nv p.2.1*Int.toNat r.1.2.2.2.1)->I (h.1,i)/\μ (h.1,i)<μ p))))/\(decide (a<d)=false->sh0 p.1/\∀(r:List Int×Unit),WfU r.1/\True->r.1=nc (nv p.1)->r.1=nc ((nv x.1).gcd e))
theorem B7r (x:A9 U4.args) (hw:awf U4.args x) (hp:U4.pre x):A9i x:=by
 obtain⟨a,b,_⟩:=x;have ha:A5 a:=A2 hw.1.2;have hb:A5 b:=A2 hw.2.1.2;change List Int at a b;have la:a.length<=17592186044416:=hp;have n1:=C0 ha;simp only[A9i];refine⟨trivial, ?_⟩;rintro⟨r,_⟩ _ hr;refine⟨trivial, ?_⟩;rintro⟨s,_⟩ _ hs;simp only at hr hs⊢;have a1:nv r=nv a:=by rw[hr,F4]
 have a2:nv s=nv b:=by rw[hs,F4]
 have a5:r.length<=a.length:=by rw[hr];exact n1
 have ab:A5 r:=hr▸G8 _;have a9:A5 s:=hs▸G8 _;refine⟨fun h=> ?_,fun h=> ?_⟩
 . have h:=g0a h;have h0:nv b=0:=by rw[<-a2,g0m (l:=s) (by omega)];rfl
   exact⟨fun _=>⟨by trivial,by trivial,by trivial⟩,fun h1=>absurd h0 h1⟩
 have h:=g0b h;have a0:nv b≠0:=fun h0=>h (by rw[hs,h0,O4];rfl)
 refine⟨trivial, ?_⟩;rintro⟨d,_⟩ _ hd;simp only at hd⊢;rw[a1,a2]at hd;refine⟨fun h=> ?_,fun h=> ?_⟩
 . have h:=g0a h;have a6:nv a<nv b:=by
    rcases g2i (nv a) (nv b)with h1|h1
    . exact h1
    . unfold B3y at hd;rw[g0u (by omega)]at hd;split at hd<;>omega
   refine⟨g0t a5 (g0t la (by decide)), ?_⟩;rintro⟨t,_⟩ _ ht;simp only at ht⊢;refine⟨fun h0=>absurd h0 a0,fun _=>⟨?_, ?_,by trivial⟩⟩
   . rw[g3t a6,O4]
   . rw[g3j a6,ht,a1]
 have h:=g0b h;have a8:nv b<=nv a:=by
  rcases g2i (nv a) (nv b)with h1|h1
  . rw[B3g h1]at hd;omega
  . exact h1
 have aa:s.length<=r.length:=by rw[hr,hs];exact H7 a8
 refine⟨fun h2=> ?_,fun h2=> ?_⟩
 . have h2:=g0a h2;refine⟨by omega, ?_⟩;rintro⟨x,_⟩ ⟨hx,_⟩ a3;refine⟨by omega, ?_⟩;rintro⟨y,_⟩ ⟨hy,_⟩ a4;change Int at x y;simp only at hx hy a3 a4⊢;rw[a1]at a3;rw[a2]at a4;have ac:x<=18446744073709551615:=by have:=hx.2;rw[C7o]at this;exact this
   have e1:Int.tdiv x y=((nv a/nv b:Nat):Int):=by rw[a3,a4];rfl
   have e2:Int.tmod x y=((nv a%nv b:Nat):Int):=by rw[a3,a4];rfl
   have hq:nv a/nv b<=nv a:=g6j _ _;refine⟨by omega,by omega,trivial, ?_⟩;rintro⟨q,_⟩ _ a7;refine⟨trivial, ?_⟩;rintro⟨m,_⟩ _ hm;simp only at a7 hm⊢;refine⟨fun h0=>absurd h0 a0,fun _=>⟨?_, ?_,by trivial⟩⟩
   . rw[a7,e1];generalize nv a/nv b=Q at*;rw[w64 (by omega) (by omega)];rfl
   . rw[hm,e2];rfl
 have h2:=g0b h2;refine⟨fun h3=> ?_,fun h3=> ?_⟩
 . have h3:=g0a h3;have e:(gx (0:Int) s (0:Int)).toNat=nv b:=by
    rw[<-a2];obtain⟨z,rfl⟩:∃z,s= [z]:=h1k.1 (by omega);show z.toNat=z.toNat+4294967296*0;omega
   have hg:=C0f a9 (i:=0) (g0k _) (by omega);refine⟨⟨g0k _,by omega⟩,⟨g0t a5 la,by omega⟩, ?_⟩;rintro⟨q,m,_⟩ _ u;simp only at u⊢;rw[e,a1]at u;exact⟨fun h0=>absurd h0 a0,fun _=>⟨u.1,u.2,by trivial⟩⟩
 have h3:=g0b h3;refine⟨⟨g0t a5 la,by omega,aa,by rw[hs];exact E3x a0⟩, ?_⟩;rintro⟨q,m,_⟩ _ u;simp only at u⊢;rw[a1,a2]at u;exact⟨fun h0=>absurd h0 a0,fun _=>⟨u.1,u.2,by trivial⟩⟩
structure F9q (A B A' B':Nat):Prop where
 g:Nat.gcd A' B'=Nat.gcd A B
 le:B'<=A'
 lt:A'+B'<A+B
 top:A'<=A
theorem F8b {A B:Nat} (h:B<=A) (u:0<B):F9q A B B (A%B) where
 g:=by rw[g6o A B,g6o B];exact(h2k B A).symm
 le:=g5o (g5t _ u)
 lt:=by have:=g5t A u;omega
 top:=h
theorem F6m {A B:Nat} {u0 u1 v0 v1:Int} {ev:Bool} (hB:0<B) (h:H4l A B u0 u1 v0 v1 ev) (hv:v0≠0):
 (ev=true->B*v0.toNat<=A*u0.toNat/\A*u1.toNat<=B*v1.toNat/\F9q A B (A*u0.toNat-B*v0.toNat) (B*v1.toNat-A*u1.toNat))/\
 (ev=false->A*u0.toNat<=B*v0.toNat/\B*v1.toNat<=A*u1.toNat/\F9q A B (B*v0.toNat-A*u0.toNat) (A*u1.toNat-B*v1.toNat)):=by
 rcases h with h| ⟨A',B',eA,eB,h0,h1,iA,iB,p1,p2,p3,p4⟩
 . exact absurd h hv
 have hg:=G3o (A:=A) (B:=B) (A':=A') (B':=B') (u0:=u0) (u1:=u1) (v0:=v0) (v1:=v1) (s:=if ev then u0 else -u0) (t:=if ev then -v0 else v0) (p:=if ev then -u1 else u1) (q:=if ev then v1 else -v1) iA iB (by rw[eA];cases ev<;>simp<;>grind) (by rw[eB];cases ev<;>simp<;>grind);obtain⟨U0,rfl⟩:=g3v p3;obtain⟨U1,rfl⟩:=g3v p4;obtain⟨V0,rfl⟩:=g3v (show(0:Int)<=v0 by omega);obtain⟨V1,rfl⟩:=g3v (show(0:Int)<=v1 by omega);obtain⟨b,rfl⟩:=g3v h0;obtain⟨a,rfl⟩:=g3v (Int.le_trans h0 h1);simp only[g0i];have k1:(1:Int)*(a:Int)<=(V1:Int)*a:=g2b p2 (by omega);have k2:(1:Int)*(b:Int)<=(V0:Int)*b:=g2b p1 (by omega);have m1:∀x y:Nat,((x*y:Nat):Int)=(y:Int)*(x:Int):=fun x y=>by rw[g4c,h1x]
 have e1:=m1 A U0;have e2:=m1 B V0;have e3:=m1 A U1;have e4:=m1 B V1;have u:F9q A B a b:=⟨hg.symm,by omega,by omega,by omega⟩;refine⟨fun he=> ?_,fun he=> ?_⟩
 . subst he;simp only[g7g]at eA eB;have z1:A*U0-B*V0=a:=by omega
   have z2:B*V1-A*U1=b:=by omega
   refine⟨by omega,by omega, ?_⟩;rw[z1,z2];exact u
 . subst he;simp only[g5g,g8u]at eA eB;have z1:B*V0-A*U0=a:=by omega
   have z2:A*U1-B*V1=b:=by omega
   refine⟨by omega,by omega, ?_⟩;rw[z1,z2];exact u
theorem G1z {x y:Int} (hx:0<=x) (u:0<y):Nat.gcd y.toNat (Int.tmod x y).toNat=Nat.gcd x.toNat y.toNat/\(Int.tmod x y).toNat<y.toNat:=by
 obtain⟨a,rfl⟩:=g3v hx;obtain⟨b,rfl⟩:=g3v (g6y u);have e:Int.tmod (a:Int) (b:Int)=((a%b:Nat):Int):=rfl;simp only[e,g0i];have hb:0<b:=by omega
 exact⟨by rw[g6o a b,g6o b];exact(h2k b a).symm,g5t _ hb⟩
structure H1w (G:Nat) (a b:List Int):Prop where
 ea:a=nc (nv a)
 eb:b=nc (nv b)
 le:nv b<=nv a
 g:Nat.gcd (nv a) (nv b)=G
 len:a.length<=8796093022208
theorem H1w.step {G:Nat} {a b u b':List Int} {A' B':Nat} (h:H1w G a b) (s:F9q (nv a) (nv b) A' B') (ha:u=nc A') (hb:b'=nc B'):H1w G u b'/\nv u+nv b'<nv a+nv b:=by
 have e1:nv u=A':=by rw[ha,F4]
 have e2:nv b'=B':=by rw[hb,F4]
 refine⟨⟨by rw[e1];exact ha,by rw[e2];exact hb,by rw[e1,e2];exact s.le,by rw[e1,e2,s.g];exact h.g, ?_⟩,by rw[e1,e2];exact s.lt⟩;have:=H7 s.top;rw[<-h.ea]at this;rw[ha];exact g0t this h.len
theorem C6n (x:A9 A2m.args) (hw:awf A2m.args x) (hp:A2m.pre x):B9d x:=by
 obtain⟨a,b,_⟩:=x;have ha:A5 a:=A2 hw.1.2;have hb:A5 b:=A2 hw.2.1.2;change List Int at a b;obtain⟨la,lb⟩:a.length<=8796093022208/\b.length<=8796093022208:=hp;have n1:=C0 ha;have n2:=C0 hb;simp only[B9d];refine⟨trivial, ?_⟩;rintro⟨r,_⟩ _ hr;refine⟨trivial, ?_⟩;rintro⟨s,_⟩ _ hs;simp only at hr hs⊢;have a1:nv r=nv a:=by rw[hr,F4]
 have a2:nv s=nv b:=by rw[hs,F4]
 refine⟨fun p=>H1w (Nat.gcd (nv a) (nv b)) p.1 p.2.1,⟨trivial, ?_⟩, ?_⟩
 . rintro⟨d,_⟩ _ hd;simp only at hd⊢;rw[a1,a2]at hd;refine⟨fun h=> ?_,fun h=> ?_⟩
   . have h:=g0a h;refine⟨by rw[a2];exact hs,by rw[a1];exact hr, ?_,by rw[a1,a2,g6o],by rw[hs];omega⟩;rw[a1,a2];rcases g2i (nv a) (nv b)with h1|h1
     . omega
     . unfold B3y at hd;rw[g0u (by omega)]at hd;split at hd<;>omega
   . have h:=g0b h;refine⟨by rw[a1];exact hr,by rw[a2];exact hs, ?_,by rw[a1,a2],by rw[hr];omega⟩;rw[a1,a2];rcases g2i (nv a) (nv b)with h1|h1
     . rw[B3g h1]at hd;omega
     . exact h1
 rintro⟨a0,b0,_⟩ _ h0;simp only at h0⊢;refine⟨fun p=>H1w (Nat.gcd (nv a) (nv b)) p.1 p.2.1,fun p=>nv p.1+nv p.2.1,h0, ?_⟩;rintro⟨a',b',_⟩ ⟨a7,a8,_⟩ u;have aa:A5 a':=A2 a7.2;have ab:A5 b':=A2 a8.2;change List Int at a' b';simp only at u⊢;have a9:=u.len;have a6:b'.length<=a'.length:=by rw[u.ea,u.eb];exact H7 u.le
 refine⟨fun hc=> ?_,fun hc=> ?_⟩
 . have hc:=g0a hc;have hB:0<nv b':=by
    rcases g4t (nv b')with h1|h1
    . have:=u.eb;rw[h1,O4]at this;rw[this]at hc;exact absurd hc (by simp)
    . exact h1
   have a4:nv a'≠0:=by have:=u.le;omega
   refine⟨fun h2=> ?_,fun h2=> ?_⟩
   . have h2:=g0a h2;refine⟨by omega, ?_⟩;rintro⟨x,_⟩ _ hx;refine⟨by omega, ?_⟩;rintro⟨y,_⟩ _ hy;simp only at hx hy⊢;refine⟨fun p=>0<=p.1/\0<=p.2.1/\Nat.gcd p.1.toNat p.2.1.toNat=Nat.gcd (nv a) (nv b),fun p=>p.2.1.toNat,⟨by show(0:Int)<=x;omega,by show(0:Int)<=y;omega, ?_⟩, ?_⟩
     . show Nat.gcd x.toNat y.toNat= _;rw[hx,hy,g0i,g0i];exact u.g
     rintro⟨X,Y,_⟩ _ ⟨x0,y0,hg⟩;change Int at X Y;simp only at x0 y0 hg⊢;refine⟨fun h3=> ?_,fun h3=> ?_⟩
     . have h3:=g0a h3;obtain⟨g1,g2⟩:=G1z x0 (show 0<Y by omega);exact⟨h3,⟨y0,g8x _ x0,by rw[g1];exact hg⟩,g2⟩
     . have h3:Y=0:=Decidable.of_not_not (g0b h3);refine⟨trivial, ?_⟩;rintro⟨q,_⟩ _ hq;simp only at hq⊢;rw[h3]at hg;rw[hq, <-hg];exact g3q nc (h0i _).symm
   . have h2:=g0b h2;refine⟨⟨by omega,by omega,by rw[u.ea];exact E3x a4,u.le,a6⟩, ?_⟩;rintro⟨⟨u0,u1,v0,v1,ev⟩,_⟩ _ hL;change Int at u0 u1 v0 v1;change Bool at ev;simp only at hL⊢;refine⟨fun h4=> ?_,fun h4=> ?_⟩
     . refine⟨by omega, ?_⟩;rintro⟨q,m,ok,_⟩ _ a3;simp only at a3⊢;obtain⟨_,hm,_⟩:=a3.2 (by omega);exact u.step (F8b u.le hB) u.eb hm
     . have h4:=g0b h4;obtain⟨w1,w2⟩:=F6m hB hL h4;refine⟨fun he=> ?_,fun he=> ?_⟩
       . obtain⟨c1,c2,st⟩:=w1 he;refine⟨⟨by omega,by omega,c1⟩, ?_⟩;rintro⟨p,_⟩ _ hp;refine⟨⟨by omega,by omega,c2⟩, ?_⟩;rintro⟨q,_⟩ _ hq;simp only at hp hq⊢;exact u.step st hp hq
       . obtain⟨c1,c2,st⟩:=w2 he;refine⟨⟨by omega,by omega,c1⟩, ?_⟩;rintro⟨p,_⟩ _ hp;refine⟨⟨by omega,by omega,c2⟩, ?_⟩;rintro⟨q,_⟩ _ hq;simp only at hp hq⊢;exact u.step st hp hq
 . have hc:=g0b hc;refine⟨by show a'.length<=35184372088832;omega, ?_⟩;rintro⟨q,_⟩ _ hq;simp only at hq⊢;have a5:nv b'=0:=by rw[g0m (l:=b') (by omega)];rfl
   have:=u.g;rw[a5,h0i]at this;rw[hq,this]
def C6q:An:= {}
def C4k:An:= {}
def D3e:An:= {}
def D2i:An:= {plan:= [(1,[1,3],[6],true,(.p 0 (.q 1 (.p 2 (.q 3 (.e 4 (.e 5 (.e 6 .done))))))))]}
def D5q:An:= {plan:= [(1,[1,4],[7],true,(.p 0 (.q 1 (.p 2 (.p 3 (.q 4 (.e 5 (.e 6 (.e 7 .done)))))))))]}
def D5w:An:= {plan:= [(2,[1,3,5],[8],true,(.p 0 (.q 1 (.p 2 (.q 3 (.p 4 (.q 5 (.e 6 (.e 7 (.e 8 .done))))))))))]}
def D5h:An:= {plan:= [(1,[1,3,6,8],[11],true,(.p 0 (.q 1 (.p 2 (.q 3 (.p 4 (.p 5 (.q 6 (.p 7 (.q 8 (.e 9 (.e 10 (.e 11 .done)))))))))))))]}
def C2q:An:= {plan:= [(1,[0,2],[],true,(.q 0 (.q 2 (.e 1 (.e 3 (.p 4 (.p 5 .done)))))))]}
def A8o:A9 U2.args->Prop:=fun(x:Bool×List Int×Unit)=>(sel x.1 (decide ((0:Int)<(x.2.1.length:Int))) false,x.2.1)=(x.1&&decide (x.2.1≠ []),x.2.1)
def A7g:A9 R5.args->Prop:=fun(x:Int×Unit)=>(decide (x.1<0)=true->True/\∀(r:List Int×Unit),WfU r.1/\True->r.1=nc (u64.wrap (-u64.wrap x.1)).toNat->True/\∀(a:(Bool×List Int)×Unit),WfZ a.1/\True->a.1=(true&&decide (r.1≠ []),r.1)->a.1=ic x.1)/\(decide (x.1<0)=false->True/\∀(r:List Int×Unit),WfU r.1/\True->r.1=nc (u64.wrap x.1).toNat->True/\∀(a:(Bool×List Int)×Unit),WfZ a.1/\True->a.1=(false&&decide (r.1≠ []),r.1)->a.1=ic x.1)
def B4k:A9 A0a.args->Prop:=fun(x:(Bool×List Int)×Unit)=>True/\∀(r:Int×Unit),G1 r.1/\True->r.1=B3y (nv x.1.2) (nv [])->(decide (r.1=0)=true->(0:Int)=(iv x.1).sign)/\(decide (r.1=0)=false->(x.1.1=true->(-1:Int)=(iv x.1).sign)/\(x.1.1=false->(1:Int)=(iv x.1).sign))
def B3t:A9 A0q.args->Prop:=fun(x:(Bool×List Int)×Unit)=>sh0 x.1.2/\∀(r:List Int×Unit),WfU r.1/\True->r.1=nc (nv x.1.2)->True/\∀(a:(Bool×List Int)×Unit),WfZ a.1/\True->a.1=(x.1.1&&decide (r.1≠ []),r.1)->a.1=ic (iv x.1)
def B8l:A9 A1m.args->Prop:=fun(x:(Bool×List Int)×Unit)=>sh0 x.1.2/\∀(r:List Int×Unit),WfU r.1/\True->r.1=nc (nv x.1.2)->True/\∀(a:(Bool×List Int)×Unit),WfZ a.1/\True->a.1=(!x.1.1&&decide (r.1≠ []),r.1)->a.1=ic (-iv x.1)
def B8k:A9 A1w.args->Prop:=fun(x:(Bool×List Int)×(Bool×List Int)×Unit)=>let b:Prop:=(sh1 x.1.2/\sh1 x.2.1.2);let a:=(iv x.1+iv x.2.1);((x.1.1==x.2.1.1)=true->b/\∀(r:List Int×Unit),WfU r.1/\True->r.1=nc (nv x.1.2+nv x.2.1.2)->True/\∀(c:(Bool×List Int)×Unit),WfZ c.1/\True->c.1=(x.1.1&&decide (r.1≠ []),r.1)->c.1=ic a)/\((x.1.1==x.2.1.1)=false->b/\∀(r:List Int×Bool×Unit),WfU r.1/\True/\True->(nv x.1.2<nv x.2.1.2->r.1= []/\r.2.1=false)/\(nv x.2.1.2<=nv x.1.2->r.1=nc (nv x.1.2-nv x.2.1.2)/\r.2.1=true)->(r.2.1=true->True/\∀(c:(Bool×List Int)×Unit),WfZ c.1/\True->c.1=(x.1.1&&decide (r.1≠ []),r.1)->c.1=ic a)/\(r.2.1=false->(sh1 x.2.1.2/\sh1 x.1.2)/\∀(r:List Int×Bool×Unit),WfU r.1/\True/\True->(nv x.2.1.2<nv x.1.2->r.1= []/\r.2.1=false)/\(nv x.1.2<=nv x.2.1.2->r.1=nc (nv x.2.1.2-nv x.1.2)/\r.2.1=true)->True/\∀(c:(Bool×List Int)×Unit),WfZ c.1/\True->c.1=(x.2.1.1&&decide (r.1≠ []),r.1)->c.1=ic a))
def B8m:A9 A1n.args->Prop:=fun(x:(Bool×List Int)×(Bool×List Int)×Unit)=>(sh1 x.1.2/\sh1 x.2.1.2)/\∀(r:List Int×Unit),WfU r.1/\True->r.1=nc (nv x.1.2*nv x.2.1.2)->True/\∀(a:(Bool×List Int)×Unit),WfZ a.1/\True->a.1=(x.1.1 !=x.2.1.1&&decide (r.1≠ []),r.1)->a.1=ic (iv x.1*iv x.2.1)
def A7e:A9 Q6.args->Prop:=fun(x:(Bool×List Int)×(Bool×List Int)×Unit)=>let b:=(iv x.1);let a:=(iv x.2.1);True/\∀(r:Int×Unit),G1 r.1/\True->r.1=b.sign->True/\∀(c:Int×Unit),G1 c.1/\True->c.1=a.sign->(decide (r.1<c.1)=true->(-1:Int)=A0s b a)/\(decide (r.1<c.1)=false->(decide (c.1<r.1)=true->(1:Int)=A0s b a)/\(decide (c.1<r.1)=false->(decide (r.1<0)=true->True/\∀(r:Int×Unit),G1 r.1/\True->r.1=B3y (nv x.2.1.2) (nv x.1.2)->r.1=A0s b a)/\(decide (r.1<0)=false->True/\∀(r:Int×Unit),G1 r.1/\True->r.1=B3y (nv x.1.2) (nv x.2.1.2)->r.1=A0s b a)))
theorem B8d (x:A9 U2.args) (u:awf U2.args x) (_:U2.pre x):A8o x:=by
 obtain⟨b,l,_⟩:=x;change Bool at b;change List Int at l;simp only[A8o,J5];cases l<;>simp
theorem B3c (x:A9 R5.args) (hw:awf R5.args x) (_:R5.pre x):A7g x:=by
 obtain⟨v,_⟩:=x;change Int at v;have hv:i64.min<=v/\v<=i64.max:=hw.1;rw[C0m,C7y]at hv;simp only[A7g];refine⟨fun h=>⟨trivial, ?_⟩,fun h=>⟨trivial, ?_⟩⟩
 . rintro⟨r,_⟩ _ u;refine⟨trivial, ?_⟩;rintro⟨s,_⟩ _ hs;simp only at u hs⊢;have h:=g0a h;have e:(u64.wrap (-u64.wrap v)).toNat=v.natAbs:=by rw[A1u,A1u];omega
   rw[e]at u;subst hs u;unfold ic;rw[g0z h,g9u,g0z (by rw[ne_eq,C8z];omega)]
 . rintro⟨r,_⟩ _ u;refine⟨trivial, ?_⟩;rintro⟨s,_⟩ _ hs;simp only at u hs⊢;have h:=g0b h;have e:(u64.wrap v).toNat=v.natAbs:=by rw[A1u];omega
   rw[e]at u;subst hs u;unfold ic;rw[g1e h,h0p]
theorem C2a (x:A9 A0a.args) (hw:awf A0a.args x) (_:A0a.pre x):B4k x:=by
 obtain⟨⟨b,l⟩,_⟩:=x;change Bool at b;change List Int at l;simp only[B4k];refine⟨trivial, ?_⟩;rintro⟨r,_⟩ _ u;simp only at u⊢;rw[F0w]at u;refine⟨fun h=> ?_,fun h=>⟨fun hb=> ?_,fun hb=> ?_⟩⟩
 . have h:=g0a h;have h0:nv l=0:=D8x.1 (u▸h);unfold iv;simp only[h0];split<;>rfl
 . have h:=g0b h;have h0:nv l≠0:=fun e=>h (by rw[u,e];rfl)
   unfold iv;simp only[hb,g7g];rw[Int.sign_neg,g3y (by omega)]
 . have h:=g0b h;have h0:nv l≠0:=fun e=>h (by rw[u,e];rfl)
   unfold iv;simp only[hb];exact(g3y (by simp;omega)).symm
theorem E5w {neg:Bool} {m:Nat} {v:Int} (h:v=if neg=true then -(m:Int)else(m:Int)):(neg&&decide (nc m≠ []),nc m)=ic v:=by
 have e:ic (iv (neg,nc m))=(neg&&decide (m≠0),nc m):=G9l;have e2:iv (neg,nc m)=v:=by rw[h];unfold iv;simp only[F4]
 rw[e2]at e;rw[e];have:decide (nc m≠ [])=decide (m≠0):=g4z.2 (h2y C8z);rw[this]
theorem C4o (x:A9 A0q.args) (hw:awf A0q.args x) (hp:A0q.pre x):B3t x:=by
 obtain⟨⟨b,l⟩,_⟩:=x;change Bool at b;change List Int at l;simp only[B3t];refine⟨hp, ?_⟩;rintro⟨r,_⟩ _ u;refine⟨trivial, ?_⟩;rintro⟨z,_⟩ _ hz;simp only at u hz⊢;subst u;rw[hz];exact E5w rfl
theorem C5t (x:A9 A1w.args) (hw:awf A1w.args x) (hp:A1w.pre x):B8k x:=by
 obtain⟨⟨b,l⟩,⟨c,k⟩,_⟩:=x;change Bool at b c;change List Int at l k;obtain⟨hl,hk⟩:sh1 l/\sh1 k:=hp;simp only[B8k];refine⟨fun h=> ?_,fun h=> ?_⟩
 . refine⟨⟨hl,hk⟩, ?_⟩;rintro⟨r,_⟩ _ hr;refine⟨trivial, ?_⟩;rintro⟨z,_⟩ _ u;simp only at hr u⊢;have h:b=c:=by simpa using h
   subst hr h;rw[u];refine E5w ?_;unfold iv;cases b<;>simp<;>omega
 . have h:c= !b:=by cases b<;>cases c<;>simp_all
   subst h;refine⟨⟨hl,hk⟩, ?_⟩;rintro⟨r,ok,_⟩ _ hr;simp only at hr⊢;refine⟨fun h1=>⟨trivial, ?_⟩,fun h1=>⟨⟨hk,hl⟩, ?_⟩⟩
   . rintro⟨z,_⟩ _ u;simp only at u⊢;rcases g2i (nv l) (nv k)with h2|h2
     . rw[(hr.1 h2).2]at h1;exact absurd h1 (by decide)
     . rw[(hr.2 h2).1]at u;rw[u];refine E5w ?_;unfold iv;cases b<;>simp<;>omega
   . rintro⟨s,a0,_⟩ _ hs;refine⟨trivial, ?_⟩;rintro⟨z,_⟩ _ u;simp only at hs u⊢;rcases g2i (nv l) (nv k)with h2|h2
     . rw[(hs.2 (by omega)).1]at u;rw[u];refine E5w ?_;unfold iv;cases b<;>simp<;>omega
     . rw[(hr.2 h2).2]at h1;exact absurd h1 (by decide)
theorem C5n (x:A9 A1n.args) (hw:awf A1n.args x) (hp:A1n.pre x):B8m x:=by
 obtain⟨⟨b,l⟩,⟨c,k⟩,_⟩:=x;change Bool at b c;change List Int at l k;obtain⟨hl,hk⟩:sh1 l/\sh1 k:=hp;simp only[B8m];refine⟨⟨hl,hk⟩, ?_⟩;rintro⟨r,_⟩ _ u;refine⟨trivial, ?_⟩;rintro⟨z,_⟩ _ hz;simp only at u hz⊢;subst u;rw[hz];refine E5w ?_;unfold iv;cases b<;>cases c<;>simp<;>grind
def C0r:An:= {}
def C6p:An:= {plan:= [(3,[1],[4],false,(.p 0 (.q 1 (.p 2 (.or 3 (.e 4 (.p 5 .done)) (.e 4 (.e 3 (.p 5 .done))))))))]}
def C9h:An:= {}
def C5v:An:= {}
def B7t:An:= {join:= [(4,⟨[0,1,4],[0],[(5,false,vU)],[],[]⟩)],loop:= [(5,⟨[0,1,4,5],[0],[(6,false,vU),(7,false,vU)],[],[]⟩)],plan:= [(6,[],[],true,(pR 0 6 .done)),(7,[],[13],true,(pR 0 5 (pR 7 4 (.e 5 (.p 6 (.e 11 (.p 12 (.e 13 .done))))))))]}
def C1o:An:= {join:= [(8,⟨[2,4],[1],[(1,false,[.val (.sl (.int .u32))])],[(0,36,[.val .bool, .val (.sl (.int .u32))])],[]⟩)]}
def C9p:An:= {}
def A6d:A9 I2.args->Prop:=fun(x:Int×Unit)=>True/\∀(r:(Bool×List Int)×Unit),WfZ r.1/\True->r.1=ic x.1->(r.1,[(1:Int)])=ri x.1
def A8k:A9 U3.args->Prop:=fun(x:QQ×Unit)=>let d:=(1:Int);let c:=(0:Nat);let b:Prop:=(nv x.1.2=c->x.1.1=zi/\x.1.2= [d]);let a:Prop:=(nv x.1.2≠c->x.1.1=x.1.1/\x.1.2=x.1.2);True/\∀(r:Int×Unit),G1 r.1/\True->r.1=B3y (nv x.1.2) (nv [])->(decide (r.1=0)=true->(nv x.1.2=c->(false,[])=zi/\ [d]= [d])/\(nv x.1.2≠c->(false,[])=x.1.1/\ [d]=x.1.2))/\(decide (r.1=0)=false->(b/\a)/\b/\a)
def B1f:A9 W4.args->Prop:=fun(x:QQ×Unit)=>True/\∀(r:(Bool×List Int)×List Int×Unit),WfZ r.1/\WfU r.2.1/\True->(nv x.1.2=0->r.1=zi/\r.2.1= [(1:Int)])/\(nv x.1.2≠0->r.1=x.1.1/\r.2.1=x.1.2)->True/\∀(a:Int×Unit),G1 a.1/\True->a.1=(iv r.1).sign->a.1=(rv x.1).num.sign
def A8z:A9 S8.args->Prop:=fun(x:QQ×Unit)=>let e:=(0:Int);let c:Prop:=(¬I4 x.1->true=false);let b:=(18446744073709551616:Nat);True/\∀(r:Int×Bool×Unit),B2m r.1/\True/\True->(nv x.1.1.2<b->r.1=(↑(nv x.1.1.2):Int)/\r.2.1=true)/\(b<=nv x.1.1.2->r.2.1=false)->True/\∀(f:Int×Bool×Unit),let d:=(decide (2147483648<=f.1));let a:=(sel (sel (!r.2.1) true !f.2.1) true (decide (2147483648<=r.1)));B2m f.1/\True/\True->(nv x.1.2<b->f.1=(↑(nv x.1.2):Int)/\f.2.1=true)/\(b<=nv x.1.2->f.2.1=false)->(sel a true d=true->(I4 x.1->e=D7t x.1/\e=D4e x.1/\false=true)/\(¬I4 x.1->false=false))/\(sel a true d=false->(decide (f.1=e)=true->(I4 x.1->e=D7t x.1/\(1:Int)=D4e x.1/\true=true)/\c)/\(decide (f.1=e)=false->(x.1.1.1=true->(I4 x.1->i64.wrap (-i64.wrap r.1)=D7t x.1/\i64.wrap f.1=D4e x.1/\true=true)/\c)/\(x.1.1.1=false->(I4 x.1->i64.wrap r.1=D7t x.1/\i64.wrap f.1=D4e x.1/\true=true)/\c)))
def A4o:A9 K5.args->Prop:=fun(x:Int×Int×Unit)=>let a:=(0:Int);∃(J:Int×Unit->Prop),((decide (x.1<a)=true->J (u64.wrap (-u64.wrap x.1),()))/\(decide (x.1<a)=false->J (u64.wrap x.1,())))/\∀(p:Int×Unit),(Ty.int u64).wf p.1/\True->J p->∃(I:Int×Int×Unit->Prop),∃(μ: _->Nat),I (u64.wrap x.2.1,p)/\∀(c:Int×Int×Unit),let b:=(c.2.1,Int.tmod c.1 c.2.1,());(Ty.int u64).wf c.1/\(Ty.int u64).wf c.2.1/\True->I c->(decide (c.2.1≠a)=true->c.2.1≠a/\I b/\μ b<μ c)/\(decide (c.2.1≠a)=false->c.1≠a/\c.1≠a/\True/\∀(r:List Int×Unit),WfU r.1/\True->r.1=nc (u64.wrap (Int.tdiv p.1 c.1)).toNat->True/\∀(d:List Int×Unit),WfU d.1/\True->d.1=nc (u64.wrap ((u64.wrap x.2.1).tdiv c.1)).toNat->((decide (x.1<a),r.1),d.1)=rc (mkRat x.1 x.2.1.toNat))
def A6z:A9 O9.args->Prop:=fun(x:(Bool×List Int)×List Int×Unit)=>let g:=(0:Nat);let f:=(nv x.2.1);let c:=(1:Int);let b:=(0:Int);sh0 x.1.2/\∀(r:(Bool×List Int)×Unit),let d:=(r.1.2.length:Int);WfZ r.1/\True->r.1=ic (iv x.1)->sh0 x.2.1/\∀(k:List Int×Unit),WfU k.1/\True->k.1=nc f->(decide (d=b)=true->((false,[]),[c])=rc (mkRat (iv x.1) f))/\(decide (d=b)=false->(sh2 r.1.2/\sh2 k.1)/\∀(h:List Int×Unit),let e:=(decide (gx b h.1 b≠c));let a:=(h.1.length:Int);WfU h.1/\True->h.1=nc ((nv r.1.2).gcd (nv k.1))->∃(J:List Int×Bool×List Int×Unit->Prop),((decide (a≠c)=false->b<=b/\b<a)/\(sel (decide (a≠c)) true e=true->sh1 r.1.2/\∀(i:List Int×List Int×Bool×Unit),WfU i.1/\WfU i.2.1/\True/\True->(nv h.1=g->i.1= []/\i.2.1= []/\i.2.2.1=false)/\(nv h.1≠g->i.1=nc (nv r.1.2/nv h.1)/\i.2.1=nc (nv r.1.2%nv h.1)/\i.2.2.1=true)->sh1 k.1/\∀(j:List Int×List Int×Bool×Unit),WfU j.1/\WfU j.2.1/\True/\True->(nv h.1=g->j.1= []/\j.2.1= []/\j.2.2.1=false)/\(nv h.1≠g->j.1=nc (nv k.1/nv h.1)/\j.2.1=nc (nv k.1%nv h.1)/\j.2.2.1=true)->J (j.1,r.1.1,i.1,()))/\(sel (decide (a≠c)) true e=false->J (k.1,r.1.1,r.1.2,())))/\∀(p:List Int×Bool×List Int×Unit),(Ty.int u32).sl.wf p.1/\Ty.bool.wf p.2.1/\(Ty.int u32).sl.wf p.2.2.1/\True->J p->((p.2.1,p.2.2.1),p.1)=rc (mkRat (iv x.1) f))
def B1o:A9 Q3.args->Prop:=fun(x:QQ×Unit)=>True/\∀(r:Int×Int×Bool×Unit),G1 r.1/\G1 r.2.1/\True/\True->(I4 x.1->r.1=D7t x.1/\r.2.1=D4e x.1/\r.2.2.1=true)/\(¬I4 x.1->r.2.2.1=false)->(r.2.2.1=true->0<r.2.1/\∀(a:QQ×Unit),WfQ a.1/\True->a.1=rc (mkRat r.1 r.2.1.toNat)->a.1=rc (rv x.1))/\(r.2.2.1=false->True/\∀(r:(Bool×List Int)×List Int×Unit),WfZ r.1/\WfU r.2.1/\True->(nv x.1.2=0->r.1=zi/\r.2.1= [(1:Int)])/\(nv x.1.2≠0->r.1=x.1.1/\r.2.1=x.1.2)->(nv r.2.1≠0/\sh2 r.1.2/\sh2 r.2.1)/\∀(a:QQ×Unit),WfQ a.1/\True->a.1=rc (mkRat (iv r.1) (nv r.2.1))->a.1=rc (rv x.1))
theorem B1y (x:A9 I2.args) (hw:awf I2.args x) (_:I2.pre x):A6d x:=by
 obtain⟨v,_⟩:=x;simp only[A6d];refine⟨trivial, ?_⟩;rintro⟨r,_⟩ _ u;simp only at u⊢;rw[u];rfl
theorem B7l (x:A9 U3.args) (hw:awf U3.args x) (_:U3.pre x):A8k x:=by
 obtain⟨⟨a,l⟩,_⟩:=x;change List Int at l;simp only[A8k];refine⟨trivial, ?_⟩;rintro⟨r,_⟩ _ hr;simp only at hr⊢;rw[F0w]at hr;refine⟨fun h=> ?_,fun h=> ?_⟩
 . have u:nv l=0:=D8x.1 (hr▸g0a h);exact⟨fun _=>⟨rfl,by trivial⟩,fun h=>absurd u h⟩
 . have u:nv l≠0:=fun e=>(g0b h) (by rw[hr,e];rfl)
   exact⟨⟨fun h=>absurd h u,fun _=>⟨by trivial,by trivial⟩⟩,fun h=>absurd h u,fun _=>⟨by trivial,by trivial⟩⟩
theorem B9p (x:A9 W4.args) (hw:awf W4.args x) (_:W4.pre x):B1f x:=by
 obtain⟨⟨a,l⟩,_⟩:=x;change List Int at l;simp only[B1f];refine⟨trivial, ?_⟩;rintro⟨r,d,_⟩ _ ⟨hr,u⟩;refine⟨trivial, ?_⟩;rintro⟨s,_⟩ _ hs;simp only at hr u hs⊢;rw[hs, <-G9e];unfold H3a;split
 . rename_i h;rw[(hr h).1];rfl
 . rename_i h;rw[(u h).1]
theorem B7k (x:A9 S8.args) (hw:awf S8.args x) (_:S8.pre x):A8z x:=by
 obtain⟨⟨⟨b,a⟩,l⟩,_⟩:=x;change Bool at b;change List Int at a l;simp only[A8z];refine⟨trivial, ?_⟩;rintro⟨u,ok,_⟩ _ ⟨h1,h2⟩;refine⟨trivial, ?_⟩;rintro⟨v,a0,_⟩ _ ⟨h3,h4⟩;change Int at u v;change Bool at ok a0;simp only at h1 h2 h3 h4⊢;have hs:sel (sel (sel (!ok) true !a0) true (decide (2147483648<=u))) true (decide (2147483648<=v))=(!ok|| !a0||decide (2147483648<=u) ||decide (2147483648<=v)):=by simp only[M5]
 rw[hs];have key:(!ok|| !a0||decide (2147483648<=u) ||decide (2147483648<=v))=false->I4 ((b,a),l)/\u=(nv a:Int)/\v=(nv l:Int):=fun h=>by
  simp only[g1i,h0j,g1r]at h;obtain⟨⟨⟨e1,e2⟩,e3⟩,e4⟩:=h;have ha:nv a<18446744073709551616:=by
   rcases g2i (nv a) 18446744073709551616 with h|h
   . exact h
   . rw[h2 h]at e1;cases e1
  have hl:nv l<18446744073709551616:=by
   rcases g2i (nv l) 18446744073709551616 with h|h
   . exact h
   . rw[h4 h]at e2;cases e2
  have q1:=(h1 ha).1;have q3:=(h3 hl).1;exact⟨⟨by show nv a< _;omega,by show nv l< _;omega⟩,q1,q3⟩
 have a3:I4 ((b,a),l)->(!ok|| !a0||decide (2147483648<=u) ||decide (2147483648<=v))=false:=fun h=>by
  obtain⟨g1,g2⟩:=h;change nv a< _ at g1;change nv l< _ at g2;obtain⟨q1,q2⟩:=h1 (by omega);obtain⟨q3,q4⟩:=h3 (by omega);simp only[g1i,h0j,g1r];exact⟨⟨⟨q2,q4⟩,by omega⟩,by omega⟩
 refine⟨fun h=>⟨fun hs=> ?_,fun _=>trivial⟩,fun h=> ?_⟩
 . rw[a3 hs]at h;cases h
 . obtain⟨a2,hu,hv⟩:=key h;have a1:=a2;obtain⟨g1,g2⟩:=a2;change nv a< _ at g1;change nv l< _ at g2;refine⟨fun hz=> ?_,fun hz=>⟨fun hb=> ?_,fun hb=> ?_⟩⟩
   . have hz:=g0a hz;have h0:nv l=0:=by omega
     exact⟨fun _=>⟨by unfold D7t;rw[g1c h0],by unfold D4e;rw[g1c h0],trivial⟩,fun h=>absurd a1 h⟩
   . have hz:=g0b hz;have h0:nv l≠0:=by omega
     refine⟨fun _=>⟨?_, ?_,trivial⟩,fun h=>absurd a1 h⟩
     . unfold D7t;rw[g0u h0,wr (a:=u) (by omega) (by omega),wr (by omega) (by omega)];unfold iv;simp only[hb,g7g];omega
     . unfold D4e;rw[g0u h0,wr (by omega) (by omega)];exact hv
   . have hz:=g0b hz;have h0:nv l≠0:=by omega
     refine⟨fun _=>⟨?_, ?_,trivial⟩,fun h=>absurd a1 h⟩
     . unfold D7t;rw[g0u h0,wr (a:=u) (by omega) (by omega)];unfold iv;simp only[hb];simpa using hu
     . unfold D4e;rw[g0u h0,wr (by omega) (by omega)];exact hv
theorem B0e (x:A9 K5.args) (hw:awf K5.args x) (hp:K5.pre x):A4o x:=by
 obtain⟨n,d,_⟩:=x;change Int at n d;have d0:0<d:=hp;have hn:=(show i64.min<=n/\n<=i64.max from hw.1);have a1:=(show i64.min<=d/\d<=i64.max from hw.2.1);rw[C0m,C7y]at hn a1;obtain⟨n0,n1⟩:=hn;have d1:=a1.2;have i1:i64.min= -9223372036854775808:=C0m;simp only[A4o];refine⟨fun p=>p.1=(n.natAbs:Int),⟨fun h=> ?_,fun h=> ?_⟩, ?_⟩
 . have h:=g0a h;show u64.wrap (-u64.wrap n)= _;rw[A1u,A1u];omega
 . have h:=g0b h;show u64.wrap n= _;rw[A1u];omega
 rintro⟨s,_⟩ _ hs;simp only at hs⊢;subst hs;have hd:u64.wrap d=d:=w64 (by omega) (by omega);refine⟨fun p=>0<=p.1/\0<=p.2.1/\(p.1≠0\/p.2.1≠0)/\p.1.toNat.gcd p.2.1.toNat=d.toNat.gcd n.natAbs,fun p=>p.2.1.toNat, ?_, ?_⟩
 . refine⟨by omega,by show(0:Int)<=(n.natAbs:Int);omega, .inl (by omega), ?_⟩;rw[hd];rfl
 rintro⟨g,t,_⟩ _ ⟨h0,h1,h2,h3⟩;change Int at g t;simp only at h0 h1 h2 h3⊢;refine⟨fun h=> ?_,fun h=> ?_⟩
 . have h:=g0a h;have e:Int.tmod g t=g%t:=g3k h0;have e2:=h1w g h;have e3:=g9c g (b:=t) (by omega);rw[e];refine⟨h,⟨h1,e2, .inl h, ?_⟩,by omega⟩;rw[<-h3,Int.toNat_emod h0 h1,g6o t.toNat, <-h2k,g6o]
 . have h:t=0:=by simpa using h
   subst h;have hg:g≠0:=by omega
   refine⟨hg,hg,trivial, ?_⟩;rintro⟨r,_⟩ _ hr;refine⟨trivial, ?_⟩;rintro⟨q,_⟩ _ hq;simp only at hr hq⊢;have hG:g.toNat=d.toNat.gcd n.natAbs:=by rw[<-h3];simp
   have a5:0<g:=by omega
   have a2:g=((d.toNat.gcd n.natAbs:Nat):Int):=by omega
   obtain⟨hn,a4⟩:=B0o (x:=n) (d:=d.toNat) (by omega);have e1:(u64.wrap (Int.tdiv (n.natAbs:Int) g)).toNat=n.natAbs/d.toNat.gcd n.natAbs:=by
    rw[IntWalk.u64_quo _ _ ⟨by omega,by omega,by omega⟩,a2, <-Int.natCast_ediv,g0i]
   have e2:(u64.wrap (Int.tdiv d g)).toNat=d.toNat/d.toNat.gcd n.natAbs:=by
    rw[IntWalk.u64_quo _ _ ⟨by omega,by omega,by omega⟩,a2]
    conv=>lhs;rw[show d=((d.toNat:Nat):Int)from by omega]
    rw[<-Int.natCast_ediv,g0i];simp only[g0i]
   rw[hr,hq,hd,e1,e2];unfold rc;rw[hn,a4];unfold ic;have u:((d.toNat.gcd n.natAbs:Nat):Int)∣n:=g7e.2 (g7v ..);have a0:0<d.toNat.gcd n.natAbs:=by omega
   generalize d.toNat.gcd n.natAbs=G at u a0;obtain⟨c,rfl⟩:=u;rw[g6w _ (by omega)];have a3:(G:Int)*c<0↔c<0:=by
    constructor
    . intro h;rcases h2s c 0 with h1|h1
      . exact h1
      . have:=g3f (g6y (g2e.2 a0)) h1;omega
    . intro h;exact g8f (by omega) h
   rw[g5f,g3u,g7a _ a0];simp only[a3]
theorem C0q (x:D2):mkRat (D7t x) (D4e x).toNat=rv x:=by
 unfold D7t D4e rv;split
 . rename_i h;rw[h,g8c];rfl
 . rename_i h;rw[g0i]
theorem G1l (x:D2):0<D4e x:=by
 unfold D4e;split
 . decide
 . omega
theorem B2v (x:A9 O9.args) (hw:awf O9.args x) (hp:O9.pre x):A6z x:=by
 obtain⟨⟨b,l⟩,k,_⟩:=x;have hl:A5 l:=A2 hw.1.2.2;have hk:A5 k:=A2 hw.2.1.2;change Bool at b;change List Int at l k;obtain⟨hD,ll,lk⟩:nv k≠0/\l.length<=8796093022208/\k.length<=8796093022208:=hp;simp only[A6z];have nl:=C0 hl;have nk:=C0 hk;refine⟨by show l.length<=35184372088832;omega, ?_⟩;rintro⟨⟨s,r⟩,_⟩ _ hr;refine⟨by show k.length<=35184372088832;omega, ?_⟩;rintro⟨d,_⟩ _ hd;simp only at hr hd⊢;have a4:s=decide (iv (b,l)<0):=g3q (·.1) hr;have a3:r=nc (iv (b,l)).natAbs:=g3q (·.2) hr;have ea:(iv (b,l)).natAbs=nv l:=G5 _;have u:nv r=(iv (b,l)).natAbs:=by rw[a3,F4]
 have a0:nv d=nv k:=by rw[hd,F4]
 have a7:r.length<=l.length:=by rw[a3,ea];exact nl
 have a5:d.length<=k.length:=by rw[hd];exact nk
 refine⟨fun h=> ?_,fun h=> ?_⟩
 . have h:=g0a h;have h0:r= []:=g0m (by omega);rw[h0,F0w]at u;have:iv (b,l)=0:=Int.natAbs_eq_zero.1 u.symm;rw[this,Rat.zero_mkRat,F9l]
 have h:=g0b h;refine⟨⟨by omega,by omega⟩, ?_⟩;rintro⟨g,_⟩ _ hg;simp only at hg⊢;rw[u,a0]at hg;have a6:Nat.gcd (iv (b,l)).natAbs (nv k)≠0:=Nat.ne_of_gt (h0u _ (g2p hD));have a1:nv g=Nat.gcd (iv (b,l)).natAbs (nv k):=by rw[hg,F4]
 refine⟨fun p=>((p.2.1,p.2.2.1),p.1)=rc (mkRat (iv (b,l)) (nv k)),⟨fun h1=> ?_,fun h1=> ?_,fun h1=> ?_⟩, ?_⟩
 . have h1:=g0b h1;exact⟨g0k _,by omega⟩
 . refine⟨by show r.length<= _;omega, ?_⟩;rintro⟨q,m,ok,_⟩ _ hq;refine⟨by show d.length<= _;omega, ?_⟩;rintro⟨q',m',a8,_⟩ _ a2;simp only at hq a2⊢;rw[E9f hD,(hq.2 (by omega)).1,(a2.2 (by omega)).1,u,a0,a1,a4]
 . have h1:g.length=1/\gx 0 g 0=1:=by
    rw[M5]at h1;simp only[g1i,g1r]at h1;omega
   obtain⟨z,rfl⟩:∃z,g= [z]:=h1k.1 h1.1;have hz:z=1:=h1.2;subst hz;have h2:Nat.gcd (iv (b,l)).natAbs (nv k)=1:=by rw[<-a1];rfl
   rw[G8z hD h2];show((s,r),d)= _;rw[hd, <-hr]
 . rintro⟨a,s',c,_⟩ _ hJ;exact hJ
theorem C1g (x:A9 Q3.args) (hw:awf Q3.args x) (hp:Q3.pre x):B1o x:=by
 obtain⟨q,_⟩:=x;change D2 at q;obtain⟨h1,h2⟩:q.1.2.length<=2199023255552/\q.2.length<=2199023255552:=hp;simp only[B1o];refine⟨trivial, ?_⟩;rintro⟨n,d,ok,_⟩ _ ⟨s1,s2⟩;change Int at n d;simp only at s1 s2⊢;refine⟨fun h=> ?_,fun h=>⟨trivial, ?_⟩⟩
 . have hs:I4 q:=g0v fun hn=>by rw[s2 hn]at h;cases h
   obtain⟨rfl,rfl,_⟩:=s1 hs;refine⟨G1l q, ?_⟩;rintro⟨r,_⟩ _ hr;simp only at hr⊢;rw[hr,C0q]
 . rintro⟨n',d',_⟩ _ u;simp only at u⊢;obtain⟨a0,hv⟩:=B0u u;obtain⟨l1,l2⟩:=A6c (k:=2199023255552) u h1 h2 (by decide);refine⟨⟨a0,by show n'.2.length<= _;omega,by show d'.length<= _;omega⟩, ?_⟩;rintro⟨r,_⟩ _ hr;simp only at hr⊢;rw[hr,hv]
def D1g:An:= {plan:= [(13,[0,4],[10],true,(.q 0 (.p 1 (.p 2 (.q 4 (.p 5 (.p 6 (.or 3 (.or 7 (.or 8 (.e 9 (.e 10 .done)) (.e 9 (.e 8 (.e 10 .done)))) (.e 9 (.e 7 (.e 8 (.e 10 .done))))) (.e 9 (.e 3 (.e 7 (.e 8 (.e 10 .done))))))))))))),(14,[0],[5],true,(.q 0 (.p 1 (.p 2 (.e 3 (.e 4 (.e 5 .done)))))))]}
def D3h:An:= {}
def D1c:An:= {}
def D2v:An:= {}
def C0t:An:= {plan:= [(1,[0,2],[],true,(.q 0 (.q 2 (.e 1 (.e 3 (.p 4 (.p 5 .done))))))),(10,[0,4],[],true,(.q 0 (.p 1 (.p 2 (.q 4 (.p 5 (.p 6 (.e 3 (.e 7 (.e 8 (.p 9 .done)))))))))))]}
def D0r:An:= {}
def D1k:An:= {}
def B3q:A9 A0l.args->Prop:=fun(x:QQ×QQ×Unit)=>let g:=(0:Int);let e:=(0:Nat);let a:=(rv x.1+rv x.2.1);True/\∀(r:Int×Unit),G1 r.1/\True->r.1=(rv x.1).num.sign->(decide (r.1=g)=true->sh3 x.2.1/\∀(r:QQ×Unit),WfQ r.1/\True->r.1=rc (rv x.2.1)->r.1=rc a)/\(decide (r.1=g)=false->True/\∀(r:Int×Unit),G1 r.1/\True->r.1=(rv x.2.1).num.sign->(decide (r.1=g)=true->sh3 x.1/\∀(r:QQ×Unit),WfQ r.1/\True->r.1=rc (rv x.1)->r.1=rc a)/\(decide (r.1=g)=false->True/\∀(r:Int×Int×Bool×Unit),G1 r.1/\G1 r.2.1/\True/\True->(I4 x.1->r.1=D7t x.1/\r.2.1=D4e x.1/\r.2.2.1=true)/\(¬I4 x.1->r.2.2.1=false)->True/\∀(q:Int×Int×Bool×Unit),G1 q.1/\G1 q.2.1/\True/\True->(I4 x.2.1->q.1=D7t x.2.1/\q.2.1=D4e x.2.1/\q.2.2.1=true)/\(¬I4 x.2.1->q.2.2.1=false)->(sel r.2.2.1 q.2.2.1 false=true->g<i64.wrap (r.2.1*q.2.1)/\∀(m:QQ×Unit),WfQ m.1/\True->m.1=rc (mkRat (i64.wrap (i64.wrap (r.1*q.2.1)+i64.wrap (q.1*r.2.1))) (i64.wrap (r.2.1*q.2.1)).toNat)->m.1=rc a)/\(sel r.2.2.1 q.2.2.1 false=false->True/\∀(r:(Bool×List Int)×List Int×Unit),WfZ r.1/\WfU r.2.1/\True->(nv x.1.2=e->r.1=zi/\r.2.1= [(1:Int)])/\(nv x.1.2≠e->r.1=x.1.1/\r.2.1=x.1.2)->True/\∀(m:(Bool×List Int)×List Int×Unit),let j:Prop:=(sh1 r.1.2/\sh1 m.2.1);let h:=(iv r.1*iv (false,m.2.1));let f:Prop:=(sh1 m.1.2/\sh1 r.2.1);let d:=(iv m.1*iv (false,r.2.1));let c:=(nv r.2.1*nv m.2.1);let b:Prop:=(sh1 r.2.1/\sh1 m.2.1);WfZ m.1/\WfU m.2.1/\True->(nv x.2.1.2=e->m.1=zi/\m.2.1= [(1:Int)])/\(nv x.2.1.2≠e->m.1=x.2.1.1/\m.2.1=x.2.1.2)->True/\∀(s:Int×Unit),G1 s.1/\True->s.1=B3y (nv r.2.1) (nv m.2.1)->(decide (s.1=g)=true->(sh1 r.1.2/\sh1 m.1.2)/\∀(p:(Bool×List Int)×Unit),WfZ p.1/\True->p.1=ic (iv r.1+iv m.1)->(nv r.2.1≠e/\sh2 p.1.2/\sh2 r.2.1)/\∀(o:QQ×Unit),WfQ o.1/\True->o.1=rc (mkRat (iv p.1) (nv r.2.1))->o.1=rc a)/\(decide (s.1=g)=false->(j/\∀(p:(Bool×List Int)×Unit),WfZ p.1/\True->p.1=ic h->(f/\∀(o:(Bool×List Int)×Unit),let k:=(iv p.1+iv o.1);let i:Prop:=(sh1 p.1.2/\sh1 o.1.2);WfZ o.1/\True->o.1=ic d->(i/\∀(n:(Bool×List Int)×Unit),WfZ n.1/\True->n.1=ic k->b/\∀(l:List Int×Unit),WfU l.1/\True->l.1=nc c->(nv l.1≠e/\sh2 n.1.2/\sh2 l.1)/\∀(r:QQ×Unit),WfQ r.1/\True->r.1=rc (mkRat (iv n.1) (nv l.1))->r.1=rc a)/\i/\∀(n:(Bool×List Int)×Unit),WfZ n.1/\True->n.1=ic k->b/\∀(l:List Int×Unit),WfU l.1/\True->l.1=nc c->(nv l.1≠e/\sh2 n.1.2/\sh2 l.1)/\∀(r:QQ×Unit),WfQ r.1/\True->r.1=rc (mkRat (iv n.1) (nv l.1))->r.1=rc a)/\f/\∀(o:(Bool×List Int)×Unit),WfZ o.1/\True->o.1=ic d->(sh1 p.1.2/\sh1 o.1.2)/\∀(n:(Bool×List Int)×Unit),WfZ n.1/\True->n.1=ic (iv p.1+iv o.1)->b/\∀(l:List Int×Unit),WfU l.1/\True->l.1=nc c->(nv l.1≠e/\sh2 n.1.2/\sh2 l.1)/\∀(r:QQ×Unit),WfQ r.1/\True->r.1=rc (mkRat (iv n.1) (nv l.1))->r.1=rc a)/\j/\∀(p:(Bool×List Int)×Unit),WfZ p.1/\True->p.1=ic h->f/\∀(o:(Bool×List Int)×Unit),WfZ o.1/\True->o.1=ic d->(sh1 p.1.2/\sh1 o.1.2)/\∀(n:(Bool×List Int)×Unit),WfZ n.1/\True->n.1=ic (iv p.1+iv o.1)->b/\∀(l:List Int×Unit),WfU l.1/\True->l.1=nc c->(nv l.1≠e/\sh2 n.1.2/\sh2 l.1)/\∀(r:QQ×Unit),WfQ r.1/\True->r.1=rc (mkRat (iv n.1) (nv l.1))->r.1=rc a))))
def B5y:A9 A0d.args->Prop:=fun(x:QQ×QQ×Unit)=>let a:=((!x.2.1.1.1,x.2.1.1.2),x.2.1.2);(sh3 x.1/\sh3 a)/\∀(r:QQ×Unit),WfQ r.1/\True->r.1=rc (rv x.1+rv a)->r.1=rc (rv x.1-rv x.2.1)
def B5k:A9 U8.args->Prop:=fun(x:QQ×QQ×Unit)=>let b:=(rv x.1*rv x.2.1);let a:=(0:Nat);True/\∀(r:Int×Int×Bool×Unit),G1 r.1/\G1 r.2.1/\True/\True->(I4 x.1->r.1=D7t x.1/\r.2.1=D4e x.1/\r.2.2.1=true)/\(¬I4 x.1->r.2.2.1=false)->True/\∀(d:Int×Int×Bool×Unit),G1 d.1/\G1 d.2.1/\True/\True->(I4 x.2.1->d.1=D7t x.2.1/\d.2.1=D4e x.2.1/\d.2.2.1=true)/\(¬I4 x.2.1->d.2.2.1=false)->(sel r.2.2.1 d.2.2.1 false=true->(0:Int)<i64.wrap (r.2.1*d.2.1)/\∀(c:QQ×Unit),WfQ c.1/\True->c.1=rc (mkRat (i64.wrap (r.1*d.1)) (i64.wrap (r.2.1*d.2.1)).toNat)->c.1=rc b)/\(sel r.2.2.1 d.2.2.1 false=false->True/\∀(r:(Bool×List Int)×List Int×Unit),WfZ r.1/\WfU r.2.1/\True->(nv x.1.2=a->r.1=zi/\r.2.1= [(1:Int)])/\(nv x.1.2≠a->r.1=x.1.1/\r.2.1=x.1.2)->True/\∀(c:(Bool×List Int)×List Int×Unit),WfZ c.1/\WfU c.2.1/\True->(nv x.2.1.2=a->c.1=zi/\c.2.1= [(1:Int)])/\(nv x.2.1.2≠a->c.1=x.2.1.1/\c.2.1=x.2.1.2)->(sh1 r.1.2/\sh1 c.1.2)/\∀(f:(Bool×List Int)×Unit),WfZ f.1/\True->f.1=ic (iv r.1*iv c.1)->(sh1 r.2.1/\sh1 c.2.1)/\∀(e:List Int×Unit),WfU e.1/\True->e.1=nc (nv r.2.1*nv c.2.1)->(nv e.1≠a/\sh2 f.1.2/\sh2 e.1)/\∀(r:QQ×Unit),WfQ r.1/\True->r.1=rc (mkRat (iv f.1) (nv e.1))->r.1=rc b)
def B4j:A9 U7.args->Prop:=fun(x:QQ×Unit)=>sh3 x.1/\∀(r:QQ×Unit),WfQ r.1/\True->r.1=rc (rv x.1)->sh0 r.1.1.2/\∀(a:(Bool×List Int)×Unit),WfZ a.1/\True->a.1=ic (-iv r.1.1)->(a.1,r.1.2)=rc (-rv x.1)
def A5n:A9 N6.args->Prop:=fun(x:QQ×QQ×Unit)=>let c:=(0:Nat);let b:=(rv x.1);let a:=(rv x.2.1);True/\∀(r:Int×Unit),G1 r.1/\True->r.1=b.num.sign->True/\∀(f:Int×Unit),G1 f.1/\True->f.1=a.num.sign->(decide (r.1≠f.1)=true->True/\∀(d:Int×Unit),G1 d.1/\True->d.1=A0s r.1 f.1->d.1=F9y b a)/\(decide (r.1≠f.1)=false->True/\∀(r:Int×Int×Bool×Unit),G1 r.1/\G1 r.2.1/\True/\True->(I4 x.1->r.1=D7t x.1/\r.2.1=D4e x.1/\r.2.2.1=true)/\(¬I4 x.1->r.2.2.1=false)->True/\∀(d:Int×Int×Bool×Unit),G1 d.1/\G1 d.2.1/\True/\True->(I4 x.2.1->d.1=D7t x.2.1/\d.2.1=D4e x.2.1/\d.2.2.1=true)/\(¬I4 x.2.1->d.2.2.1=false)->(sel r.2.2.1 d.2.2.1 false=true->True/\∀(e:Int×Unit),G1 e.1/\True->e.1=A0s (i64.wrap (r.1*d.2.1)) (i64.wrap (d.1*r.2.1))->e.1=F9y b a)/\(sel r.2.2.1 d.2.2.1 false=false->True/\∀(r:(Bool×List Int)×List Int×Unit),WfZ r.1/\WfU r.2.1/\True->(nv x.1.2=c->r.1=zi/\r.2.1= [(1:Int)])/\(nv x.1.2≠c->r.1=x.1.1/\r.2.1=x.1.2)->True/\∀(e:(Bool×List Int)×List Int×Unit),WfZ e.1/\WfU e.2.1/\True->(nv x.2.1.2=c->e.1=zi/\e.2.1= [(1:Int)])/\(nv x.2.1.2≠c->e.1=x.2.1.1/\e.2.1=x.2.1.2)->(sh1 r.1.2/\sh1 e.2.1)/\∀(g:(Bool×List Int)×Unit),WfZ g.1/\True->g.1=ic (iv r.1*iv (false,e.2.1))->(sh1 e.1.2/\sh1 r.2.1)/\∀(h:(Bool×List Int)×Unit),WfZ h.1/\True->h.1=ic (iv e.1*iv (false,r.2.1))->True/\∀(r:Int×Unit),G1 r.1/\True->r.1=A0s (iv g.1) (iv h.1)->r.1=F9y b a))
def B3n:A9 U6.args->Prop:=fun(x:QQ×Unit)=>let a:=(rv x.1);True/\∀(r:Int×Unit),G1 r.1/\True->r.1=a.num.sign->(decide (r.1=0)=true->(rv x.1=(0:Rat)->false=false)/\(rv x.1≠(0:Rat)->dQ=rc a⁻¹/\false=true))/\(decide (r.1=0)=false->sh3 x.1/\∀(r:QQ×Unit),WfQ r.1/\True->r.1=rc a->(rv x.1=(0:Rat)->true=false)/\(rv x.1≠(0:Rat)->((r.1.1.1,r.1.2),r.1.1.2)=rc a⁻¹/\true=true))
def B3l:A9 A0p.args->Prop:=fun(x:QQ×QQ×Unit)=>let b:=(rv x.1/rv x.2.1);let a:=((x.2.1.1.1,x.2.1.2),x.2.1.1.2);True/\∀(r:Int×Unit),G1 r.1/\True->r.1=(rv x.2.1).num.sign->(decide (r.1=0)=true->(rv x.2.1=(0:Rat)->false=false)/\(rv x.2.1≠(0:Rat)->dQ=rc b/\false=true))/\(decide (r.1=0)=false->(sh3 x.1/\sh3 a)/\∀(r:QQ×Unit),WfQ r.1/\True->r.1=rc (rv x.1*rv a)->(rv x.2.1=(0:Rat)->true=false)/\(rv x.2.1≠(0:Rat)->r.1=rc b/\true=true))
theorem E6s {q:Rat} (h:q.num.sign=0):q=0:=g9y.1 (g8h.1 h)
theorem A9h {x:D2} (h:I4 x): -2147483647<=D7t x/\D7t x<=2147483647/\0<D4e x/\D4e x<=2147483647:=by
 obtain⟨h1,u⟩:=h;have:=G5 x.1;unfold D7t D4e;split
 . omega
 . omega
theorem B3f {a b M N:Int} (h1: -M<=a) (h2:a<=M) (u:0<=b) (h4:b<=N): -(M*N)<=a*b/\a*b<=M*N:=by
 have hM:0<=M:=by omega
 have a1:M*b<=M*N:=g3i h4 hM;have a2:a*b<=M*b:=g2b h2 u;have a3: -M*b<=a*b:=g2b h1 u;rw[Int.neg_mul]at a3;omega
theorem F6e {a b c d:Int} (ha: -2147483647<=a/\a<=2147483647) (hb: -2147483647<=b/\b<=2147483647) (hc:0<c/\c<=2147483647) (u:0<d/\d<=2147483647):
 i64.wrap (c*d)=c*d/\0<c*d/\i64.wrap (i64.wrap (a*d)+i64.wrap (b*c))=a*d+b*c:=by
 have h1:=B3f ha.1 ha.2 (g6y u.1) u.2;have h2:=B3f hb.1 hb.2 (g6y hc.1) hc.2;have h3:=B3f (a:=c) (b:=d) (M:=2147483647) (by omega) hc.2 (g6y u.1) u.2;have h4:0<c*d:=Int.mul_pos hc.1 u.1;rw[wr (a:=c*d) (by omega) (by omega),wr (a:=a*d) (by omega) (by omega),wr (a:=b*c) (by omega) (by omega),wr (by omega) (by omega)];exact⟨rfl,h4,rfl⟩
theorem C3s (x:A9 A0l.args) (hw:awf A0l.args x) (hp:A0l.pre x):B3q x:=by
 obtain⟨p,q,_⟩:=x;have ag:A5 p.1.2:=A2 hw.1.1.2.2;have ah:A5 p.2:=A2 hw.1.2.2;have ai:A5 q.1.2:=A2 hw.2.1.1.2.2;have aj:A5 q.2:=A2 hw.2.1.2.2;change D2 at p q;obtain⟨a7,a8⟩:sh3 p/\sh3 q:=hp;obtain⟨a3,a4⟩:=a7;obtain⟨a5,a6⟩:=a8;simp only[B3q];refine⟨trivial, ?_⟩;rintro⟨s,_⟩ _ hs;simp only at hs⊢;refine⟨fun h=>⟨⟨a5,a6⟩, ?_⟩,fun h=>⟨trivial, ?_⟩⟩
 . rintro⟨r,_⟩ _ hr;simp only at hr⊢;rw[hs]at h;rw[hr,E6s (g0a h),g3o]
 rintro⟨t,_⟩ _ ht;simp only at ht⊢;refine⟨fun h=>⟨⟨a3,a4⟩, ?_⟩,fun h=>⟨trivial, ?_⟩⟩
 . rintro⟨r,_⟩ _ hr;simp only at hr⊢;rw[ht]at h;rw[hr,E6s (g0a h),g1p]
 rintro⟨an,ad,ae,_⟩ _ ⟨a1,a2⟩;refine⟨trivial, ?_⟩;rintro⟨bn,bd,af,_⟩ _ ⟨b1,b2⟩;change Int at an ad bn bd;simp only at a1 a2 b1 b2⊢;refine⟨fun h=> ?_,fun _=>⟨trivial, ?_⟩⟩
 . rw[J5,g0c]at h;have sp:I4 p:=g0v fun hn=>by have:=a2 hn;rw[this]at h;exact absurd h.1 (by decide)
   have sq:I4 q:=g0v fun hn=>by have:=b2 hn;rw[this]at h;exact absurd h.2 (by decide)
   obtain⟨ea,ed,_⟩:=a1 sp;obtain⟨eb,ee,_⟩:=b1 sq;obtain⟨x1,x2,x3,x4⟩:=A9h sp;obtain⟨y1,y2,y3,y4⟩:=A9h sq;obtain⟨w1,w2,w3⟩:=F6e (a:=an) (b:=bn) (c:=ad) (d:=bd) (by omega) (by omega) (by omega) (by omega);rw[w1,w3];refine⟨w2, ?_⟩;rintro⟨r,_⟩ _ hr;simp only at hr⊢;rw[hr, <-C0q p, <-C0q q, <-ea, <-ed, <-eb, <-ee,D1z (by omega) (by omega),g2o (by omega),g2o (by omega),h2m (by omega) (by omega)]
 . rintro⟨n,d,_⟩ ⟨ac,a9,_⟩ h1;refine⟨trivial, ?_⟩;rintro⟨m,e,_⟩ ⟨ab,aa,_⟩ h2;have ln:A5 n.2:=A2 ac.2.2;have ld:A5 d:=A2 a9.2;have lm:A5 m.2:=A2 ab.2.2;have le:A5 e:=A2 aa.2;refine⟨trivial, ?_⟩;rintro⟨c,_⟩ _ hc;change C9x at n m;change List Int at d e;simp only at h1 h2 hc⊢;obtain⟨d0,hP⟩:=B0u h1;obtain⟨e0,hQ⟩:=B0u h2;obtain⟨n1,d1⟩:=A6c (k:=2199023255552) h1 a3 a4 (by decide);obtain⟨m1,e1⟩:=A6c (k:=2199023255552) h2 a5 a6 (by decide);rw[hP,hQ];refine⟨fun h=> ?_,fun h=> ?_⟩
   . have h:=g0a h;have he:nv d=nv e:=D8x.1 (hc▸h);refine⟨⟨by show n.2.length<= _;omega,by show m.2.length<= _;omega⟩, ?_⟩;rintro⟨u,_⟩ _ hu;simp only at hu⊢;have l1:=D7e (x:=n) (y:=m) ln lm n1 m1;refine⟨⟨d0,by show u.2.length<= _;rw[hu];omega,by show d.length<= _;omega⟩, ?_⟩;rintro⟨r,_⟩ _ hr;simp only at hr⊢;rw[hr,hu,A0x, <-he,F2e d0]
   . --the general case:the same four times
     have x1:=C6s (x:=n) (y:=(false,e)) ln le;have x2:=C6s (x:=m) (y:=(false,d)) lm ld;have g1:sh1 n.2/\sh1 e:=⟨by show n.2.length<= _;omega,by show e.length<= _;omega⟩;have g2:sh1 m.2/\sh1 d:=⟨by show m.2.length<= _;omega,by show d.length<= _;omega⟩;have fin:∀u v:C9x,u=ic (iv n*iv (false,e))->v=ic (iv m*iv (false,d))->(sh1 u.2/\sh1 v.2)/\∀(r_6:(Bool×List Int)×Unit),WfZ r_6.1/\True->r_6.1=ic (iv u+iv v)->(sh1 d/\sh1 e)/\∀(r_7:List Int×Unit),WfU r_7.1/\True->r_7.1=nc (nv d*nv e)->(nv r_7.1≠(0:Nat)/\sh2 r_6.1.2/\sh2 r_7.1)/\∀(r:QQ×Unit),WfQ r.1/\True->r.1=rc (mkRat (iv r_6.1) (nv r_7.1))->r.1=rc (mkRat (iv n) (nv d)+mkRat (iv m) (nv e)):=by
      intro u v hu hv;have lu:u.2.length<=4398046511104:=by
       rw[hu];refine g0t x1 ?_;show n.2.length+e.length<= _;omega
      have lv:v.2.length<=4398046511104:=by
       rw[hv];refine g0t x2 ?_;show m.2.length+d.length<= _;omega
      refine⟨⟨by show u.2.length<= _;omega,by show v.2.length<= _;omega⟩, ?_⟩;rintro⟨w,_⟩ _ a0;refine⟨⟨g2.2,g1.2⟩, ?_⟩;rintro⟨z,_⟩ _ hz;simp only at a0 hz⊢;have l1:=D7e (x:=u) (y:=v) (by rw[hu];exact F0m _) (by rw[hv];exact F0m _) lu lv;have l2:=C7g ld le;refine⟨⟨by rw[hz,F4];exact g9d d0 e0,by show w.2.length<= _;rw[a0];omega,by show z.length<= _;rw[hz];omega⟩, ?_⟩;rintro⟨r,_⟩ _ hr;simp only at hr⊢;rw[hr,a0,hz,F4,A0x,hu,hv,A0x,A0x,B1p,B1p,D1z d0 e0]
     exact⟨⟨g1,fun u _ hu=>⟨⟨g2,fun v _ hv=>⟨fin _ _ hu hv,fin _ _ hu hv⟩⟩,g2,fun v _ hv=>fin _ _ hu hv⟩⟩,g1,fun u _ hu=>⟨g2,fun v _ hv=>fin _ _ hu hv⟩⟩
end Go.Proofs.YthiimnbdinlfeaaGreat
