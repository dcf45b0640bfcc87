/- Part. -/
import Derived.Test.YtiflhbllbgajeaaGreatRows
import Derived.Test.YtiflhbllbgajeaaGreatKGE
set_option linter.all false
namespace Go.Proofs.YtiflhbllbgajeaaGreat
open Go.Proofs.Tryz
open Go.Vc Go.Gw
open Go.IntKind (i64 u64 u32)
abbrev K4 (a:Int):Prop:=i64.min<=a/\a<=i64.max
abbrev KA (a:Int):Prop:=u64.min<=a/\a<=u64.max
abbrev Jp (l:List Int):Prop:=List.length l<=(9223372036854775807:Nat)/\∀(x:Int),x∈l->u32.min<=x/\x<=u32.max
abbrev SK (l:List Int):Prop:=List.length l<=(9223372036854775807:Nat)/\∀(x:Int),x∈l->i64.min<=x/\x<=i64.max
abbrev pN (z:Bool×List Int):Prop:=True/\Jp z.2
abbrev FD (q:(Bool×List Int)×List Int):Prop:=pN q.1/\Jp q.2
abbrev WfE (e:Int×(Bool×List Int)×List Int):Prop:=K4 e.1/\pN e.2.1/\Jp e.2.2
abbrev SJ (l:List (Int×(Bool×List Int)×List Int)):Prop:=List.length l<=(9223372036854775807:Nat)/\∀(x:Int×(Bool×List Int)×List Int),x∈l->WfE x
abbrev QQ:=(Bool×List Int)×List Int
abbrev EE:=Int×(Bool×List Int)×List Int
abbrev dQ:QQ:=((false,[]),[])
abbrev F2:EE:=((0:Int),(false,[]),[])
abbrev MM:=Int×Int×List (List EE)
abbrev WfL (l:List QQ):Prop:=List.length l<=9223372036854775807/\∀(x:QQ),x∈l->FD x
abbrev Rs (l:List (List EE)):Prop:=List.length l<=9223372036854775807/\∀(x:List EE),x∈l->x.length<=9223372036854775807/\∀(y:EE),y∈x->WfE y
abbrev WfM (m:MM):Prop:=K4 m.1/\K4 m.2.1/\Rs m.2.2
abbrev tQ:Ty:=(.pair (.pair .bool (.sl (.int .u32))) (.sl (.int .u32)))
abbrev tE:Ty:=(.pair (.int .i64) tQ)
abbrev tM:Ty:=(.pair (.int .i64) (.pair (.int .i64) (.sl (.sl tE))))
def tys:List (Nat×TI):= [(2,{ty:=(.int .i64),agg:=false}),
 (3,{ty:=(.int .i64),agg:=false}),
 (4,{ty:= .bool,agg:=false}),
 (5,{ty:=(.int .u8),agg:=false}),
 (9,{ty:= .str,agg:=false}),
 (22,{ty:=(.sl (.int .i64)),agg:=false,elem:=3,bytes:=8}),
 (23,{ty:=(.sl (.pair (.int .i64) (.pair (.int .i64) (.pair tQ tQ)))),agg:=false,elem:=45,bytes:=128}),
 (25,{ty:=(.pair (.int .i64) (.sl (.pair (.int .i64) (.pair (.int .i64) (.pair tQ tQ))))),agg:=true,fields:= [(0,1,false),(1,1,false)]}),
 (27,{ty:=(.sl (.sl tE)),agg:=false,elem:=79,bytes:=24}),
 (29,{ty:=tM,agg:=true,fields:= [(0,1,false),(1,1,false),(2,1,false)]}),
 (31,{ty:=(.pair (.sl (.int .i64)) (.pair tM tM)),agg:=true,fields:= [(0,1,false),(1,3,true),(4,3,true)]}),
 (37,{ty:=(.sl (.pair (.int .i64) (.int .i64))),agg:=false,elem:=74,bytes:=16}),
 (39,{ty:=(.sl (.int .u32)),agg:=false,elem:=103,bytes:=4}),
 (41,{ty:=(.pair .bool (.sl (.int .u32))),agg:=true,fields:= [(0,1,false),(1,1,false)]}),
 (43,{ty:=tQ,agg:=true,fields:= [(0,2,true),(2,1,false)]}),
 (45,{ty:=(.pair (.int .i64) (.pair (.int .i64) (.pair tQ tQ))),agg:=true,fields:= [(0,1,false),(1,1,false),(2,3,true),(5,3,true)]}),
 (46,{ty:=(.sl tQ),agg:=false,elem:=43,bytes:=56}),
 (53,{ty:=(.sl (.sl tQ)),agg:=false,elem:=46,bytes:=24}),
 (74,{ty:=(.pair (.int .i64) (.int .i64)),agg:=true,elem:=3,arr:=2}),
 (79,{ty:=(.sl tE),agg:=false,elem:=106,bytes:=64}),
 (98,{ty:=(.pair (.sl (.int .i64)) (.int .i64)),agg:=true,fields:= [(0,1,false),(1,1,false)]}),
 (103,{ty:=(.int .u32),agg:=false}),
 (106,{ty:=tE,agg:=true,fields:= [(0,1,false),(1,3,true)]}),
 (109,{ty:=(.sl (.int .i64)),agg:=false,elem:=3,bytes:=8}),
 (114,{ty:=(.pair (.sl (.int .i64)) (.pair (.sl (.int .i64)) (.pair tM tM))),agg:=true,fields:= [(0,1,false),(1,1,false),(2,3,true),(5,3,true)]}),
 (124,{ty:=(.int .u64),agg:=false}),
 (144,{ty:=(.mp false (.int .i64) false (.sl (.int .i64))),agg:=false,elem:=22,key:=3}),
 (148,{ty:=(.ptr (.pair (.sl (.sl tE)) (.pair (.sl (.sl tE)) (.pair (.sl (.mp false (.int .i64) false .bool)) (.sl (.int .i64)))))),agg:=false}),
 (153,{ty:=(.sl (.mp false (.int .i64) false .bool)),agg:=false,elem:=174,bytes:=8}),
 (155,{ty:=(.pair (.sl (.sl tE)) (.pair (.sl (.sl tE)) (.pair (.sl (.mp false (.int .i64) false .bool)) (.sl (.int .i64))))),agg:=true,fields:= [(0,1,false),(1,1,false),(2,1,false),(3,1,false)]}),
 (165,{ty:=(.int .u64),agg:=false}),
 (174,{ty:=(.mp false (.int .i64) false .bool),agg:=false,elem:=4,key:=3}),
 (183,{ty:=(.pair (.int .u64) (.pair (.int .u64) (.pair (.int .u64) (.pair (.int .u64) .bool)))),agg:=true,fields:= [(0,1,false),(1,1,false),(2,1,false),(3,1,false),(4,1,false)]}),
 (201,{ty:=(.sl .bool),agg:=false,elem:=4,bytes:=1})]
def A4:H5 prog tys=true:=by kernel_rfl
def B9o:List (Nat×TI):= [(2,{ty:=(.int .i64),agg:=false}),
 (3,{ty:=(.int .i64),agg:=false}),
 (4,{ty:= .bool,agg:=false}),
 (5,{ty:=(.int .u8),agg:=false}),
 (9,{ty:= .str,agg:=false}),
 (22,{ty:=(.sl (.int .i64)),agg:=false,elem:=3,bytes:=8}),
 (23,{ty:=(.sl (.pair (.int .i64) (.pair (.int .i64) (.pair tQ tQ)))),agg:=false,elem:=45,bytes:=128}),
 (25,{ty:=(.pair (.int .i64) (.sl (.pair (.int .i64) (.pair (.int .i64) (.pair tQ tQ))))),agg:=true,fields:= [(0,1,false),(1,1,false)]}),
 (27,{ty:=(.sl (.sl tE)),agg:=false,elem:=79,bytes:=24,rows:=true}),
 (29,{ty:=tM,agg:=true,fields:= [(0,1,false),(1,1,false),(2,1,false)]}),
 (31,{ty:=(.pair (.sl (.int .i64)) (.pair tM tM)),agg:=true,fields:= [(0,1,false),(1,3,true),(4,3,true)]}),
 (37,{ty:=(.sl (.pair (.int .i64) (.int .i64))),agg:=false,elem:=74,bytes:=16}),
 (39,{ty:=(.sl (.int .u32)),agg:=false,elem:=103,bytes:=4}),
 (41,{ty:=(.pair .bool (.sl (.int .u32))),agg:=true,fields:= [(0,1,false),(1,1,false)]}),
 (43,{ty:=tQ,agg:=true,fields:= [(0,2,true),(2,1,false)]}),
 (45,{ty:=(.pair (.int .i64) (.pair (.int .i64) (.pair tQ tQ))),agg:=true,fields:= [(0,1,false),(1,1,false),(2,3,true),(5,3,true)]}),
 (46,{ty:=(.sl tQ),agg:=false,elem:=43,bytes:=56}),
 (53,{ty:=(.sl (.sl tQ)),agg:=false,elem:=46,bytes:=24,rows:=true}),
 (74,{ty:=(.pair (.int .i64) (.int .i64)),agg:=true,elem:=3,arr:=2}),
 (79,{ty:=(.sl tE),agg:=false,elem:=106,bytes:=64}),
 (98,{ty:=(.pair (.sl (.int .i64)) (.int .i64)),agg:=true,fields:= [(0,1,false),(1,1,false)]}),
 (103,{ty:=(.int .u32),agg:=false}),
 (106,{ty:=tE,agg:=true,fields:= [(0,1,false),(1,3,true)]}),
 (109,{ty:=(.sl (.int .i64)),agg:=false,elem:=3,bytes:=8}),
 (114,{ty:=(.pair (.sl (.int .i64)) (.pair (.sl (.int .i64)) (.pair tM tM))),agg:=true,fields:= [(0,1,false),(1,1,false),(2,3,true),(5,3,true)]}),
 (124,{ty:=(.int .u64),agg:=false}),
 (144,{ty:=(.mp false (.int .i64) false (.sl (.int .i64))),agg:=false,elem:=22,key:=3,rows:=true}),
 (148,{ty:=(.ptr (.pair (.sl (.sl tE)) (.pair (.sl (.sl tE)) (.pair (.sl (.mp false (.int .i64) false .bool)) (.sl (.int .i64)))))),agg:=false}),
 (153,{ty:=(.sl (.mp false (.int .i64) false .bool)),agg:=false,elem:=174,bytes:=8}),
 (155,{ty:=(.pair (.sl (.sl tE)) (.pair (.sl (.sl tE)) (.pair (.sl (.mp false (.int .i64) false .bool)) (.sl (.int .i64))))),agg:=true,fields:= [(0,1,false),(1,1,false),(2,1,false),(3,1,false)]}),
 (165,{ty:=(.int .u64),agg:=false}),
 (174,{ty:=(.mp false (.int .i64) false .bool),agg:=false,elem:=4,key:=3}),
 (183,{ty:=(.pair (.int .u64) (.pair (.int .u64) (.pair (.int .u64) (.pair (.int .u64) .bool)))),agg:=true,fields:= [(0,1,false),(1,1,false),(2,1,false),(3,1,false),(4,1,false)]}),
 (201,{ty:=(.sl .bool),agg:=false,elem:=4,bytes:=1})]
def UP:H5 prog B9o=true:=by kernel_rfl
def TR:List (Nat×TI):= [(2,{ty:=(.int .i64),agg:=false}),
 (3,{ty:=(.int .i64),agg:=false}),
 (4,{ty:= .bool,agg:=false}),
 (5,{ty:=(.int .u8),agg:=false}),
 (9,{ty:= .str,agg:=false}),
 (22,{ty:=(.sl (.int .i64)),agg:=false,elem:=3,bytes:=8}),
 (23,{ty:=(.sl (.pair (.int .i64) (.pair (.int .i64) (.pair tQ tQ)))),agg:=false,elem:=45,bytes:=128}),
 (25,{ty:=(.pair (.int .i64) (.sl (.pair (.int .i64) (.pair (.int .i64) (.pair tQ tQ))))),agg:=true,fields:= [(0,1,false),(1,1,false)]}),
 (27,{ty:=(.sl (.sl tE)),agg:=false,elem:=79,bytes:=24,nest:= [14]}),
 (29,{ty:=tM,agg:=true,fields:= [(0,1,false),(1,1,false),(2,1,false)]}),
 (31,{ty:=(.pair (.sl (.int .i64)) (.pair tM tM)),agg:=true,fields:= [(0,1,false),(1,3,true),(4,3,true)]}),
 (37,{ty:=(.sl (.pair (.int .i64) (.int .i64))),agg:=false,elem:=74,bytes:=16}),
 (39,{ty:=(.sl (.int .u32)),agg:=false,elem:=103,bytes:=4}),
 (41,{ty:=(.pair .bool (.sl (.int .u32))),agg:=true,fields:= [(0,1,false),(1,1,false)]}),
 (43,{ty:=tQ,agg:=true,fields:= [(0,2,true),(2,1,false)]}),
 (45,{ty:=(.pair (.int .i64) (.pair (.int .i64) (.pair tQ tQ))),agg:=true,fields:= [(0,1,false),(1,1,false),(2,3,true),(5,3,true)]}),
 (46,{ty:=(.sl tQ),agg:=false,elem:=43,bytes:=56}),
 (53,{ty:=(.sl (.sl tQ)),agg:=false,elem:=46,bytes:=24}),
 (74,{ty:=(.pair (.int .i64) (.int .i64)),agg:=true,elem:=3,arr:=2}),
 (79,{ty:=(.sl tE),agg:=false,elem:=106,bytes:=64}),
 (98,{ty:=(.pair (.sl (.int .i64)) (.int .i64)),agg:=true,fields:= [(0,1,false),(1,1,false)]}),
 (103,{ty:=(.int .u32),agg:=false}),
 (106,{ty:=tE,agg:=true,fields:= [(0,1,false),(1,3,true)]}),
 (109,{ty:=(.sl (.int .i64)),agg:=false,elem:=3,bytes:=8}),
 (114,{ty:=(.pair (.sl (.int .i64)) (.pair (.sl (.int .i64)) (.pair tM tM))),agg:=true,fields:= [(0,1,false),(1,1,false),(2,3,true),(5,3,true)]}),
 (124,{ty:=(.int .u64),agg:=false}),
 (144,{ty:=(.mp false (.int .i64) false (.sl (.int .i64))),agg:=false,elem:=22,key:=3}),
 (148,{ty:=(.ptr (.pair (.sl (.sl tE)) (.pair (.sl (.sl tE)) (.pair (.sl (.mp false (.int .i64) false .bool)) (.sl (.int .i64)))))),agg:=false}),
 (153,{ty:=(.sl (.mp false (.int .i64) false .bool)),agg:=false,elem:=174,bytes:=8,nest:= [17]}),
 (155,{ty:=(.pair (.sl (.sl tE)) (.pair (.sl (.sl tE)) (.pair (.sl (.mp false (.int .i64) false .bool)) (.sl (.int .i64))))),agg:=true,fields:= [(0,1,false),(1,1,false),(2,1,false),(3,1,false)]}),
 (165,{ty:=(.int .u64),agg:=false}),
 (174,{ty:=(.mp false (.int .i64) false .bool),agg:=false,elem:=4,key:=3,nest:= [44,66]}),
 (183,{ty:=(.pair (.int .u64) (.pair (.int .u64) (.pair (.int .u64) (.pair (.int .u64) .bool)))),agg:=true,fields:= [(0,1,false),(1,1,false),(2,1,false),(3,1,false),(4,1,false)]}),
 (201,{ty:=(.sl .bool),agg:=false,elem:=4,bytes:=1})]
def FA:H5 prog TR=true:=by kernel_rfl
abbrev C6:=Int×Unit
abbrev D5:=QQ×Unit
def Nt:A6:= {args:= [.val true tQ],res:= [.val false (.int .i64)],shared:=false,pre:=fun(x:D5)=>E6 x.1,post:=fun(x:D5) (r:C6)=>r.1=(rv x.1).num.sign}
abbrev Cs:=QQ×QQ×Unit
def Fh:A6:= {args:= [.val true tQ, .val true tQ],res:= [.val false (.int .i64)],shared:=false,pre:=fun(x:Cs)=>(x.1.1.2.length<=549755813888/\x.1.2.length<=549755813888)/\x.2.1.1.2.length<=549755813888/\x.2.1.2.length<=549755813888,post:=fun(x:Cs) (r:C6)=>r.1=Zw (rv x.1) (rv x.2.1)}
abbrev Z7 (a:List AM) (r:List RT) (p:A2 a->Prop) (q:A2 a->Bq r->Prop):A6:= {args:=a,res:=r,shared:=true,pre:=p,post:=q}
abbrev mkM (a:List AM) (r:List RT) (p:A2 a->Prop) (q:A2 a->Bq r->Prop) (m:A2 a->Bq r->Om a->Prop):A6:= {args:=a,res:=r,shared:=true,pre:=p,post:=q,mpost:=m}
def Ch:A6:=Z7 [.val false (.int .i64)] [.val true tQ] (fun(x:C6)=>True) (fun(x:C6) (r:D5)=>r.1=ri x.1)
abbrev Y5:=Bool×Unit
def Jy:A6:= {args:= [.val true tQ, .val true tQ],res:= [.val false .bool],shared:=false,pre:=fun(x:Cs)=>True,post:=fun(x:Cs) (r:Y5)=>r.1=decide (x.1=x.2.1)}
def Mg:A6:=Z7 [.val true tQ] [.val true tQ] (fun(x:D5)=>E6 x.1) (fun(x:D5) (r:D5)=>r.1=rc (-(rv x.1)))
def Tj:A6:=Z7 [.val true tQ, .val true tQ] [.val true tQ] (fun(x:Cs)=>E6 x.1/\E6 x.2.1) (fun(x:Cs) (r:D5)=>r.1=rc (rv x.1+rv x.2.1))
def Je:A6:=Z7 [] [.val true tQ] (fun(x:Unit)=>True) (fun(x:Unit) (r:D5)=>r.1=rc 0)
abbrev Cc:=Int×Int×Unit
def Tk:A6:=Z7 [.val false (.int .i64), .val false (.int .i64)] [.val true tQ] (fun(x:Cc)=>True) (fun(x:Cc) (r:D5)=>r.1=rc (Rat.divInt x.1 x.2.1))
def Ap:A6:=Z7 [.val true tQ, .val true tQ] [.val true tQ] (fun(x:Cs)=>E6 x.1/\E6 x.2.1) (fun(x:Cs) (r:D5)=>r.1=rc (rv x.1-rv x.2.1))
abbrev JY:=(Bool×(List Int))×Unit
def Nq:A6:= {args:= [.val true (.pair .bool (.sl (.int .u32)))],res:= [.val false (.int .i64)],shared:=false,pre:=fun(x:JY)=>Hy x.1.2,post:=fun(x:JY) (r:C6)=>r.1=(iv x.1).sign}
def Ns:A6:=Z7 [.val true tQ] [.val true tQ] (fun(x:D5)=>E6 x.1) (fun(x:D5) (r:D5)=>r.1=rc (rv x.1))
def Tl:A6:=Z7 [.val true tQ, .val true tQ] [.val true tQ] (fun(x:Cs)=>E6 x.1/\E6 x.2.1) (fun(x:Cs) (r:D5)=>r.1=rc (rv x.1-rv x.2.1))
abbrev fK:=(Bool×(List Int))×(Bool×(List Int))×Unit
def Nr:A6:=Z7 [.val true (.pair .bool (.sl (.int .u32))), .val true (.pair .bool (.sl (.int .u32)))] [.val true tQ] (fun(x:fK)=>X7 x.1.2/\X7 x.2.1.2) (fun(x:fK) (r:D5)=>r.1=rc (Fx x.1 x.2.1))
def Fg:A6:=Z7 [.val false (.int .i64)] [.val true (.pair .bool (.sl (.int .u32)))] (fun(x:C6)=>True) (fun(x:C6) (r:JY)=>r.1=ic x.1)
def Jx:A6:= {args:= [.val true (.pair .bool (.sl (.int .u32))), .val true (.pair .bool (.sl (.int .u32)))],res:= [.val false .bool],shared:=false,pre:=fun(x:fK)=>True,post:=fun(x:fK) (r:Y5)=>r.1=decide (x.1=x.2.1)}
abbrev Ek:=(List Int)×(List Int)×Unit
def Jw:A6:= {args:= [.val false (.sl (.int .u32)), .val false (.sl (.int .u32))],res:= [.val false .bool],shared:=false,pre:=fun(x:Ek)=>True,post:=fun(x:Ek) (r:Y5)=>r.1=decide (x.1=x.2.1)}
def Tf:A6:=Z7 [.val true (.pair .bool (.sl (.int .u32))), .val true (.pair .bool (.sl (.int .u32)))] [.val true (.pair .bool (.sl (.int .u32)))] (fun(x:fK)=>E3 x.1.2/\E3 x.2.1.2) (fun(x:fK) (r:JY)=>r.1=ic (iv x.1*iv x.2.1))
def Tm:A6:=Z7 [.val true tQ] [.val true (.pair .bool (.sl (.int .u32)))] (fun(x:D5)=>E6 x.1) (fun(x:D5) (r:JY)=>r.1=ic ((rv x.1).den:Int))
def Tg:A6:=Z7 [.val true (.pair .bool (.sl (.int .u32)))] [.val true (.pair .bool (.sl (.int .u32)))] (fun(x:JY)=>Hy x.1.2) (fun(x:JY) (r:JY)=>r.1=ic (-iv x.1))
def Td:A6:=Z7 [.val true (.pair .bool (.sl (.int .u32))), .val true (.pair .bool (.sl (.int .u32)))] [.val true (.pair .bool (.sl (.int .u32)))] (fun(x:fK)=>E3 x.1.2/\E3 x.2.1.2) (fun(x:fK) (r:JY)=>r.1=ic (iv x.1+iv x.2.1))
def Dn:A6:=Z7 [.val true tQ, .val true tQ] [.val true tQ] (fun(x:Cs)=>E6 x.1/\E6 x.2.1) (fun(x:Cs) (r:D5)=>r.1=rc (rv x.1+rv x.2.1))
def U8:A6:=Z7 [.val true tQ, .val true tQ] [.val true tQ] (fun(x:Cs)=>E6 x.1/\E6 x.2.1) (fun(x:Cs) (r:D5)=>r.1=rc (rv x.1*rv x.2.1))
def Bu:A6:= {args:= [.val true tQ],res:= [.val false .bool],shared:=false,pre:=fun(x:D5)=>E6 x.1,post:=fun(x:D5) (r:Y5)=>r.1=decide (x.1=rc (rv x.1))}
def Ao:A6:=Z7 [.val true tQ] [.val true tQ] (fun(x:D5)=>E6 x.1) (fun(x:D5) (r:D5)=>r.1=rc (-(rv x.1)))
def L3:A6:=Z7 [.val false (.int .i64)] [.val true tQ] (fun(x:C6)=>True) (fun(x:C6) (r:D5)=>r.1=ri x.1)
def W0:A6:= {args:= [.val true tQ],res:= [.val false (.int .i64)],shared:=false,pre:=fun(x:D5)=>True,post:=fun(x:D5) (r:C6)=>r.1=(rv x.1).num.sign}
def Np:A6:=Z7 [.val true (.pair .bool (.sl (.int .u32)))] [.val true (.pair .bool (.sl (.int .u32)))] (fun(x:JY)=>Hy x.1.2) (fun(x:JY) (r:JY)=>r.1=ic (iv x.1))
def Te:A6:=Z7 [.val true (.pair .bool (.sl (.int .u32))), .val true (.pair .bool (.sl (.int .u32)))] [.val true (.pair .bool (.sl (.int .u32)))] (fun(x:fK)=>X7 x.1.2/\X7 x.2.1.2) (fun(x:fK) (r:JY)=>r.1=ic (Nat.gcd (nv x.1.2) (nv x.2.1.2):Int))
def Hm:A6:=Z7 [.val true (.pair .bool (.sl (.int .u32))), .val true (.pair .bool (.sl (.int .u32)))] [.val true (.pair .bool (.sl (.int .u32))), .val true (.pair .bool (.sl (.int .u32))), .val false .bool] (fun(x:fK)=>X7 x.1.2/\X7 x.2.1.2) (fun(x:fK) (r:(Bool×(List Int))×(Bool×(List Int))×Bool×Unit)=>iv x.2.1≠0->r.1=ic (iv x.1/iv x.2.1)/\r.2.1=ic (iv x.1%iv x.2.1)/\r.2.2.1=true)
abbrev B9c:=Bool×(List Int)×Unit
def Nn:A6:=Z7 [.val false .bool, .val false (.sl (.int .u32))] [.val true (.pair .bool (.sl (.int .u32)))] (fun(x:B9c)=>Hy x.2.1) (fun(x:B9c) (r:JY)=>r.1=ic (iv (x.1,x.2.1)))
abbrev Y4:=(List Int)×Unit
def Al:A6:=Z7 [.val false (.int .u64)] [.val false (.sl (.int .u32))] (fun(x:C6)=>True) (fun(x:C6) (r:Y4)=>r.1=nc x.1.toNat)
def Sz:A6:=Z7 [.val false (.sl (.int .u32)), .val false (.sl (.int .u32))] [.val false (.sl (.int .u32))] (fun(x:Ek)=>E3 x.1/\E3 x.2.1) (fun(x:Ek) (r:Y4)=>r.1=nc (nv x.1*nv x.2.1))
def Sx:A6:=Z7 [.val false (.sl (.int .u32)), .val false (.sl (.int .u32))] [.val false (.sl (.int .u32))] (fun(x:Ek)=>E3 x.1/\E3 x.2.1) (fun(x:Ek) (r:Y4)=>r.1=nc (nv x.1+nv x.2.1))
abbrev C3n:=(List Int)×Bool×Unit
def Ta:A6:=Z7 [.val false (.sl (.int .u32)), .val false (.sl (.int .u32))] [.val false (.sl (.int .u32)), .val false .bool] (fun(x:Ek)=>E3 x.1/\E3 x.2.1) (fun(x:Ek) (r:C3n)=>(nv x.1<nv x.2.1->r.1= []/\r.2.1=false)/\(nv x.2.1<=nv x.1->r.1=nc (nv x.1-nv x.2.1)/\r.2.1=true))
def V9:A6:=Z7 [.val true tQ] [.val true tQ] (fun(x:D5)=>E6 x.1) (fun(x:D5) (r:D5)=>r.1=rc (rv x.1))
abbrev oY:=Int×Int×Bool×Unit
def Ar:A6:= {args:= [.val true tQ],res:= [.val false (.int .i64), .val false (.int .i64), .val false .bool],shared:=false,pre:=fun(x:D5)=>True,post:=fun(x:D5) (r:oY)=>(J0 x.1->r.1=Sk x.1/\r.2.1=Ol x.1/\r.2.2.1=true)/\(¬J0 x.1->r.2.2.1=false)}
def R1:A6:=Z7 [.val false (.int .i64), .val false (.int .i64)] [.val true tQ] (fun(x:Cc)=>0<x.2.1) (fun(x:Cc) (r:D5)=>r.1=rc (mkRat x.1 x.2.1.toNat))
abbrev ty7:=(Bool×(List Int))×(List Int)×Unit
def Aq:A6:=Z7 [.val true tQ] [.val true (.pair .bool (.sl (.int .u32))), .val false (.sl (.int .u32))] (fun(x:D5)=>True) (fun(x:D5) (r:ty7)=>(nv x.1.2=0->r.1=zi/\r.2.1= [1])/\(nv x.1.2≠0->r.1=x.1.1/\r.2.1=x.1.2))
def X0:A6:= {args:= [.val false (.sl (.int .u32)), .val false (.sl (.int .u32))],res:= [.val false (.int .i64)],shared:=false,pre:=fun(x:Ek)=>True,post:=fun(x:Ek) (r:C6)=>r.1=Db (nv x.1) (nv x.2.1)}
def X5:A6:=Z7 [.val true (.pair .bool (.sl (.int .u32))), .val false (.sl (.int .u32))] [.val true tQ] (fun(x:ty7)=>nv x.2.1≠0/\X7 x.1.2/\X7 x.2.1) (fun(x:ty7) (r:D5)=>r.1=rc (mkRat (iv x.1) (nv x.2.1)))
def Ex:A6:=Z7 [.val true (.pair .bool (.sl (.int .u32))), .val true (.pair .bool (.sl (.int .u32)))] [.val true (.pair .bool (.sl (.int .u32)))] (fun(x:fK)=>E3 x.1.2/\E3 x.2.1.2) (fun(x:fK) (r:JY)=>r.1=ic (iv x.1+iv x.2.1))
def Ey:A6:=Z7 [.val true (.pair .bool (.sl (.int .u32))), .val true (.pair .bool (.sl (.int .u32)))] [.val true (.pair .bool (.sl (.int .u32)))] (fun(x:fK)=>E3 x.1.2/\E3 x.2.1.2) (fun(x:fK) (r:JY)=>r.1=ic (iv x.1*iv x.2.1))
def Fc:A6:=Z7 [.val false (.sl (.int .u32)), .val false (.sl (.int .u32))] [.val false (.sl (.int .u32))] (fun(x:Ek)=>E3 x.1/\E3 x.2.1) (fun(x:Ek) (r:Y4)=>r.1=nc (nv x.1*nv x.2.1))
def Ez:A6:=Z7 [.val true (.pair .bool (.sl (.int .u32)))] [.val true (.pair .bool (.sl (.int .u32)))] (fun(x:JY)=>Hy x.1.2) (fun(x:JY) (r:JY)=>r.1=ic (-iv x.1))
def W6:A6:= {args:= [.val false (.int .i64), .val false (.int .i64)],res:= [.val false (.int .i64)],shared:=false,pre:=fun(x:Cc)=>True,post:=fun(x:Cc) (r:C6)=>r.1=K6 x.1 x.2.1}
def W9:A6:=Z7 [.val false (.int .i64)] [.val true (.pair .bool (.sl (.int .u32)))] (fun(x:C6)=>True) (fun(x:C6) (r:JY)=>r.1=ic x.1)
abbrev B9m:=QQ×Bool×Unit
def Dp:A6:=Z7 [.val true tQ, .val true tQ] [.val true tQ, .val false .bool] (fun(x:Cs)=>E6 x.1/\E6 x.2.1) (fun(x:Cs) (r:B9m)=>(rv x.2.1=0->r.2.1=false)/\(rv x.2.1≠0->r.1=rc (rv x.1/rv x.2.1)/\r.2.1=true))
def Dj:A6:= {args:= [.val true (.pair .bool (.sl (.int .u32)))],res:= [.val false (.int .i64)],shared:=false,pre:=fun(x:JY)=>True,post:=fun(x:JY) (r:C6)=>r.1=(iv x.1).sign}
def Sy:A6:=Z7 [.val false (.sl (.int .u32)), .val false (.sl (.int .u32))] [.val false (.sl (.int .u32))] (fun(x:Ek)=>X7 x.1/\X7 x.2.1) (fun(x:Ek) (r:Y4)=>r.1=nc (Nat.gcd (nv x.1) (nv x.2.1)))
abbrev C6f:=(List Int)×(List Int)×Bool×Unit
def Hk:A6:=Z7 [.val false (.sl (.int .u32)), .val false (.sl (.int .u32))] [.val false (.sl (.int .u32)), .val false (.sl (.int .u32)), .val false .bool] (fun(x:Ek)=>X7 x.1/\X7 x.2.1) (fun(x:Ek) (r:C6f)=>(nv x.2.1=0->r.2.2.1=false)/\(nv x.2.1≠0->r.1=nc (nv x.1/nv x.2.1)/\r.2.1=nc (nv x.1%nv x.2.1)/\r.2.2.1=true))
def Tc:A6:=Z7 [.val true (.pair .bool (.sl (.int .u32)))] [.val true (.pair .bool (.sl (.int .u32)))] (fun(x:JY)=>Hy x.1.2) (fun(x:JY) (r:JY)=>r.1=ic ((iv x.1).natAbs:Int))
def Ti:A6:=Z7 [.val true (.pair .bool (.sl (.int .u32))), .val true (.pair .bool (.sl (.int .u32)))] [.val true (.pair .bool (.sl (.int .u32)))] (fun(x:fK)=>E3 x.1.2/\E3 x.2.1.2) (fun(x:fK) (r:JY)=>r.1=ic (iv x.1-iv x.2.1))
def Nm:A6:=Z7 [.val false (.sl (.int .u32))] [.val false (.sl (.int .u32))] (fun(x:Y4)=>Hy x.1) (fun(x:Y4) (r:Y4)=>r.1=nc (nv x.1))
def Ff:A6:= {args:= [.val false (.sl (.int .u32)), .val false (.sl (.int .u32))],res:= [.val false (.int .i64)],shared:=false,pre:=fun(x:Ek)=>E3 x.1/\E3 x.2.1,post:=fun(x:Ek) (r:C6)=>r.1=Db (nv x.1) (nv x.2.1)}
abbrev A8n:=Int×Bool×Unit
def Aj:A6:= {args:= [.val false (.sl (.int .u32))],res:= [.val false (.int .u64), .val false .bool],shared:=false,pre:=fun(x:Y4)=>True,post:=fun(x:Y4) (r:A8n)=>(nv x.1<18446744073709551616->r.1=(nv x.1:Int)/\r.2.1=true)/\(18446744073709551616<=nv x.1->r.2.1=false)}
def P3:A6:=Z7 [.val false (.int .u64)] [.val false (.sl (.int .u32))] (fun(x:C6)=>True) (fun(x:C6) (r:Y4)=>r.1=nc x.1.toNat)
def Cg:A6:=Z7 [.val false (.sl (.int .u32))] [.val false (.sl (.int .u32))] (fun(x:Y4)=>True) (fun(x:Y4) (r:Y4)=>r.1=nc (nv x.1))
def Di:A6:=Z7 [.val true (.pair .bool (.sl (.int .u32)))] [.val true (.pair .bool (.sl (.int .u32)))] (fun(x:JY)=>Hy x.1.2) (fun(x:JY) (r:JY)=>r.1=ic (iv x.1))
def Dl:A6:=Z7 [.val false (.sl (.int .u32))] [.val false (.sl (.int .u32))] (fun(x:Y4)=>Hy x.1) (fun(x:Y4) (r:Y4)=>r.1=nc (nv x.1))
def Fb:A6:=Z7 [.val false (.sl (.int .u32)), .val false (.sl (.int .u32))] [.val false (.sl (.int .u32))] (fun(x:Ek)=>X7 x.1/\X7 x.2.1) (fun(x:Ek) (r:Y4)=>r.1=nc (Nat.gcd (nv x.1) (nv x.2.1)))
def Ai:A6:=Z7 [.val false (.sl (.int .u32)), .val false (.sl (.int .u32))] [.val false (.sl (.int .u32)), .val false (.sl (.int .u32)), .val false .bool] (fun(x:Ek)=>E3 x.1) (fun(x:Ek) (r:C6f)=>(nv x.2.1=0->r.1= []/\r.2.1= []/\r.2.2.1=false)/\(nv x.2.1≠0->r.1=nc (nv x.1/nv x.2.1)/\r.2.1=nc (nv x.1%nv x.2.1)/\r.2.2.1=true))
def Ag:A6:=Z7 [.val false .bool, .val false (.sl (.int .u32))] [.val true (.pair .bool (.sl (.int .u32)))] (fun(x:B9c)=>True) (fun(x:B9c) (r:JY)=>r.1=(x.1&&decide (x.2.1≠ []),x.2.1))
def Fa:A6:=Z7 [.val false (.sl (.int .u32)), .val false (.sl (.int .u32))] [.val false (.sl (.int .u32))] (fun(x:Ek)=>E3 x.1/\E3 x.2.1) (fun(x:Ek) (r:Y4)=>r.1=nc (nv x.1+nv x.2.1))
def Fe:A6:=Z7 [.val false (.sl (.int .u32)), .val false (.sl (.int .u32))] [.val false (.sl (.int .u32)), .val false .bool] (fun(x:Ek)=>E3 x.1/\E3 x.2.1) (fun(x:Ek) (r:C3n)=>(nv x.1<nv x.2.1->r.1= []/\r.2.1=false)/\(nv x.2.1<=nv x.1->r.1=nc (nv x.1-nv x.2.1)/\r.2.1=true))
def Br:A6:= {args:= [.val false (.int .i64)],res:= [.val false .bool],shared:=false,pre:=fun(x:C6)=>True,post:=fun(x:C6) (r:Y5)=>r.1=false}
def Am:A6:=Z7 [.val true tQ] [.val true tQ, .val false .bool] (fun(x:D5)=>E6 x.1) (fun(x:D5) (r:B9m)=>(rv x.1=0->r.2.1=false)/\(rv x.1≠0->r.1=rc (rv x.1)⁻¹/\r.2.1=true))
def Hl:A6:= {args:= [.val false (.sl (.int .u32))],res:= [.val false (.int .u64), .val false .bool],shared:=false,pre:=fun(x:Y4)=>Hy x.1,post:=fun(x:Y4) (r:A8n)=>(nv x.1<18446744073709551616->r.1=(nv x.1:Int)/\r.2.1=true)/\(18446744073709551616<=nv x.1->r.2.1=false)}
def Nl:A6:= {args:= [.val false (.sl (.int .u32))],res:= [.val false (.int .i64)],shared:=false,pre:=fun(x:Y4)=>E3 x.1,post:=fun(x:Y4) (r:C6)=>r.1=(J8 (nv x.1):Int)}
abbrev GG:=(List Int)×Int×Unit
def Tb:A6:= {args:= [.val false (.sl (.int .u32)), .val false (.int .i64)],res:= [.val false (.int .u32)],shared:=false,pre:=fun(x:GG)=>0<=x.2.1,post:=fun(x:GG) (r:C6)=>r.1=((nv x.1/2^x.2.1.toNat%2:Nat):Int)}
def Dm:A6:= {args:= [.val false (.sl (.int .u32))],res:= [.val false (.int .u64)],shared:=false,pre:=fun(x:Y4)=>x.1.length<=2,post:=fun(x:Y4) (r:C6)=>r.1=(nv x.1:Int)}
def X4:A6:= {args:= [.val false (.sl (.int .u32)), .val false (.sl (.int .u32))],res:= [.val true (.pair (.int .u64) (.pair (.int .u64) (.pair (.int .u64) (.pair (.int .u64) .bool))))],shared:=false,pre:=fun(x:Ek)=>E3 x.1/\3<=x.1.length/\Nv x.1/\nv x.2.1<=nv x.1/\x.2.1.length<=x.1.length,post:=fun(x:Ek) (r:(Int×(Int×(Int×(Int×Bool))))×Unit)=>C2d (nv x.1) (nv x.2.1) r.1.1 r.1.2.1 r.1.2.2.1 r.1.2.2.2.1 r.1.2.2.2.2}
abbrev C6g:=(List Int)×Int×(List Int)×Int×Unit
def X1:A6:=Z7 [.val false (.sl (.int .u32)), .val false (.int .u64), .val false (.sl (.int .u32)), .val false (.int .u64)] [.val false (.sl (.int .u32))] (fun(x:C6g)=>X7 x.1/\X7 x.2.2.1/\nv x.2.2.1*x.2.2.2.1.toNat<=nv x.1*x.2.1.toNat) (fun(x:C6g) (r:Y4)=>r.1=nc (nv x.1*x.2.1.toNat-nv x.2.2.1*x.2.2.2.1.toNat))
def M7:A6:=Z7 [.val false (.sl (.int .u32)), .val false (.int .u32)] [.val false (.sl (.int .u32)), .val false (.sl (.int .u32))] (fun(x:GG)=>E3 x.1/\x.2.1≠0) (fun(x:GG) (r:Ek)=>r.1=nc (nv x.1/x.2.1.toNat)/\r.2.1=nc (nv x.1%x.2.1.toNat))
def P4:A6:=Z7 [.val false (.sl (.int .u32)), .val false (.sl (.int .u32))] [.val false (.sl (.int .u32)), .val false (.sl (.int .u32))] (fun(x:Ek)=>E3 x.1/\2<=x.2.1.length/\x.2.1.length<=x.1.length/\Nv x.2.1) (fun(x:Ek) (r:Ek)=>r.1=nc (nv x.1/nv x.2.1)/\r.2.1=nc (nv x.1%nv x.2.1))
def Hj:A6:= {args:= [.val false (.int .u32)],res:= [.val false (.int .i64)],shared:=false,pre:=fun(x:C6)=>True,post:=fun(x:C6) (r:C6)=>r.1=(J8 x.1.toNat:Int)}
def U7:A6:= {args:= [.val true tQ, .val true tQ],res:= [.val false (.int .i64)],shared:=false,pre:=fun(x:Cs)=>E6 x.1/\E6 x.2.1,post:=fun(x:Cs) (r:C6)=>r.1=Zw (rv x.1) (rv x.2.1)}
def J7:A6:= {args:= [.val false (.int .u32)],res:= [.val false (.int .i64)],shared:=false,pre:=fun(x:C6)=>True,post:=fun(x:C6) (r:C6)=>r.1=32-(J8 x.1.toNat:Int)}
abbrev C6h:=(List Int)×Int×Int×Unit
def Ak:A6:= {args:= [.val false (.sl (.int .u32)), .val false (.int .i64), .val false (.int .i64)],res:= [.val false (.int .u64)],shared:=false,pre:=fun(x:C6h)=>3<=x.2.1/\(x.1.length:Int)<=x.2.1/\x.2.1<=17592186044416/\0<=x.2.2.1/\x.2.2.1<=31/\nv x.1*2^x.2.2.1.toNat<4294967296^x.2.1.toNat,post:=fun(x:C6h) (r:C6)=>r.1=((nv x.1*2^x.2.2.1.toNat/4294967296^(x.2.1.toNat-2):Nat):Int)}
def Q3:A6:= {args:= [.val false (.sl (.int .u32)), .val false (.int .i64)],res:= [.own (.int .u32) 103],shared:=false,pre:=fun(x:GG)=>E3 x.1/\0<=x.2.1/\x.2.1<=31,post:=fun(x:GG) (r:Y4)=>r.1.length=x.1.length+1/\nv r.1=nv x.1*2^x.2.1.toNat}
def L8:A6:=Z7 [.val false (.sl (.int .u32)), .val false (.int .i64)] [.val false (.sl (.int .u32)), .val false .bool] (fun(x:GG)=>E3 x.1) (fun(x:GG) (r:C3n)=>(x.2.1<0->r.1= []/\r.2.1=false)/\(0<=x.2.1->r.1=nc (nv x.1/2^x.2.1.toNat)/\r.2.1=true))
def Q9:A6:= {args:= [.val false (.int .i64), .val false (.int .i64)],res:= [.val false (.int .i64)],shared:=false,pre:=fun(x:Cc)=>True,post:=fun(x:Cc) (r:C6)=>r.1=K6 x.1 x.2.1}
def W8:A6:= {args:= [.val true (.pair .bool (.sl (.int .u32))), .val true (.pair .bool (.sl (.int .u32)))],res:= [.val false (.int .i64)],shared:=false,pre:=fun(x:fK)=>True,post:=fun(x:fK) (r:C6)=>r.1=K6 (iv x.1) (iv x.2.1)}
def U6:A6:= {args:= [.val false (.int .i64), .val false (.ptr (.sl (.int .u32)))],res:= [.val false (.int .u64)],shared:=false,pre:=fun(x:Int×(List Int)×Unit)=>0<=x.1,post:=fun(x:Int×(List Int)×Unit) (r:C6)=>r.1=(if x.1<(x.2.1.length:Int)then x.2.1.getD x.1.toNat 0 else 0)}
def W7:A6:= {args:= [.val false (.int .i64)],res:= [.val false .bool],shared:=false,pre:=fun(x:C6)=>True,post:=fun(x:C6) (r:Y5)=>r.1=false}
def pZ9:Nat→Nat→Pl→Pl
 | _,0,k=>k
 |i,n+1,k=> .p i (pZ9 (i+1) n k)
def vI:List Wt:= [.val (.int .i64)]
def vU:List Wt:= [.val (.int .u64)]
def VD:An:= {loop:= [(2,⟨[0],[],[(3,false,vI)],[],[]⟩)]}
def Xs:An:= {}
def SU:An:= {loop:= [(3,⟨[6,7],[],[(3,false,vU),(8,false,vI)],[],[]⟩)]}
def KH:An:= {}
def HV:An:= {loop:= [(7,⟨[0,1],[],[(5,false,vI)],[],[]⟩)],plan:= [(9,[3,7],[],true,(pZ9 0 3 (.q 3 (pZ9 4 3 (.q 7 (.p 8 .done)))))),(11,[3,7],[],true,(pZ9 0 3 (.q 3 (pZ9 4 3 (.q 7 (.p 8 .done))))))]}
def SS:An:= {}
abbrev Kv:=List Int×Unit
def CN:A2 Cg.args->Prop:=fun(x:Kv)=>let e:=(1:Int);let c:=(x.1.length:Int);let a:=(0:Int);∃(I:C6->Prop),∃(b: _->Nat),I (c,())/\∀(p:C6),let d:=(i64.wrap (p.1-e),());let f:=(decide (gx a x.1 (i64.wrap (p.1-e))=a));(Ty.int i64).wf p.1/\True->I p->(decide (a<p.1)=true->a<=i64.wrap (p.1-e)/\i64.wrap (p.1-e)<c)/\(iB (J9 (decide (a<p.1)) f false) (I d/\b d<b p) ((a<=a/\a<=p.1/\p.1<=c)/\List.drop a.toNat (List.take p.1.toNat x.1)=nc (nv x.1)))
def N6 (P:List Int×Unit->Prop):Prop:=∀r:List Int×Unit,Jp r.1/\True->P r
def Ij:A2 P3.args->Prop:=fun(x:C6)=>(0:(Ty.int u64).den)<=(32:Int)/\True/\N6 fun r=>r.1=nc (nv [u32.wrap x.1,u32.wrap (Int.fdiv x.1 ((2:Int)^Min.min ((32:Int).toNat) u64.bits))])->r.1=nc x.1.toNat
def Xg:A2 Dm.args->Prop:=fun(x:Kv)=>let c:=(0:Int);let b:=(x.1.length:Int);∃(I:Cc->Prop),∃(d: _->Nat),I (c,c,())/\∀(p:Cc),let a:=(u64.wrap (↑(BitVec.ofInt u64.bits p.1|||BitVec.ofInt u64.bits (u64.wrap (u64.wrap (gx c x.1 p.2.1)*(2:Int)^Min.min (i64.wrap (32*p.2.1)).toNat u64.bits))).toNat:Int),i64.wrap (p.2.1+1),());(Ty.int u64).wf p.1/\(Ty.int i64).wf p.2.1/\True->I p->(iB (decide (p.2.1<b)) ((c<=p.2.1/\p.2.1<b)/\(0:(Ty.int i64).den)<=i64.wrap (32*p.2.1)/\I a/\d a<d p) (p.1=(↑(nv x.1):Int)))
def rT1 (P:Int×Unit->Prop):Prop:=∀r:Int×Unit,KA r.1/\True->P r
def Qa:A2 Aj.args->Prop:=fun(x:Kv)=>let a:=(18446744073709551616:Nat);True/\N6 fun r=>let b:Prop:=((2:Int)<(r.1.length:Int));r.1=nc (nv x.1)->(iB (decide b) ((nv x.1<a->(0:Int)=(↑(nv x.1):Int)/\false=true)/\(a<=nv x.1->false=false)) (List.length r.1<=2/\rT1 fun c=>c.1=(↑(nv r.1):Int)->(nv x.1<a->c.1=(↑(nv x.1):Int)/\true=true)/\(a<=nv x.1->true=false)))
abbrev Fp:=List Int×List Int×Unit
def Ob:A2 X0.args->Prop:=fun(x:Fp)=>let i:=(1:Int);let e:=(nv x.1);let d:=(nv x.2.1);let c:=(0:Int);True/\N6 fun r=>let a:=(r.1.length:Int);r.1=nc e->True/\N6 fun j=>let b:=(j.1.length:Int);j.1=nc d->(iB (decide (a≠b)) ((iB (decide (a<b)) ((-1:Int)=Db e d) (i=Db e d))) (∃(I:C6->Prop),∃(g: _->Nat),I (i64.wrap (a-i),())/\∀(p:C6),let k:Prop:=(gx c j.1 p.1<gx c r.1 p.1);let h:Prop:=(gx c r.1 p.1<gx c j.1 p.1);let f:=(i64.wrap (p.1-i),());(Ty.int i64).wf p.1/\True->I p->(iB (decide (c<=p.1)) ((c<=p.1/\p.1<a)/\(c<=p.1/\p.1<b)/\(iB (decide h) ((-1:Int)=Db e d) ((c<=p.1/\p.1<a)/\(c<=p.1/\p.1<b)/\(iB (decide k) (i=Db e d) (I f/\g f<g p))))) (c=Db e d))))
def Xf:A2 Dl.args->Prop:=fun(x:Kv)=>True/\N6 fun r=>let a:=(r.1.length:Int);r.1=nc (nv x.1)->((0:Int)<=a/\a<=a/\(↑(4:Nat):Int)*a<=(281474976710656:Int)/\a<=(9223372036854775807:Int))/\Ml (List.replicate a.toNat (0:Int)) r.1=nc (nv x.1)
def MR (x:A2 Cg.args) (a:awf Cg.args x) (_:Cg.pre x):CN x:=by
 obtain⟨l,_⟩:=x;have b:l.length<=9223372036854775807:=a.1.1;have k:A7 l:=A3 a.1.2;change List Int at l;simp only[CN,iB];refine⟨fun p=>0<=p.1/\p.1<=(l.length:Int)/\∀i x,p.1.toNat<=i->l[i]? =some x->x=0,fun p=>p.1.toNat,⟨qD _,qI _,fun i x j a=> ?_⟩, ?_⟩
 . rw[rR (by simpa using j)]at a;cases a
 rintro⟨n,_⟩ _ ⟨c,f,b⟩;change Int at n;simp only at c f b⊢;refine⟨fun h=> ?_,fun h=> ?_,fun h=> ?_⟩
 . have h:=qA h;rw[wv (by omega)];exact⟨by omega,by omega⟩
 . rw[K7]at h;simp only[qC,rS]at h;obtain⟨o,g⟩:=h;rw[wv (by omega)]at g⊢;refine⟨⟨by omega,by omega,fun i x j a=> ?_⟩,by omega⟩;by_cases j:i=(n-1).toNat
   . subst j;rw[H1 (d:=(0:Int)) (by omega) (by omega)]at a;cases a;exact g
   . exact b i x (by omega) a
 . refine⟨⟨qI _,c,f⟩, ?_⟩;show(l.take n.toNat).drop 0= _;rw[tW];refine A4r k (by omega) b ?_;rw[K7]at h;simp only[xG,rQ]at h;rcases h with h|h
   . exact .inl (by omega)
   . by_cases a:n=0
     . exact .inl (by omega)
     . rw[wv (by omega)]at h;refine .inr ⟨gx 0 l (n-1), ?_,h⟩;have:=H1 (d:=(0:Int)) (l:=l) (i:=n-1) (by omega) (by omega);rw[<-this];congr 1;omega
def Rf (x:A2 P3.args) (b:awf P3.args x) (_:P3.pre x):Ij x:=by
 obtain⟨v,_⟩:=x;change Int at v;have a:u64.min<=v/\v<=u64.max:=b.1;rw[kC,FB]at a;simp only[Ij,N6];refine⟨by decide,trivial, ?_⟩;rintro⟨r,_⟩ _ a;simp only at a⊢;rw[a];congr 1;rw[show Min.min (Int.toNat 32) u64.bits=32 from rfl];simp only[nv,Co];rw[sG _ (by decide),show(2:Int)^32=4294967296 from rfl];omega
def JO (x:A2 Dm.args) (f:awf Dm.args x) (d:Dm.pre x):Xg x:=by
 obtain⟨l,_⟩:=x;have c:A7 l:=A3 f.1.2;have f:l.length<=2:=d;change List Int at l;simp only[Xg,iB];refine⟨fun p=>0<=p.2.1/\p.2.1<=(l.length:Int)/\p.1=(nv (l.take p.2.1.toNat):Int),fun p=>((l.length:Int)-p.2.1).toNat,⟨qI _,qD _,rfl⟩, ?_⟩;rintro⟨v,i,_⟩ h ⟨f,g,d⟩;change Int at v i;simp only at f g d⊢;refine⟨fun h=> ?_,fun h=> ?_⟩
 . have h:=qA h;have g:=Vj c f h;have j:=Ha (l:=l.take i.toNat) fun x hx=>c x (rY hx)
   rw[qU,sX (by omega)]at j;have n:=LG f h;rw[wv (a:=32*i) (by omega),wv (a:=i+1) (by omega),X6 g.1 (by omega)];have c:Min.min (32*i).toNat u64.bits=32*i.toNat:=by
    show Min.min (32*i).toNat 64= _;omega
   rw[c];have c:i.toNat=0\/i.toNat=1:=by omega
   refine⟨⟨f,h⟩,by show(0:Int)<=32*i;omega, ?_⟩;have f:u64.wrap (((BitVec.ofInt 64 v|||BitVec.ofInt 64 (u64.wrap (gx 0 l i*2^(32*i.toNat)))).toNat:Nat):Int)=(nv (l.take (i+1).toNat):Int):=by
    rw[n];generalize gx 0 l i=b at g;rcases c with c|c
    . rw[c]at j⊢;have i:v=0:=by rw[d,c];simp[nv]
      rw[X6 (a:=b*2^(32*0)) (by omega) (by omega),YI (v:=v) (b:=b) (k:=32*0) (by omega) (by omega) g.1 (by omega) (by omega),X6 (by omega) (by omega)];simp[nv];omega
    . rw[c]at j⊢;rw[c]at d;rw[X6 (a:=b*2^(32*1)) (by omega) (by omega),YI (v:=v) (b:=b) (k:=32*1) (by omega) (by omega) g.1 (by omega) (by omega),X6 (by omega) (by omega)];omega
   exact⟨⟨by omega,by omega,f⟩,by omega⟩
 . have h:=qB h;rw[D4 (by omega)]at d;exact d
def CM (x:A2 Aj.args) (a:awf Aj.args x) (_:Aj.pre x):Qa x:=by
 obtain⟨l,_⟩:=x;change List Int at l;simp only[Qa,iB,N6,rT1];refine⟨trivial, ?_⟩;rintro⟨r,_⟩ _ a;simp only at a⊢;subst a;refine⟨fun h=> ?_,fun h=> ?_⟩
 . have h:=qA h;have:=B3f (k:=2) (n:=nv l) (by omega);refine⟨fun c=> ?_,fun _=>trivial⟩;rw[show(4294967296:Nat)^2=18446744073709551616 from rfl]at this;omega
 . have h:=qB h;have b:(nc (nv l)).length<=2:=by omega
   refine⟨b, ?_⟩;rintro⟨r,_⟩ _ a;simp only at a⊢;have d:=rC (Md (nv l)) (rX (by decide) b);rw[E9]at a;refine⟨fun _=>⟨a,trivial⟩,fun c=> ?_⟩;rw[show(4294967296:Nat)^2=18446744073709551616 from rfl]at d;omega
def Yz (x:A2 X0.args) (A:awf X0.args x) (_:X0.pre x):Ob x:=by
 obtain⟨b,c,_⟩:=x;change List Int at b c;simp only[Ob,iB,N6];refine⟨trivial, ?_⟩;rintro⟨r,_⟩ ⟨⟨y,_⟩,_⟩ o;simp only at o y⊢;subst o;refine⟨trivial, ?_⟩;rintro⟨s,_⟩ ⟨⟨z,_⟩,_⟩ t;simp only at t z⊢;subst t;have k:=J2 (nv b);have l:=J2 (nv c);refine⟨fun j=>⟨fun h=> ?_,fun h=> ?_⟩,fun j=> ?_⟩
 . have h:=qA h;exact(Pf (EN (by omega))).symm
 . have h:=qB h;have j:=qA j;exact(UG (EN (by omega))).symm
 . have n:(nc (nv b)).length=(nc (nv c)).length:=by have:=qB j;omega
   have u:=E9 (nv b);have v:=E9 (nv c);generalize nc (nv b)=r at*;generalize nc (nv c)=s at*;rw[<-u, <-v];refine⟨fun p=> -1<=p.1/\p.1<(r.length:Int)/\r.drop (p.1+1).toNat=s.drop (p.1+1).toNat,fun p=>(p.1+1).toNat, ?_, ?_⟩
   . rw[wv (by omega)];refine⟨by omega,by omega, ?_⟩;rw[sD (by omega),sD (by omega)]
   rintro⟨i,_⟩ _ ⟨w,d,a⟩;change Int at i;simp only at w d a⊢;refine⟨fun h=> ?_,fun h=> ?_⟩
   . have h:=qA h;refine⟨⟨h,d⟩,⟨h,by omega⟩,fun g=> ?_,fun g=>⟨⟨h,d⟩,⟨h,by omega⟩,fun f=> ?_,fun f=> ?_⟩⟩
     . exact(Pf (jE k l n h d a (qA g))).symm
     . exact(UG (jE l k n.symm h (by omega) a.symm (qA f))).symm
     . have g:=qB g;have f:=qB f;rw[wv (by omega)];refine⟨⟨by omega,by omega, ?_⟩,by omega⟩;rw[show i-1+1=i from by omega,W2 h d,W2 h (by omega),a,show gx 0 r i=gx 0 s i from by omega]
   . have h:=qB h;rw[show(i+1).toNat=0 from by omega,tW,tW]at a;rw[a,eF]
def OH {a:Type} {l:List a} {d:a} :Ml (List.replicate ((l.length:Nat):Int).toNat d) l=l:=by
 unfold Ml;rw[rI,qJ,uW,sD (by simp),vV]
def JN (x:A2 Dl.args) (c:awf Dl.args x) (a:Dl.pre x):Xf x:=by
 obtain⟨l,_⟩:=x;have b:A7 l:=A3 c.1.2;have c:l.length<=35184372088832:=a;simp only[Xf,N6];refine⟨trivial, ?_⟩;rintro⟨r,_⟩ _ a;simp only at a⊢;have c:r.length<=l.length:=by rw[a];exact C9 b
 refine⟨⟨by omega,qI _,by simp;omega,by omega⟩, ?_⟩;rw[OH,a]
def UZ:An:= {join:= [(4,⟨[],[],[(0,false,[.val (.sl (.int .u32))]),(1,false,[.val (.sl (.int .u32))])],[],[]⟩),(12,⟨[0,1,5,7,24,25,26],[0],[(6,false,vU)],[],[]⟩)],loop:= [(7,⟨[0,1,5,24,25],[],[(6,false,vU),(26,false,vI)],[],[(0, .row (.int .u32) 103)]⟩)]}
def VC:An:= {join:= [(12,⟨[1,6,8,22,23,24],[0],[(10,false,vU)],[],[]⟩)],loop:= [(7,⟨[1,6,22,23],[],[(7,false,vU),(24,false,vI)],[],[(0, .row (.int .u32) 103)]⟩)]}
def VB:An:= {join:= [(18,⟨[1,5,29,30,31],[],[],[],[(0, .row (.int .u32) 103)]⟩)],loop:= [(11,⟨[1,5,6,7,29,30,31,38,39],[],[(8,false,vU),(40,false,vI)],[],[(0, .row (.int .u32) 103)]⟩),(6,⟨[1,5,29,30],[],[(31,false,vI)],[],[(0, .row (.int .u32) 103)]⟩)]}
def Rx:An:= {loop:= [(4,⟨[0,1,4],[],[(6,false,vU),(7,false,vI)],[],[(0, .row (.int .u32) 103)]⟩)]}
def Xt:An:= {join:= [(15,⟨[0,6,7,8,29,30,31],[0],[(10,false,vU)],[],[]⟩)],loop:= [(10,⟨[0,6,7,29,30],[],[(31,false,vI)],[],[(0, .row (.int .u32) 103)]⟩)]}
def HY:An:= {loop:= [(4,⟨[0,1,5,13,14],[],[(6,false,vU),(15,false,vI)],[],[(0, .row (.int .u32) 103)]⟩)]}
abbrev Tz:=Int×Int×List Int×Unit
def CG:A2 Fa.args->Prop:=fun(x:Fp)=>let f:=(1:Int);let c:=(0:Int);True/\N6 fun r=>r.1=nc (nv x.1)->True/\N6 fun j=>let e:Prop:=((r.1.length:Int)<(j.1.length:Int));j.1=nc (nv x.2.1)->∃(J:Fp->Prop),((iB (decide e) (J (j.1,r)) (J (r.1,j))))/\∀(p:Fp),let d:=(p.2.1.length:Int);let a:=(p.1.length:Int);(Ty.int u32).sl.wf p.1/\(Ty.int u32).sl.wf p.2.1/\True->J p->(c<=i64.wrap (a+f)/\i64.wrap (a+f)<=i64.wrap (a+f)/\(↑(4:Nat):Int)*i64.wrap (a+f)<=(281474976710656:Int)/\i64.wrap (a+f)<=(9223372036854775807:Int))/\∃(I:Tz->Prop),∃(j: _->Nat),I (c,c,List.replicate (i64.wrap (a+f)).toNat c,())/\∀(i:Tz),let h:=(gx c p.1 i.2.1);let g:=(i.2.2.1.length:Int);(Ty.int u64).wf i.1/\(Ty.int i64).wf i.2.1/\Jp i.2.2.1/\True->I i->(iB (decide (i.2.1<a)) ((c<=i.2.1/\i.2.1<a)/\∃(J:C6->Prop),((iB (decide (i.2.1<d)) ((c<=i.2.1/\i.2.1<d)/\J (u64.wrap (u64.wrap (i.1+u64.wrap h)+u64.wrap (gx c p.2.1 i.2.1)),())) (J (u64.wrap (i.1+u64.wrap h),()))))/\∀(p:C6),let b:=(Int.fdiv p.1 ((2:Int)^Min.min ((32:Int).toNat) u64.bits),i64.wrap (i.2.1+f),List.set i.2.2.1 i.2.1.toNat (u32.wrap p.1),());(Ty.int u64).wf p.1/\True->J p->(c<=i.2.1/\i.2.1<g)/\(0:(Ty.int u64).den)<=(32:Int)/\I b/\j b<j i) ((c<=a/\a<g)/\True/\N6 fun r=>r.1=nc (nv (List.set i.2.2.1 a.toNat (u32.wrap i.1)))->r.1=nc (nv x.1+nv x.2.1)))
def Bf (P:Int×Unit->Prop):Prop:=∀r:Int×Unit,K4 r.1/\True->P r
def CL:A2 Fe.args->Prop:=fun(x:Fp)=>let f:=(nv x.1-nv x.2.1);let c:=(0:Int);True/\N6 fun r=>let a:=(r.1.length:Int);r.1=nc (nv x.1)->True/\N6 fun g=>let d:=(g.1.length:Int);g.1=nc (nv x.2.1)->True/\Bf fun i=>i.1=Db (nv r.1) (nv g.1)->(iB (decide (i.1<c)) ((nv x.1<nv x.2.1->Dc Int= []/\false=false)/\(nv x.2.1<=nv x.1->Dc Int=nc f/\false=true)) ((c<=a/\a<=a/\(↑(4:Nat):Int)*a<=(281474976710656:Int)/\a<=(9223372036854775807:Int))/\∃(I:Tz->Prop),∃(j: _->Nat),I (c,c,List.replicate a.toNat c,())/\∀(p:Tz),let e:=(u64.wrap (gx c r.1 p.2.1)-p.1);(Ty.int u64).wf p.1/\(Ty.int i64).wf p.2.1/\Jp p.2.2.1/\True->I p->(iB (decide (p.2.1<a)) ((c<=p.2.1/\p.2.1<a)/\∃(J:C6->Prop),((iB (decide (p.2.1<d)) ((c<=p.2.1/\p.2.1<d)/\J (u64.wrap (u64.wrap e-u64.wrap (gx c g.1 p.2.1)),())) (J (u64.wrap e,()))))/\∀(h:C6),let b:=(Int.fdiv h.1 ((2:Int)^Min.min ((63:Int).toNat) u64.bits),i64.wrap (p.2.1+1),List.set p.2.2.1 p.2.1.toNat (u32.wrap h.1),());(Ty.int u64).wf h.1/\True->J h->(c<=p.2.1/\p.2.1<(p.2.2.1.length:Int))/\(0:(Ty.int u64).den)<=(63:Int)/\I b/\j b<j p) (True/\N6 fun r=>r.1=nc (nv p.2.2.1)->(nv x.1<nv x.2.1->r.1= []/\true=false)/\(nv x.2.1<=nv x.1->r.1=nc f/\true=true)))))
abbrev JE:=Int×List Int×Unit
def CK:A2 Fc.args->Prop:=fun(x:Fp)=>let j:=(nv x.1*nv x.2.1);let e:=(0:Int);True/\N6 fun r=>let c:=(r.1.length:Int);r.1=nc (nv x.1)->True/\N6 fun l=>let b:=(l.1.length:Int);l.1=nc (nv x.2.1)->(iB (J9 (decide (c=e)) true (decide (b=e))) (Dc Int=nc j) ((e<=i64.wrap (c+b)/\i64.wrap (c+b)<=i64.wrap (c+b)/\(↑(4:Nat):Int)*i64.wrap (c+b)<=(281474976710656:Int)/\i64.wrap (c+b)<=(9223372036854775807:Int))/\∃(I:JE->Prop),∃(a: _->Nat),I (e,List.replicate (i64.wrap (c+b)).toNat e,())/\∀(p:JE),(Ty.int i64).wf p.1/\Jp p.2.1/\True->I p->(iB (decide (p.1<c)) (∃(J:Kv->Prop),((e<=p.1/\p.1<c)/\(iB (decide (gx e r.1 p.1=e)) (J (p.2.1,())) (∃(I:Tz->Prop),∃(a: _->Nat),I (e,e,p.2.1,())/\∀(k:Tz),let i:=(i64.wrap (p.1+k.2.1));let h:=(k.2.2.1.length:Int);let f:Prop:=(e<=i64.wrap (p.1+k.2.1)/\i64.wrap (p.1+k.2.1)<h);let c:=(u64.wrap (k.1+u64.wrap (u64.wrap (u64.wrap (gx e r.1 p.1)*u64.wrap (gx e l.1 k.2.1))+u64.wrap (List.getD k.2.2.1 i.toNat e))));let d:=(c.fdiv ((2:Int)^Min.min ((32:Int).toNat) u64.bits),i64.wrap (k.2.1+1),List.set k.2.2.1 i.toNat (u32.wrap c),());(Ty.int u64).wf k.1/\(Ty.int i64).wf k.2.1/\Jp k.2.2.1/\True->I k->(iB (decide (k.2.1<b)) ((e<=k.2.1/\k.2.1<b)/\f/\f/\(0:(Ty.int u64).den)<=(32:Int)/\I d/\a d<a k) ((e<=i64.wrap (p.1+b)/\i64.wrap (p.1+b)<h)/\J (List.set k.2.2.1 (i64.wrap (p.1+b)).toNat (u32.wrap k.1),()))))))/\N6 fun k=>let g:=(i64.wrap (p.1+1),k);J k->I g/\a g<a p) (True/\N6 fun r=>r.1=nc (nv p.2.1)->r.1=nc j))))
abbrev MD:=List Int×Int×Unit
def Gi:A2 M7.args->Prop:=fun(x:MD)=>let e:=(u64.wrap x.2.1);let d:=(0:Int);let c:=(x.1.length:Int);(d<=c/\c<=c/\(↑(4:Nat):Int)*c<=(281474976710656:Int)/\c<=(9223372036854775807:Int))/\∃(I:Tz->Prop),∃(f: _->Nat),I (d,i64.wrap (c-(1:Int)),List.replicate c.toNat d,())/\∀(p:Tz),let a:=(u64.wrap (↑(BitVec.ofInt u64.bits (u64.wrap (p.1*2^Min.min ((32:Int).toNat) u64.bits)) |||BitVec.ofInt u64.bits (u64.wrap (gx d x.1 p.2.1))).toNat:Int));let b:=(a.tmod e,i64.wrap (p.2.1-1),List.set p.2.2.1 p.2.1.toNat (u32.wrap (u64.wrap (a.tdiv e))),());(Ty.int u64).wf p.1/\(Ty.int i64).wf p.2.1/\Jp p.2.2.1/\True->I p->(iB (decide (d<=p.2.1)) ((0:(Ty.int u64).den)<=(32:Int)/\(d<=p.2.1/\p.2.1<c)/\u64.wrap x.2.1≠d/\(d<=p.2.1/\p.2.1<(p.2.2.1.length:Int))/\u64.wrap x.2.1≠d/\I b/\f b<f p) (True/\N6 fun r=>r.1=nc (nv p.2.2.1)->True/\N6 fun f=>f.1=nc p.1.toNat->r.1=nc (nv x.1/x.2.1.toNat)/\f.1=nc (nv x.1%x.2.1.toNat)))
def Ik:A2 L8.args->Prop:=fun(x:MD)=>let i:=(1:Int);let g:=(nv x.1/(2:Nat)^x.2.1.toNat);let f:=(32:Int);let e:=(i64.wrap (Int.tdiv x.2.1 f));let d:=(0:Int);(iB (decide (x.2.1<d)) ((x.2.1<d->Dc Int= []/\false=false)/\(d<=x.2.1->Dc Int=nc g/\false=true)) (True/\N6 fun r=>let b:=(r.1.length:Int);let c:Prop:=(b<=i64.wrap (Int.tdiv x.2.1 f));let a:=(↑(List.drop e.toNat (List.take b.toNat r.1)).length:Int);r.1=nc (nv x.1)->f≠d/\(iB (decide c) ((x.2.1<d->Dc Int= []/\true=false)/\(d<=x.2.1->Dc Int=nc g/\true=true)) (f≠d/\(d<=i64.wrap (Int.tdiv x.2.1 f)/\i64.wrap (Int.tdiv x.2.1 f)<=b/\b<=b)/\f≠d/\(d<=a/\a<=a/\(↑(4:Nat):Int)*a<=(281474976710656:Int)/\a<=(9223372036854775807:Int))/\∃(I:JE->Prop),∃(j: _->Nat),I (d,List.replicate a.toNat d,())/\∀(p:JE),let k:Prop:=(i64.wrap (p.1+i)<a);let h:=(gx d (List.drop e.toNat (List.take b.toNat r.1)) p.1);(Ty.int i64).wf p.1/\Jp p.2.1/\True->I p->(iB (decide (p.1<a)) ((d<=p.1/\p.1<a)/\∃(J:C6->Prop),((iB (decide k) ((d<=i64.wrap (p.1+i)/\i64.wrap (p.1+i)<a)/\(0:(Ty.int u64).den)<=f/\J (u64.wrap (↑(BitVec.ofInt u64.bits (u64.wrap h) |||BitVec.ofInt u64.bits (u64.wrap (u64.wrap (gx d (List.drop e.toNat (List.take b.toNat r.1)) (i64.wrap (p.1+i)))*(2:Int)^Min.min f.toNat u64.bits))).toNat:Int),())) (J (u64.wrap h,()))))/\∀(l:C6),let c:=(i64.wrap (p.1+i),List.set p.2.1 p.1.toNat (u32.wrap (Int.fdiv l.1 ((2:Int)^Min.min (Int.tmod x.2.1 f).toNat u64.bits))),());(Ty.int u64).wf l.1/\True->J l->(0:(Ty.int i64).den)<=Int.tmod x.2.1 f/\(d<=p.1/\p.1<(p.2.1.length:Int))/\I c/\j c<j p) (True/\N6 fun r=>r.1=nc (nv p.2.1)->(x.2.1<d->r.1= []/\true=false)/\(d<=x.2.1->r.1=nc g/\true=true)))))))
def Og:A2 Q3.args->Prop:=fun(x:MD)=>let f:=(1:Int);let d:=(0:Int);let b:=(x.1.length:Int);(d<=i64.wrap (b+f)/\i64.wrap (b+f)<=i64.wrap (b+f)/\(↑(4:Nat):Int)*i64.wrap (b+f)<=(281474976710656:Int)/\i64.wrap (b+f)<=(9223372036854775807:Int))/\∃(I:Tz->Prop),∃(h: _->Nat),I (d,d,List.replicate (i64.wrap (b+f)).toNat d,())/\∀(p:Tz),let g:=(p.2.2.1.length:Int);let e:=(List.set p.2.2.1 b.toNat (u32.wrap p.1));let a:=(u64.wrap (↑(BitVec.ofInt u64.bits p.1|||BitVec.ofInt u64.bits (u64.wrap (u64.wrap (gx d x.1 p.2.1)*(2:Int)^Min.min x.2.1.toNat u64.bits))).toNat:Int));let c:=(a.fdiv ((2:Int)^Min.min ((32:Int).toNat) u64.bits),i64.wrap (p.2.1+f),List.set p.2.2.1 p.2.1.toNat (u32.wrap a),());(Ty.int u64).wf p.1/\(Ty.int i64).wf p.2.1/\Jp p.2.2.1/\True->I p->(iB (decide (p.2.1<b)) ((d<=p.2.1/\p.2.1<b)/\(0:(Ty.int i64).den)<=x.2.1/\(d<=p.2.1/\p.2.1<g)/\(0:(Ty.int u64).den)<=(32:Int)/\I c/\h c<h p) ((d<=b/\b<g)/\e.length=x.1.length+(1:Nat)/\nv e=nv x.1*2^x.2.1.toNat))
def A2m (v:Int) (_:0<=v):Int.fdiv v (2^Min.min (Int.toNat 32) u64.bits)=v/4294967296:=by
 rw[show Min.min (Int.toNat 32) u64.bits=32 from rfl,sG _ (by decide)];rfl
def C3c (v:Int) (_:0<=v):Int.fdiv v (2^Min.min (Int.toNat 63) u64.bits)=v/9223372036854775808:=by
 rw[show Min.min (Int.toNat 63) u64.bits=63 from rfl,sG _ (by decide)];rfl
def LQ {v b:Int} {k:Nat} (v0:0<=v) (v1:v<2^k) (b0:0<=b) (a:b*2^k<18446744073709551616) (c:v<18446744073709551616):(((BitVec.ofInt 64 (b*2^k) |||BitVec.ofInt 64 v).toNat:Nat):Int)=v+b*2^k:=by
 rw[BitVec.or_comm];exact YI v0 v1 b0 a c
def MN (x:A2 Fa.args) (c:awf Fa.args x) (g:Fa.pre x):CG x:=by
 obtain⟨a,b,_⟩:=x;have d:A7 a:=A3 c.1.2;have f:A7 b:=A3 c.2.1.2;change List Int at a b;obtain⟨c,h⟩:a.length<=17592186044416/\b.length<=17592186044416:=g;have c:=C9 d;have c:=C9 f;simp only[CG,iB,N6];refine⟨trivial, ?_⟩;rintro⟨u,_⟩ _ f;refine⟨trivial, ?_⟩;rintro⟨s,_⟩ _ c;simp only at f c⊢;subst f c;refine⟨fun p=>p.2.1.length<=p.1.length/\p.1.length<=17592186044416/\nv p.1+nv p.2.1=nv a+nv b,⟨fun h=> ?_,fun h=> ?_⟩, ?_⟩
 . have h:=qA h;refine⟨by show(nc (nv a)).length<=(nc (nv b)).length;omega,by show(nc (nv b)).length<= _;omega, ?_⟩;show nv (nc (nv b))+nv (nc (nv a))= _;rw[E9,E9,wD]
 . have h:=qB h;refine⟨by show(nc (nv b)).length<=(nc (nv a)).length;omega,by show(nc (nv a)).length<= _;omega, ?_⟩;show nv (nc (nv a))+nv (nc (nv b))= _;rw[E9,E9]
 rintro⟨P,Q,_⟩ ⟨c,d,_⟩ ⟨k,b,n⟩;change List Int at P Q;simp only at k b n⊢;have b:A7 P:=A3 c.2;have r:A7 Q:=A3 d.2;rw[wv (a:=(P.length:Int)+1) (by omega)];refine⟨⟨by omega,qI _,by simp;omega,by omega⟩, ?_⟩;refine⟨fun p=>0<=p.2.1/\p.2.1<=(P.length:Int)/\0<=p.1/\p.1<=1/\p.2.2.1.length=P.length+1/\nv (p.2.2.1.take p.2.1.toNat)+4294967296^p.2.1.toNat*p.1.toNat=nv (P.take p.2.1.toNat)+nv (Q.take p.2.1.toNat),fun p=>((P.length:Int)-p.2.1).toNat,⟨qI _,qD _,qI _,by show(0:Int)<=1;omega,by rw[rI];omega,by simp[nv]⟩, ?_⟩;rintro⟨d,i,out,_⟩ ⟨_,_,w,_⟩ ⟨c,j,s,t,o,g⟩;change Int at d i;change List Int at out;simp only at c j s t o g⊢;have j:=M5 b i.toNat;have dQ:=M5 r i.toNat;refine⟨fun j=> ?_,fun j=> ?_⟩
 . have h:i<(P.length:Int):=qA j;rw[Ge b c h,X6 (a:=(dg P i.toNat:Int)) (by omega) (by omega),X6 (a:=d+(dg P i.toNat:Int)) (by omega) (by omega)];refine⟨⟨c,h⟩,fun p=>p.1=d+(dg P i.toNat:Int)+(dg Q i.toNat:Int),⟨fun b=> ?_,fun b=> ?_⟩, ?_⟩
   . have b:=qA b;refine⟨⟨c,b⟩, ?_⟩;show u64.wrap _= _;rw[Ge r c b,X6 (a:=(dg Q i.toNat:Int)) (by omega) (by omega),X6 (by omega) (by omega)]
   . have b:=qB b;show d+(dg P i.toNat:Int)= _;rw[Ql (l:=Q) (by omega)];omega
   rintro⟨r,_⟩ _ b;change Int at r;simp only at b⊢;subst b;refine⟨⟨c,by omega⟩,by decide, ?_⟩;rw[A2m _ (by omega),wv (by omega),Co];refine⟨⟨by omega,by omega,by omega,by omega,by rw[qM];exact o, ?_⟩,by omega⟩;rw[show(i+1).toNat=i.toNat+1 from by omega,S5 (by omega),I4 P,I4 Q,sC];exact eJ g (by omega)
 . have h:=qB j;refine⟨⟨by omega,by omega⟩,trivial, ?_⟩;rintro⟨u,_⟩ _ f;simp only at f⊢;rw[f];congr 1;rw[show i.toNat=P.length from by omega,qW (qZ P.length),qW k]at g;rw[qJ,w32 (by omega) (by omega)];have e:=S5 (l:=out) (i:=P.length) (v:=d) (by omega);rw[qW (by rw[qM];omega)]at e;rw[e,g,n]
def MQ (x:A2 Fe.args) (b:awf Fe.args x) (g:Fe.pre x):CL x:=by
 obtain⟨a,c,_⟩:=x;have d:A7 a:=A3 b.1.2;have f:A7 c:=A3 b.2.1.2;change List Int at a c;obtain⟨b,h⟩:a.length<=17592186044416/\c.length<=17592186044416:=g;have u:=C9 d;have b:=C9 f;simp only[CL,iB,N6,Bf];refine⟨trivial, ?_⟩;rintro⟨r,_⟩ _ b;refine⟨trivial, ?_⟩;rintro⟨s,_⟩ _ d;refine⟨trivial, ?_⟩;rintro⟨n,_⟩ _ g;simp only at b d g⊢;rw[b,d,E9,E9]at g;subst g;refine⟨fun h=> ?_,fun h=> ?_⟩
 . have h:=qA h;refine⟨fun _=>⟨by trivial,by trivial⟩,fun i=> ?_⟩;unfold Db at h;rw[qK (by omega)]at h;split at h<;>omega
 . have h:=qB h;have i:nv c<=nv a:=by
    rcases sE (nv a) (nv c)with f|f
    . rw[Pf f]at h;omega
    . exact f
   have o:A7 r:=b▸J2 _;have t:A7 s:=d▸J2 _;have j:nv r=nv a:=by rw[b,E9]
   have k:nv s=nv c:=by rw[d,E9]
   have c:r.length<=a.length:=by rw[b];exact u
   have v:s.length<=r.length:=by rw[b,d];exact J5 i
   rw[<-j, <-k]at i⊢;clear b d j k;refine⟨⟨by omega,qI _,by simp;omega,by omega⟩, ?_⟩;refine⟨fun p=>0<=p.2.1/\p.2.1<=(r.length:Int)/\0<=p.1/\p.1<=1/\p.2.2.1.length=r.length/\nv (r.take p.2.1.toNat)+4294967296^p.2.1.toNat*p.1.toNat=nv (p.2.2.1.take p.2.1.toNat)+nv (s.take p.2.1.toNat),fun p=>((r.length:Int)-p.2.1).toNat,⟨qI _,qD _,qI _,by show(0:Int)<=1;omega,by simp,by simp[nv]⟩, ?_⟩;rintro⟨j,i,out,_⟩ ⟨_,_,w,_⟩ ⟨c,f,b,u,k,d⟩;change Int at j i;change List Int at out;simp only at c f b u k d⊢;have u:A7 out:=A3 w.2;have b:=M5 o i.toNat;have b:=M5 t i.toNat;refine⟨fun f=> ?_,fun f=> ?_⟩
   . have h:i<(r.length:Int):=qA f;rw[Ge o c h,X6 (a:=(dg r i.toNat:Int)) (by omega) (by omega)];refine⟨⟨c,h⟩,fun p=>p.1=((dg r i.toNat:Int)-j-(dg s i.toNat:Int))%18446744073709551616,⟨fun b=> ?_,fun b=> ?_⟩, ?_⟩
     . have b:=qA b;refine⟨⟨c,b⟩, ?_⟩;show u64.wrap _= _;rw[Ge t c b,X6 (a:=(dg s i.toNat:Int)) (by omega) (by omega),Cp,Cp];omega
     . have b:=qB b;show u64.wrap _= _;rw[Ql (l:=s) (by omega),Cp];omega
     rintro⟨n,_⟩ _ g;change Int at n;simp only at g⊢;refine⟨⟨c,by omega⟩,by decide, ?_⟩;rw[C3c _ (by omega),wv (by omega),Co];refine⟨⟨by omega,by omega,by omega,by omega,by rw[qM];exact k, ?_⟩,by omega⟩;rw[show(i+1).toNat=i.toNat+1 from by omega,S5 (by omega),I4 r,I4 s,sC];exact XM d (by omega)
   . have h:=qB f;refine⟨trivial, ?_⟩;rintro⟨q,_⟩ _ b;simp only at b⊢;refine⟨fun c=>by omega,fun _=>⟨?_,by trivial⟩⟩;rw[b];congr 1;rw[show i.toNat=r.length from by omega,qW (qZ _),qW (by omega),qW v]at d;have b:nv out<4294967296^out.length:=Ha u;rw[k]at b;have c:j.toNat=0:=IC (P:=4294967296^r.length) (x:=nv out) (by omega) b;rw[c,wQ,tC]at d;omega
def MP (x:A2 Fc.args) (b:awf Fc.args x) (h:Fc.pre x):CK x:=by
 obtain⟨f,g,_⟩:=x;have c:A7 f:=A3 b.1.2;have d:A7 g:=A3 b.2.1.2;change List Int at f g;obtain⟨b,i⟩:f.length<=17592186044416/\g.length<=17592186044416:=h;have i:=C9 c;have j:=C9 d;simp only[CK,iB,N6];refine⟨trivial, ?_⟩;rintro⟨a,_⟩ _ c;refine⟨trivial, ?_⟩;rintro⟨b,_⟩ _ d;simp only at c d⊢;have n:A7 a:=c▸J2 _;have z:A7 b:=d▸J2 _;have h:a.length<=17592186044416:=by rw[c];omega
 have h:b.length<=17592186044416:=by rw[d];omega
 have h:nv a=nv f:=by rw[c,E9]
 have f:nv b=nv g:=by rw[d,E9]
 rw[<-h, <-f];clear c d h f i j;refine⟨fun h=> ?_,fun _=> ?_⟩
 . rw[I9]at h;simp only[uD,rS]at h;have:nv a*nv b=0:=by
    rcases h with h|h
    . rw[qR (l:=a) (by omega)];simp[nv]
    . rw[qR (l:=b) (by omega)];simp[nv]
   rw[this,O6]
 have c:i64.wrap ((a.length:Int)+(b.length:Int))=((a.length+b.length:Nat):Int):=by
  rw[wv (by omega)];omega
 rw[c];refine⟨⟨by omega,qI _,by simp;omega,by omega⟩, ?_⟩;refine⟨fun p=>0<=p.1/\p.1<=(a.length:Int)/\p.2.1.length=a.length+b.length/\nv p.2.1=nv (a.take p.1.toNat)*nv b/\∀j,p.1.toNat+b.length<=j->dg p.2.1 j=0,fun p=>((a.length:Int)-p.1).toNat,⟨qI _,qD _,by rw[rI,qJ],by simp[nv,Sm],fun j _=>KV _ _⟩, ?_⟩;rintro⟨i,out,_⟩ ⟨_,r,_⟩ ⟨c,o,d,g,f⟩;change Int at i;change List Int at out;simp only at c o d g f⊢;refine⟨fun t=> ?_,fun t=> ?_⟩
 . have h:i<(a.length:Int):=qA t;have B:=M5 n i.toNat;rw[Ge n c h];refine⟨fun p=>p.1.length=a.length+b.length/\nv p.1=nv (a.take (i.toNat+1))*nv b/\∀j,i.toNat+1+b.length<=j->dg p.1 j=0,⟨⟨c,h⟩,fun n=> ?_,fun n=> ?_⟩, ?_⟩
   . have n:(dg a i.toNat:Int)=0:=qA n;refine⟨d, ?_,fun j n=>f j (by omega)⟩;show nv out= _;rw[g,I4,show dg a i.toNat=0 from by omega,wQ,tC]
   . refine⟨fun p=>0<=p.2.1/\p.2.1<=(b.length:Int)/\0<=p.1/\p.1<=4294967295/\p.2.2.1.length=a.length+b.length/\nv p.2.2.1+4294967296^(i.toNat+p.2.1.toNat)*p.1.toNat=nv out+4294967296^i.toNat*(dg a i.toNat*nv (b.take p.2.1.toNat))/\∀j,i.toNat+b.length<=j->dg p.2.2.1 j=0,fun p=>((b.length:Int)-p.2.1).toNat,⟨qI _,qD _,qI _,by show(0:Int)<=4294967295;omega,d,by simp[nv],f⟩, ?_⟩;rintro⟨c,j,o,_⟩ ⟨_,_,D,_⟩ ⟨r,u,w,y,s,d,f⟩;change Int at c j;change List Int at o;simp only at r u w y s d f⊢;have A:A7 o:=A3 D.2;refine⟨fun u=> ?_,fun u=> ?_⟩
     . have n:j<(b.length:Int):=qA u;have D:=M5 z j.toNat;rw[wv (a:=i+j) (by omega)];refine⟨⟨r,n⟩,⟨by omega,by omega⟩,⟨by omega,by omega⟩,by decide, ?_⟩;rw[Ge z r n,Z6 A,show(i+j).toNat=i.toNat+j.toNat from by omega];have r:=M5 A (i.toNat+j.toNat);have r:dg a i.toNat*dg b j.toNat<=4294967295*4294967295:=yV B D;have z:(dg a i.toNat:Int)*(dg b j.toNat:Int)=((dg a i.toNat*dg b j.toNat:Nat):Int):=(uP _ _).symm;rw[X6 (a:=(dg a i.toNat:Int)) (by omega) (by omega),X6 (a:=(dg b j.toNat:Int)) (by omega) (by omega),X6 (a:=(dg o (i.toNat+j.toNat):Int)) (by omega) (by omega),z];generalize B:dg a i.toNat*dg b j.toNat=M at r;rw[X6 (a:=(M:Int)) (by omega) (by omega),X6 (a:=(M:Int)+(dg o (i.toNat+j.toNat):Int)) (by omega) (by omega),X6 (by omega) (by omega),A2m _ (by omega),wv (by omega),Co];refine⟨⟨by omega,by omega,by omega,by omega,by rw[qM];exact s, ?_,fun q z=> ?_⟩,by omega⟩
       . have r:=Ks (l:=o) (k:=i.toNat+j.toNat) (v:=(c+((M:Int)+(dg o (i.toNat+j.toNat):Int)))%4294967296) (by omega);rw[show(j+1).toNat=j.toNat+1 from by omega,I4 b, <-uN i.toNat,sC,sZ (dg a i.toNat)];have A:dg a i.toNat*(4294967296^j.toNat*dg b j.toNat)=4294967296^j.toNat*M:=by rw[<-B,zV]
         rw[A,sZ (4294967296^i.toNat), <-sM (4294967296^i.toNat) (4294967296^j.toNat), <-uZ, <-uN (nv out), <-d];generalize 4294967296^(i.toNat+j.toNat)=P at*;have A:((c+((M:Int)+(dg o (i.toNat+j.toNat):Int)))%4294967296).toNat+4294967296*((c+((M:Int)+(dg o (i.toNat+j.toNat):Int)))/4294967296).toNat=c.toNat+dg o (i.toNat+j.toNat)+M:=by omega
         have B:=tR (P* ·) A;simp only[sZ, <-sM]at B;omega
       . rw[Zy (by omega),qK (by omega)];exact f q z
     . have n:=qB u;rw[wv (a:=i+(b.length:Int)) (by omega),w32 w y];refine⟨⟨by omega,by omega⟩,⟨by show(o.set _ _).length= _;rw[qM];exact s, ?_,fun q z=> ?_⟩⟩
       . show nv (o.set _ _)= _;have r:=Ks (l:=o) (k:=(i+(b.length:Int)).toNat) (v:=c) (by omega);rw[f _ (by omega),wQ,tC]at r;rw[r,show(i+(b.length:Int)).toNat=i.toNat+b.length from by omega];rw[show j.toNat=b.length from by omega,qW (qZ b.length)]at d;rw[d,I4,uU,g,sM]
       . show dg (o.set _ _) q=0;rw[Zy (by omega),qK (by omega)];exact f q (by omega)
   . rintro⟨o,_⟩ _ ⟨b,c,d⟩;simp only at b c d⊢;rw[wv (by omega),show(i+1).toNat=i.toNat+1 from by omega];exact⟨⟨by omega,by omega,b,c,d⟩,by omega⟩
 . have h:=qB t;refine⟨trivial, ?_⟩;rintro⟨r,_⟩ _ b;simp only at b⊢;rw[b,g,qW (by omega)]
def Od (x:A2 M7.args) (D:awf M7.args x) (P:M7.pre x):Gi x:=by
 obtain⟨l,d,_⟩:=x;have O:A7 l:=A3 D.1.2;change List Int at l;change Int at d;have J:u32.min<=d/\d<=u32.max:=D.2.1;rw[UR,UQ]at J;obtain⟨X,o⟩:l.length<=17592186044416/\d≠0:=P;simp only[Gi,iB,N6];have T:u64.wrap d=d:=X6 (by omega) (by omega);rw[T,wv (a:=(l.length:Int)-1) (by omega)];refine⟨⟨by omega,qI _,by simp;omega,by omega⟩, ?_⟩;refine⟨fun p=> -1<=p.2.1/\p.2.1<(l.length:Int)/\0<=p.1/\p.1<d/\p.2.2.1.length=l.length/\nv (l.drop (p.2.1+1).toNat)=nv (p.2.2.1.drop (p.2.1+1).toNat)*d.toNat+p.1.toNat,fun p=>(p.2.1+1).toNat,⟨by show(-1:Int)<=(l.length:Int)-1;omega,by show(l.length:Int)-1< _;omega,qI _,by show(0:Int)<d;omega,by simp, ?_⟩, ?_⟩
 . show nv (l.drop ((l.length:Int)-1+1).toNat)=nv ((List.replicate _ 0).drop ((l.length:Int)-1+1).toNat)* _ + _;rw[sD (by omega),sD (by rw[rI];omega)];simp[nv]
 rintro⟨c,i,q,_⟩ _ ⟨H,j,s,I,u,g⟩;change Int at c i;change List Int at q;simp only at H j s I u g⊢;refine⟨fun r=> ?_,fun r=> ?_⟩
 . have h:0<=i:=qA r;have w:=Vj O h j;have M:=W2 (l:=l) h j;rw[show Min.min (Int.toNat 32) u64.bits=32 from rfl];generalize gx 0 l i=b at*;have E:u64.wrap (c*2^32)=c*2^32:=X6 (by omega) (by omega);have F:u64.wrap b=b:=X6 (by omega) (by omega);have G:(((BitVec.ofInt u64.bits (c*2^32) |||BitVec.ofInt u64.bits b).toNat:Nat):Int)=b+c*4294967296:=LQ (v:=b) (b:=c) (k:=32) w.1 (by omega) s (by omega) (by omega);rw[E,F,G,X6 (a:=b+c*4294967296) (by omega) (by omega),wv (a:=i-1) (by omega)];have t:0<=b+c*4294967296:=by omega
   rw[tV t,IntWalk.u64_quo _ _ ⟨t,by omega,by omega⟩];have y:=g0i t (show 0<=d by omega);have V:(b+c*4294967296)/d<4294967296:=by
    rw[g1z (by omega)];have:(c+1)*4294967296<=d*4294967296:=sH (by omega) (by decide);omega
   have A:=g2f (b+c*4294967296) o;have Q:=zK (b+c*4294967296) (b:=d) (by omega);have U:=yK (b+c*4294967296) d;rw[w32 y (by omega)];generalize (b+c*4294967296)/d=f at*;generalize (b+c*4294967296)%d=ri at*;refine⟨by decide,⟨h,j⟩,o,⟨h,by omega⟩,o,⟨by omega,by omega,A,Q,by rw[qM];exact u, ?_⟩,by omega⟩;rw[show i-1+1=i from by omega,M];have N:(q.set i.toNat f).drop i.toNat=f::q.drop (i+1).toNat:=by
    have n:i.toNat<q.length:=by omega
    rw[xJ (by rw[qM];exact n),List.getElem_set_self,zC (by omega),show(i+1).toNat=i.toNat+1 from by omega]
   rw[N];simp only[nv];rw[g];have R:(b.toNat:Int)+4294967296*c.toNat=f.toNat*d.toNat+ri.toNat:=by
    rw[sN w.1,sN s,sN y,sN (show 0<=d by omega),sN A,g2b f];omega
   have W:b.toNat+4294967296*c.toNat=f.toNat*d.toNat+ri.toNat:=by
    have:((b.toNat+4294967296*c.toNat:Nat):Int)=((f.toNat*d.toNat+ri.toNat:Nat):Int):=by
     rw[wV,wV,uP,uP];exact R
    exact g0f this
   rw[sZ, <-sM,uU];omega
 . have h:¬0<=i:=qB r;rw[show(i+1).toNat=0 from by omega,tW,tW]at g;refine⟨trivial, ?_⟩;rintro⟨Y,_⟩ _ z;refine⟨trivial, ?_⟩;rintro⟨Z,_⟩ _ B;simp only at z B⊢;have n:c.toNat<d.toNat:=by omega
   rw[tG]at g;rw[z,B,g,g2i,tP n,g2h (by omega),uC n,tC];exact⟨rfl,rfl⟩
def Zd (x:A2 Q3.args) (d:awf Q3.args x) (c:Q3.pre x):Og x:=by
 obtain⟨l,s,_⟩:=x;have h:A7 l:=A3 d.1.2;change List Int at l;change Int at s;obtain⟨d,w,f⟩:l.length<=17592186044416/\0<=s/\s<=31:=c;simp only[Og,iB];rw[wv (a:=(l.length:Int)+1) (by omega)];refine⟨⟨by omega,qI _,by simp;omega,by omega⟩, ?_⟩;have c:(2:Nat)^s.toNat<=2^31:=rX (by decide) (by omega);have c:0<(2:Nat)^s.toNat:=tN (by decide);have d:((2:Int)^s.toNat)=((2^s.toNat:Nat):Int):=by rw[xK];rfl
 refine⟨fun p=>0<=p.2.1/\p.2.1<=(l.length:Int)/\0<=p.1/\p.1<2^s.toNat/\p.2.2.1.length=l.length+1/\nv (p.2.2.1.take p.2.1.toNat)+4294967296^p.2.1.toNat*p.1.toNat=nv (l.take p.2.1.toNat)*2^s.toNat,fun p=>((l.length:Int)-p.2.1).toNat,⟨qI _,qD _,qI _,by show(0:Int)<2^s.toNat;rw[d];omega,by rw[rI];omega,by simp[nv]⟩, ?_⟩;rintro⟨c,i,out,_⟩ ⟨_,_,n,_⟩ ⟨f,j,t,o,r,g⟩;change Int at c i;change List Int at out;simp only at f j t o r g⊢;have j:c<((2^s.toNat:Nat):Int):=by rw[<-d];exact o
 refine⟨fun n=> ?_,fun n=> ?_⟩
 . have j:i<(l.length:Int):=qA n;have dl:=M5 h i.toNat;have u:Min.min (Int.toNat s) u64.bits=s.toNat:=by show Min.min (Int.toNat s) 64= _;omega
   rw[Ge h f j,u,d];have h:(dg l i.toNat:Int)*((2^s.toNat:Nat):Int)=((dg l i.toNat*2^s.toNat:Nat):Int):=(uP _ _).symm;have u:dg l i.toNat*2^s.toNat<=4294967295*2^s.toNat:=rM _ dl;have u:(((BitVec.ofInt u64.bits c|||BitVec.ofInt u64.bits ((dg l i.toNat*2^s.toNat:Nat):Int)).toNat:Nat):Int)=c+((dg l i.toNat*2^s.toNat:Nat):Int):=by
    have:=YI (v:=c) (b:=(dg l i.toNat:Int)) (k:=s.toNat) t o (by omega) (by rw[d,h];omega) (by omega);rw[d,h]at this;exact this
   rw[X6 (a:=(dg l i.toNat:Int)) (by omega) (by omega),h,X6 (a:=((dg l i.toNat*2^s.toNat:Nat):Int)) (by omega) (by omega),u,X6 (by omega) (by omega),A2m _ (by omega),wv (by omega),Co];generalize d:dg l i.toNat*2^s.toNat=M at*;refine⟨⟨f,j⟩,w,⟨f,by omega⟩,by decide,⟨by omega,by omega,by omega, ?_,by rw[qM];exact r, ?_⟩,by omega⟩
   . generalize 2^s.toNat=T at*;omega
   . rw[show(i+1).toNat=i.toNat+1 from by omega,S5 (by omega),I4 l,sC,uU, <-g,sM (4294967296^i.toNat) (dg l i.toNat),d];generalize 4294967296^i.toNat=P at*;have d:((c+(M:Int))%4294967296).toNat+4294967296*((c+(M:Int))/4294967296).toNat=c.toNat+M:=by omega
     have f:=tR (P* ·) d;simp only[sZ, <-sM]at f;omega
 . have j:¬i<(l.length:Int):=qB n;rw[qJ,w32 (by omega) (by omega)];refine⟨⟨by omega,by omega⟩,by rw[qM];exact r, ?_⟩;have e:=S5 (l:=out) (i:=l.length) (v:=c) (by omega);rw[qW (by rw[qM];omega)]at e;rw[show i.toNat=l.length from by omega,qW (qZ l.length)]at g;rw[e,g]
def Rh (x:A2 L8.args) (d:awf L8.args x) (g:L8.pre x):Ik x:=by
 obtain⟨a,n,_⟩:=x;have f:A7 a:=A3 d.1.2;have c:=(show i64.min<=n/\n<=i64.max from d.2.1);rw[Vg,EG]at c;change List Int at a;change Int at n;have d:a.length<=17592186044416:=g;have g:=C9 f;have d: -9223372036854775808<=n/\n<=9223372036854775807:=c;simp only[Ik,iB,N6];refine⟨fun h=> ?_,fun h=>⟨trivial, ?_⟩⟩
 . have h:=qA h;exact⟨fun _=>⟨by trivial,by trivial⟩,fun d=>by omega⟩
 have h:=qB h;have f:0<=n:=by omega
 rintro⟨r,_⟩ _ c;simp only at c⊢;have j:i64.wrap (Int.tdiv n 32)=((n.toNat/32:Nat):Int):=by
  rw[yT f,wv (by omega)];omega
 have o:(Int.tmod n 32).toNat=n.toNat%32:=by rw[tV f];omega
 have w:(0:Int)<=Int.tmod n 32:=zH _ f;have t:n.toNat=32*(n.toNat/32)+n.toNat%32:=by omega
 have z:n.toNat%32<=31:=by omega
 have f:Min.min (n.toNat%32) u64.bits=n.toNat%32:=by show Min.min (n.toNat%32) 64= _;omega
 rw[j,o,f];have A:nv r=nv a:=by rw[c,E9]
 have u:A7 r:=c▸J2 _;have B:r.length<=a.length:=by rw[c];exact g
 have g:=fD (l:=r) u (k:=n.toNat/32) (s:=n.toNat%32);rw[<-t,A]at g;clear j o f;refine⟨by decide,fun d=> ?_,fun d=> ?_⟩
 . have d:=qA d;refine⟨fun c=>by omega,fun _=>⟨?_,by trivial⟩⟩;rw[g,sD (by omega),jD,g4h,O6]
 . have d:=qB d;rw[g];rw[show(((n.toNat/32:Nat):Int)).toNat=n.toNat/32 from qJ _,show((r.length:Int)).toNat=r.length from qJ _,qW (qZ _)];have f:A7 (r.drop (n.toNat/32)):=fun y hy=>u y (vG hy)
   have d:(r.drop (n.toNat/32)).length<=r.length:=by rw[sL];omega
   refine⟨by decide,⟨by omega,by omega,qI _⟩,by decide,⟨by omega,qI _,by omega,by omega⟩, ?_⟩;clear g t;generalize r.drop (n.toNat/32)=t at*;generalize n.toNat%32=s at*;have o:nv t/2^s<4294967296^t.length:=yC (wX _ _) (Ha f);refine⟨fun p=>0<=p.1/\p.1<=(t.length:Int)/\p.2.1.length=t.length/\nv (p.2.1.take p.1.toNat)=nv t/2^s%4294967296^p.1.toNat,fun p=>((t.length:Int)-p.1).toNat,⟨qI _,qD _,by simp,by simp[nv];omega⟩, ?_⟩;rintro⟨i,out,_⟩ ⟨_,r,_⟩ ⟨g,d,n,j⟩;change Int at i;change List Int at out;simp only at g d n j⊢;have d:=M5 f i.toNat;have d:=M5 f (i.toNat+1);refine⟨fun c=> ?_,fun c=> ?_⟩
   . have c:=qA c;rw[wv (a:=i+1) (by omega)];refine⟨⟨g,c⟩,fun p=>p.1=((dg t i.toNat+dg t (i.toNat+1)*4294967296:Nat):Int),⟨fun d=> ?_,fun d=> ?_⟩, ?_⟩
     . have d:=qA d;refine⟨⟨by omega,d⟩,by decide, ?_⟩;show u64.wrap _= _;rw[Ge f g c,Ge f (by omega) d,show(i+1).toNat=i.toNat+1 from by omega];rw[show Min.min (Int.toNat 32) u64.bits=32 from rfl];rw[X6 (a:=(dg t i.toNat:Int)) (by omega) (by omega),X6 (a:=(dg t (i.toNat+1):Int)) (by omega) (by omega),X6 (a:=(dg t (i.toNat+1):Int)*2^32) (by omega) (by omega)];have:=YI (v:=(dg t i.toNat:Int)) (b:=(dg t (i.toNat+1):Int)) (k:=32) (by omega) (by omega) (by omega) (by omega) (by omega);rw[show u64.bits=64 from rfl,this,X6 (by omega) (by omega)];omega
     . have d:=qB d;show u64.wrap _= _;rw[Ge f g c,X6 (by omega) (by omega),Ql (i:=i.toNat+1) (by omega)];omega
     rintro⟨r,_⟩ _ d;simp only at d⊢;refine⟨w,⟨g,by omega⟩,⟨by omega,by omega,by rw[qM];exact n, ?_⟩,by omega⟩;rw[show(i+1).toNat=i.toNat+1 from by omega,S5 (by omega),j,sC,Nat.mod_mul,A8c f _ z];congr 2;rw[d,Co];have:Int.fdiv ((dg t i.toNat+dg t (i.toNat+1)*4294967296:Nat):Int) (2^s)=(((dg t i.toNat+dg t (i.toNat+1)*4294967296)/2^s:Nat):Int):=by
      rw[show((2:Int)^s)=((2^s:Nat):Int)from by rw[xK];rfl,sG _ (qD _)];rfl
     rw[this];generalize (dg t i.toNat+dg t (i.toNat+1)*4294967296)/2^s=Z;omega
   . have c:=qB c;refine⟨trivial, ?_⟩;rintro⟨q,_⟩ _ c;simp only at c⊢;refine⟨fun h=>by omega,fun _=>⟨?_,by trivial⟩⟩;rw[show i.toNat=t.length from by omega,qW (by omega),tP o]at j;rw[c,j]
def aW:An:= {join:= [(4,⟨[],[],[(0,false,[.val (.int .u32)]),(2,false,vI)],[],[]⟩),(7,⟨[],[],[(0,false,[.val (.int .u32)]),(2,false,vI)],[],[]⟩)]}
def Uq:An:= {}
def FK:An:= {}
def KI:An:= {plan:= [(2,[],[],true,(pZ9 0 3 (pZ9 5 3 (.p 10 (pZ9 12 3 (.p 16 (.p 17 (.e 3 (.p 4 (.e 8 (.p 9 (.p 11 (.e 15 (pZ9 18 3 .done))))))))))))))]}
def HX:An:= {loop:= [(7,⟨[4],[0],[(7,false,vU),(8,false,vU),(9,false,vU),(10,false,vU),(11,false,vU),(12,false,vU),(13,false,vU),(14,false,vU),(15,false,[.val .bool])],[],[]⟩)],plan:= [(9,[],[],true,(pZ9 0 6 .done))]}
def HW:An:= {}
def Ee:ByteArray:=ByteArray.mk (([(0:UInt8),1,2,2,3,3,3,3,4,4,4,4,4,4,4,4,5,5,5,5,5,5,5,5,5,5,5,5,5,5,5,5,6,6,6,6,6,6,6,6,6,6,6,6,6,6,6,6,6,6,6,6,6,6,6,6,6,6,6,6,6,6,6,6].append [(7:UInt8),7,7,7,7,7,7,7,7,7,7,7,7,7,7,7,7,7,7,7,7,7,7,7,7,7,7,7,7,7,7,7,7,7,7,7,7,7,7,7,7,7,7,7,7,7,7,7,7,7,7,7,7,7,7,7,7,7,7,7,7,7,7,7]).append ([(8:UInt8),8,8,8,8,8,8,8,8,8,8,8,8,8,8,8,8,8,8,8,8,8,8,8,8,8,8,8,8,8,8,8,8,8,8,8,8,8,8,8,8,8,8,8,8,8,8,8,8,8,8,8,8,8,8,8,8,8,8,8,8,8,8,8].append [(8:UInt8),8,8,8,8,8,8,8,8,8,8,8,8,8,8,8,8,8,8,8,8,8,8,8,8,8,8,8,8,8,8,8,8,8,8,8,8,8,8,8,8,8,8,8,8,8,8,8,8,8,8,8,8,8,8,8,8,8,8,8,8,8,8,8])).toArray
def HK:A2 Hj.args->Prop:=fun(x:C6)=>∃(J:Cc->Prop),((iB (decide (65536<=x.1)) ((0:(Ty.int u64).den)<=(16:Int)/\J (Int.fdiv x.1 ((2:Int)^Min.min ((16:Int).toNat) u32.bits),(16:Int),())) (J (x.1,(0:Int),()))))/\∀(p:Cc),(Ty.int u32).wf p.1/\(Ty.int i64).wf p.2.1/\True->J p->∃(J:Cc->Prop),((iB (decide (256<=p.1)) ((0:(Ty.int u64).den)<=(8:Int)/\J (Int.fdiv p.1 ((2:Int)^Min.min ((8:Int).toNat) u32.bits),i64.wrap (p.2.1+8),())) (J (p.1,p.2.1,()))))/\∀(p:Cc),(Ty.int u32).wf p.1/\(Ty.int i64).wf p.2.1/\True->J p->((0:Int)<=IntKind.u8.wrap p.1/\IntKind.u8.wrap p.1<(↑(Ee).data.toList.length:Int))/\i64.wrap (p.2.1+i64.wrap (IA (Ee) (IntKind.u8.wrap p.1)))=(↑(J8 x.1.toNat):Int)
def Hq:A2 J7.args->Prop:=fun(x:C6)=>True/\Bf fun r=>r.1=(↑(J8 x.1.toNat):Int)->i64.wrap (32-r.1)=(32:Int)-(↑(J8 x.1.toNat):Int)
def Ld:A2 U6.args->Prop:=fun(x:JE)=>let c:=(↑x.2.1.length:Int);let b:=(0:Int);let a:=(x.2.1.length:Int);(iB (decide (x.1<a)) ((b<=x.1/\x.1<a)/\u64.wrap (gx b x.2.1 x.1)=if x.1<c then x.2.1.getD x.1.toNat b else b) (b=if x.1<c then x.2.1.getD x.1.toNat b else b))
def Qb:A2 Ak.args->Prop:=fun(x:List Int×Int×Int×Unit)=>let d:=(32:Int);let c:=(2:Int);let b:=(x.1.length:Int);let a:=(0:Int);a<=i64.wrap (x.2.1-1)/\rT1 fun r=>(r.1=if i64.wrap (x.2.1-1)<b then List.getD x.1 (i64.wrap (x.2.1-1)).toNat a else a)->(0:(Ty.int u64).den)<=d/\a<=i64.wrap (x.2.1-c)/\rT1 fun e=>(e.1=if i64.wrap (x.2.1-c)<b then List.getD x.1 (i64.wrap (x.2.1-c)).toNat a else a)->(0:(Ty.int i64).den)<=x.2.2.1/\a<=i64.wrap (x.2.1-3)/\rT1 fun f=>(f.1=if i64.wrap (x.2.1-3)<b then List.getD x.1 (i64.wrap (x.2.1-3)).toNat a else a)->(0:(Ty.int i64).den)<=i64.wrap (d-x.2.2.1)/\u64.wrap (↑(BitVec.ofInt u64.bits (u64.wrap (u64.wrap (↑(BitVec.ofInt u64.bits (u64.wrap (r.1*c^Min.min d.toNat u64.bits)) |||BitVec.ofInt u64.bits e.1).toNat:Int)*c^Min.min x.2.2.1.toNat u64.bits)) |||BitVec.ofInt u64.bits (Int.fdiv f.1 (c^Min.min (i64.wrap (d-x.2.2.1)).toNat u64.bits))).toNat:Int)=(↑(nv x.1*2^x.2.2.1.toNat/(4294967296:Nat)^(x.2.1.toNat-(2:Nat))):Int)
abbrev C6o:=Int×Int×Int×Int×Int×Int×Int×Int×Bool×Unit
def Oe:A2 X4.args->Prop:=fun(x:Fp)=>let l:=(17592186044416:Int);let k:=(2:Nat);let j:=(1:Int);let i:=(4294967296:Nat);let f:=(↑(nv x.1):Int);let d:=(↑(nv x.2.1):Int);let c:=(0:Int);let a:=(x.1.length:Int);(c<=i64.wrap (a-j)/\i64.wrap (a-j)<a)/\True/\Bf fun r=>r.1=32-(↑(J8 (gx c x.1 (i64.wrap (a-j))).toNat):Int)->((3:Int)<=a/\a<=a/\a<=l/\c<=r.1/\r.1<=31/\nv x.1*k^Int.toNat r.1<i^a.toNat)/\rT1 fun m=>m.1=(↑(nv x.1*k^Int.toNat r.1/i^(a.toNat-k)):Int)->((3:Int)<=a/\(x.2.1.length:Int)<=a/\a<=l/\c<=r.1/\r.1<=31/\nv x.2.1*k^Int.toNat r.1<i^a.toNat)/\rT1 fun n=>n.1=(↑(nv x.2.1*k^Int.toNat r.1/i^(a.toNat-k)):Int)->∃(I:C6o->Prop),∃(b: _->Nat),I (m.1,n.1,c,j,c,c,c,j,false,())/\∀(p:C6o),let h:=(decide (p.2.2.2.2.2.2.2.1<=p.2.1));let g:=(u64.wrap (Int.tdiv p.1 p.2.1)*p.2.2.2.2.1);let e:=(u64.wrap (Int.tdiv p.1 p.2.1)*p.2.2.2.2.2.2.2.1);let a:=(decide (u64.wrap (p.2.2.2.2.2.2.1+p.2.2.2.2.2.2.2.1)<=u64.wrap (p.1-p.2.1)));(Ty.int u64).wf p.1/\(Ty.int u64).wf p.2.1/\(Ty.int u64).wf p.2.2.1/\(Ty.int u64).wf p.2.2.2.1/\(Ty.int u64).wf p.2.2.2.2.1/\(Ty.int u64).wf p.2.2.2.2.2.1/\(Ty.int u64).wf p.2.2.2.2.2.2.1/\(Ty.int u64).wf p.2.2.2.2.2.2.2.1/\Ty.bool.wf p.2.2.2.2.2.2.2.2.1/\True->I p->(iB (J9 h a false) (p.2.1≠c/\p.2.1≠c/\I (p.2.1,Int.tmod p.1 p.2.1,p.2.2.2.1,p.2.2.2.2.1,u64.wrap (p.2.2.2.1+u64.wrap g),p.2.2.2.2.2.2.1,p.2.2.2.2.2.2.2.1,u64.wrap (p.2.2.2.2.2.2.1+u64.wrap e), !p.2.2.2.2.2.2.2.2.1,())/\b (p.2.1,Int.tmod p.1 p.2.1,p.2.2.2.1,p.2.2.2.2.1,u64.wrap (p.2.2.2.1+u64.wrap g),p.2.2.2.2.2.2.1,p.2.2.2.2.2.2.2.1,u64.wrap (p.2.2.2.2.2.2.1+u64.wrap e), !p.2.2.2.2.2.2.2.2.1,())<b p) (p.2.2.2.2.2.1=c\/∃(A':Int),∃(B':Int),(A'=if p.2.2.2.2.2.2.2.2.1=true then p.2.2.1*f-p.2.2.2.2.2.1*d else p.2.2.2.2.2.1*d-p.2.2.1*f)/\(B'=if p.2.2.2.2.2.2.2.2.1=true then p.2.2.2.2.2.2.1*d-p.2.2.2.1*f else p.2.2.2.1*f-p.2.2.2.2.2.2.1*d)/\c<=B'/\B'<=A'/\f=p.2.2.2.2.2.2.1*A'+p.2.2.2.2.2.1*B'/\d=p.2.2.2.1*A'+p.2.2.1*B'/\j<=p.2.2.2.2.2.1/\j<=p.2.2.2.2.2.2.1/\c<=p.2.2.1/\c<=p.2.2.2.1))
abbrev A2y:=List Int×Bool×Unit
def Oc:A2 X1.args->Prop:=fun(x:List Int×Int×List Int×Int×Unit)=>True/\N6 fun r=>r.1=nc x.2.1.toNat->(E3 x.1/\E3 r.1)/\N6 fun a=>a.1=nc (nv x.1*nv r.1)->True/\N6 fun r=>r.1=nc x.2.2.2.1.toNat->(E3 x.2.2.1/\E3 r.1)/\N6 fun b=>b.1=nc (nv x.2.2.1*nv r.1)->(E3 a.1/\E3 b.1)/\∀(r:A2y),Jp r.1/\True/\True->(nv a.1<nv b.1->r.1= []/\r.2.1=false)/\(nv b.1<=nv a.1->r.1=nc (nv a.1-nv b.1)/\r.2.1=true)->r.1=nc (nv x.1*x.2.1.toNat-nv x.2.2.1*x.2.2.2.1.toNat)
def C3f:∀k:Fin 256,IA Ee (k.val:Int)=(J8 k.val:Int):=by decide+kernel
def QH (x:A2 Hj.args) (c:awf Hj.args x) (_:Hj.pre x):HK x:=by
 obtain⟨v,_⟩:=x;change Int at v;have b:=(show u32.min<=v/\v<=u32.max from c.1);rw[UR,UQ]at b;simp only[HK,iB];have b:Int.fdiv v (2^Min.min (Int.toNat 16) u32.bits)=v/65536:=by
  rw[show Min.min (Int.toNat 16) u32.bits=16 from rfl,sG _ (by decide)];rfl
 rw[b];refine⟨fun p=>0<=p.1/\p.1<65536/\0<=p.2.1/\p.2.1<=16/\(J8 v.toNat:Int)=J8 p.1.toNat+p.2.1,⟨fun h=> ?_,fun h=> ?_⟩, ?_⟩
 . have h:=qA h;have e:=KS (n:=v.toNat) (k:=16) (by omega);refine⟨by decide,by show(0:Int)<=v/65536;omega,by show v/65536<65536;omega,by show(0:Int)<=16;omega,by show(16:Int)<=16;omega, ?_⟩;show(J8 v.toNat:Int)=J8 (v/65536).toNat+16;rw[e,show(v/65536).toNat=v.toNat/2^16 from by omega];omega
 . have h:=qB h;refine⟨by show(0:Int)<=v;omega,by show v<65536;omega,by show(0:Int)<=0;omega,by show(0:Int)<=16;omega, ?_⟩;show(J8 v.toNat:Int)=J8 v.toNat+0;omega
 rintro⟨w,n,_⟩ _ ⟨c,f,d,g,b⟩;change Int at w n;simp only at c f d g b⊢;have f:Int.fdiv w (2^Min.min (Int.toNat 8) u32.bits)=w/256:=by
  rw[show Min.min (Int.toNat 8) u32.bits=8 from rfl,sG _ (by decide)];rfl
 rw[f,wv (a:=n+8) (by omega)];refine⟨fun p=>0<=p.1/\p.1<256/\0<=p.2.1/\p.2.1<=24/\(J8 v.toNat:Int)=J8 p.1.toNat+p.2.1,⟨fun h=> ?_,fun h=> ?_⟩, ?_⟩
 . have h:=qA h;have e:=KS (n:=w.toNat) (k:=8) (by omega);refine⟨by decide,by show(0:Int)<=w/256;omega,by show w/256<256;omega,by show 0<=n+8;omega,by show n+8<=24;omega, ?_⟩;show(J8 v.toNat:Int)=J8 (w/256).toNat+(n+8);rw[b,e,show(w/256).toNat=w.toNat/2^8 from by omega];omega
 . have h:=qB h;exact⟨c,by show w<256;omega,d,by show n<=24;omega,b⟩
 rintro⟨u,m,_⟩ _ ⟨b,d,c,g,f⟩;change Int at u m;simp only at b d c g f⊢;have j:IntKind.u8.wrap u=u:=IntWalk.u8_in _ ⟨b,by omega⟩;have i:(Ee.data.toList.length:Int)=256:=by decide+kernel
 have c:=C3f ⟨u.toNat,by omega⟩;simp only at c;rw[show((u.toNat:Nat):Int)=u from by omega]at c;have g:J8 u.toNat<=8:=by
  rcases sE 8 (J8 u.toNat)with h|h
  . have g:u.toNat≠0:=fun e=>by rw[e,DT]at h;omega
    have l:=(DR g).1;have g:2^8<=2^(J8 u.toNat-1):=rX (by decide) (by omega);omega
  . exact h
 rw[j,c];refine⟨⟨b,by rw[i];exact d⟩, ?_⟩;rw[wv (a:=(J8 u.toNat:Int)) (by omega),wv (by omega),f];omega
def VR {v:Nat} (h:v<4294967296):J8 v<=32:=by
 rcases sE 32 (J8 v)with a|a
 . have b:v≠0:=fun e=>by rw[e,DT]at a;omega
   have c:=(DR b).1;have b:2^32<=2^(J8 v-1):=rX (by decide) (by omega);omega
 . exact a
def Ov (x:A2 J7.args) (b:awf J7.args x) (_:J7.pre x):Hq x:=by
 obtain⟨v,_⟩:=x;change Int at v;have a:=(show u32.min<=v/\v<=u32.max from b.1);rw[UR,UQ]at a;simp only[Hq,Bf];refine⟨trivial, ?_⟩;rintro⟨r,_⟩ _ a;simp only at a⊢;have:=VR (v:=v.toNat) (by omega);rw[a,wv (by omega)]
def Wl (x:A2 U6.args) (a:awf U6.args x) (b:U6.pre x):Ld x:=by
 obtain⟨i,l,_⟩:=x;have c:A7 l:=A3 a.2.1.2;change Int at i;change List Int at l;have a:0<=i:=b;simp only[Ld,iB];refine⟨fun h=> ?_,fun h=> ?_⟩
 . have h:=qA h;have b:=Vj c a h;rw[qQ h, <-G5 (d:=(0:Int)) a h,X6 b.1 (by omega)];exact⟨⟨a,h⟩,rfl⟩
 . have h:=qB h;rw[qK h]
def B7n {l:List Int} (h:A7 l) {i:Int} (a:0<=i):(if i<(l.length:Int)then l.getD i.toNat 0 else 0)=(dg l i.toNat:Int):=by
 split
 . exact Z6 h
 . rw[Ql (by omega)];rfl
def CO (x:A2 Ak.args) (V:awf Ak.args x) (T:Ak.pre x):Qb x:=by
 obtain⟨l,n,s,_⟩:=x;have c:A7 l:=A3 V.1.2;change List Int at l;change Int at n s;obtain⟨a8,a7,a9,Z,a0,j⟩:3<=n/\(l.length:Int)<=n/\n<=17592186044416/\0<=s/\s<=31/\nv l*2^s.toNat<4294967296^n.toNat:=T;simp only[Qb,rT1];rw[wv (a:=n-1) (by omega),wv (a:=n-2) (by omega),wv (a:=n-3) (by omega),wv (a:=32-s) (by omega)];refine⟨by omega, ?_⟩;rintro⟨a,_⟩ _ g;refine⟨by decide,by omega, ?_⟩;rintro⟨b,_⟩ _ h;refine⟨Z,by omega, ?_⟩;rintro⟨a1,_⟩ _ i;simp only at g h i⊢;rw[B7n c (by omega)]at g h i;have y:=M5 c (n-1).toNat;have z:=M5 c (n-2).toNat;have D:=M5 c (n-3).toNat;obtain⟨m,rfl⟩:∃m:Nat,n=(m:Int)+3:=⟨(n-3).toNat,by omega⟩;rw[show((m:Int)+3-1).toNat=m+2 from by omega]at g y;rw[show((m:Int)+3-2).toNat=m+1 from by omega]at h z;rw[show((m:Int)+3-3).toNat=m from by omega]at i D;rw[show((m:Int)+3).toNat=m+3 from by omega]at j⊢;rw[show m+3-2=m+1 from by omega];have o:=A4v l (n:=m) (by omega);have O:=U3 c m;have J:0<4294967296^m:=tN (by decide);subst g h i;generalize a3:dg l (m+2)=A at*;generalize a4:dg l (m+1)=B at*;generalize a5:dg l m=C at*;have U:=B9p (a:=nv l) (low:=nv (l.take m)) (lo:=C) (H:=A*4294967296+B) (P:=4294967296^m) (s:=s.toNat) J (by rw[o];grind) O (by omega);rw[sC,U];have u:(A*4294967296+B)*2^s.toNat<18446744073709551616:=by
  have E:(A*4294967296+B)*2^s.toNat*(4294967296^m*4294967296)<=nv l*2^s.toNat:=by
   have:(A*4294967296+B)*(4294967296^m*4294967296)<=nv l:=by rw[o];grind
   have:=rM (2^s.toNat) this;rwa[zN]at this
  have d:4294967296^(m+3)=18446744073709551616*(4294967296^m*4294967296):=by
   rw[sC,sC,sC];grind
  rw[d]at j;exact xF (yC E j)
 have Q:Min.min (Int.toNat s) u64.bits=s.toNat:=by show Min.min (Int.toNat s) 64= _;omega
 have R:Min.min (Int.toNat (32-s)) u64.bits=32-s.toNat:=by show Min.min (Int.toNat (32-s)) 64= _;omega
 rw[Q,R,show Min.min (Int.toNat 32) u64.bits=32 from rfl];have a6:A*4294967296+B<18446744073709551616:=by omega
 have W:(((BitVec.ofInt u64.bits (u64.wrap ((A:Int)*2^32)) |||BitVec.ofInt u64.bits (B:Int)).toNat:Nat):Int)=((A*4294967296+B:Nat):Int):=by
  rw[X6 (a:=(A:Int)*2^32) (by omega) (by omega)];have:=LQ (v:=(B:Int)) (b:=(A:Int)) (k:=32) (by omega) (by omega) (by omega) (by omega) (by omega);rw[show u64.bits=64 from rfl,this];omega
 rw[W,X6 (a:=((A*4294967296+B:Nat):Int)) (by omega) (by omega)];have w:((2:Int)^s.toNat)=((2^s.toNat:Nat):Int):=by rw[xK];rfl
 have f:((A*4294967296+B:Nat):Int)*2^s.toNat=(((A*4294967296+B)*2^s.toNat:Nat):Int):=by rw[w,uP]
 have X:Int.fdiv (C:Int) (2^(32-s.toNat))=((C/2^(32-s.toNat):Nat):Int):=by
  have E:((2:Int)^(32-s.toNat))=((2^(32-s.toNat):Nat):Int):=by rw[xK];rfl
  rw[E,sG _ (qD _)];rfl
 have M:C/2^(32-s.toNat)<2^s.toNat:=by
  rw[tL (tN (by decide)), <-EY (by omega)];omega
 have I:(0:Int)<=(((A*4294967296+B)*2^s.toNat:Nat):Int):=qD _;rw[X,X6 (a:=((A*4294967296+B:Nat):Int)*2^s.toNat) (by rw[f];omega) (by rw[f];omega)];generalize C/2^(32-s.toNat)=L at*;have N:(L:Int)<2^s.toNat:=by rw[w];omega
 have a2:(2:Nat)^s.toNat<=2^31:=rX (by decide) (by omega);have Y:=LQ (v:=(L:Int)) (b:=((A*4294967296+B:Nat):Int)) (k:=s.toNat) (by omega) N (by omega) (by rw[f];omega) (by omega);rw[show u64.bits=64 from rfl,Y,f,X6 (a:=(L:Int)+(((A*4294967296+B)*2^s.toNat:Nat):Int)) (Int.add_nonneg (qD _) I) ?_]
 . constructor
   . exact Int.sub_nonneg.2 (Int.le_trans a0 (by decide))
   . rw[wV];exact Int.add_comm _ _
 . --the shifted number and the digits behind it are below 2^64
   have d:(18446744073709551616:Nat)=18446744073709551616/2^s.toNat*2^s.toNat:=by
    refine(Nat.div_mul_cancel ?_).symm;exact⟨2^(64-s.toNat),by rw[<-uZ,show s.toNat+(64-s.toNat)=64 from by omega]⟩
   have F:A*4294967296+B<18446744073709551616/2^s.toNat:=by
    rw[d]at u;exact xF u
   have r:(A*4294967296+B+1)*2^s.toNat<=18446744073709551616:=by
    rw[d];exact rM _ F
   rw[uU,xP]at r;have G:L+(A*4294967296+B)*2^s.toNat<18446744073709551616:=rC (by rw[wD];exact Nat.add_lt_add_left M _) r;have t:((L+(A*4294967296+B)*2^s.toNat:Nat):Int)<18446744073709551616:=sP.2 G;rw[wV]at t;exact Int.le_of_lt_add_one t
def Zb (x:A2 X4.args) (d:awf X4.args x) (g:X4.pre x):Oe x:=by
 obtain⟨a,b,_⟩:=x;have c:A7 a:=A3 d.1.2;have f:A7 b:=A3 d.2.1.2;change List Int at a b;obtain⟨i,z,h,f,d⟩:a.length<=17592186044416/\3<=a.length/\Nv a/\nv b<=nv a/\b.length<=a.length:=g;simp only[Oe,iB,rT1,Bf];have d:i64.wrap ((a.length:Int)-1)=(a.length:Int)-1:=wv (by omega);rw[d,Ge c (by omega) (by omega),show((a.length:Int)-1).toNat=a.length-1 from by omega];refine⟨⟨by omega,by omega⟩,trivial, ?_⟩;rintro⟨s,_⟩ _ d;change Int at s;simp only at d⊢;rw[qJ]at d;have g:=QD c h;have d:=M5 c (a.length-1);have d:=VR (v:=dg a (a.length-1)) (by omega);have d:=(DR g).2;have d:=A4k c (n:=a.length-1) (by omega) (s:=s.toNat) (by omega);rw[show a.length-1+1=a.length from by omega]at d;have j:nv b*2^s.toNat<4294967296^a.length:=yC (rM _ f) d;have i:=ZJ c h;rw[qJ];refine⟨⟨by omega,qI _,by omega,by omega,by omega,d⟩, ?_⟩;rintro⟨X,_⟩ ⟨d,_⟩ i;refine⟨⟨by omega,by omega,by omega,by omega,by omega,j⟩, ?_⟩;rintro⟨Y,_⟩ ⟨c,_⟩ j;change Int at X Y;simp only at i j d c⊢;have hK:s.toNat<=32*(a.length-2):=by omega
 rw[Mi,A8b hK]at i j;have c:0<2^(32*(a.length-2)-s.toNat):=tN (by decide);have k:0<X:=by
  rw[i];have h:=Vn a (n:=a.length-1) (by omega);have h:2^(32*(a.length-2)-s.toNat)<=nv a:=by
   have l:2^(32*(a.length-2)-s.toNat)<=4294967296^(a.length-1):=by
    rw[Mi];exact rX (by decide) (by omega)
   have l:=sS (4294967296^(a.length-1)) (sU g);omega
  have:=(vF c).2 (by rw[xP];exact h);omega
 have g:Y<=X:=by rw[i,j];exact Int.ofNat_le.2 (Nat.div_le_div_right f)
 have f:0<=Y:=by rw[j];exact qD _
 have A:=wW (nv a) (2^(32*(a.length-2)-s.toNat));have h:=wF (nv a) c;have B:=wW (nv b) (2^(32*(a.length-2)-s.toNat));have h:=wF (nv b) c;generalize 2^(32*(a.length-2)-s.toNat)=K at*;have c:X<=18446744073709551615:=by have:=d.2;rw[FB]at this;exact this
 refine⟨fun p=>∃h,Leh X Y h p.1 p.2.1 p.2.2.1 p.2.2.2.1 p.2.2.2.2.1 p.2.2.2.2.2.1 p.2.2.2.2.2.2.1 p.2.2.2.2.2.2.2.1 p.2.2.2.2.2.2.2.2.1,fun p=>p.2.1.toNat,⟨0,Leh.start f g k⟩, ?_⟩;rintro⟨x,y,l,k,f,w,g,d,ev,_⟩ _ ⟨h,c⟩;change Int at x y l k f w g d;change Bool at ev;simp only at c⊢;have h:=c.idX;have h:=c.idY;have h:=c.yx;have o:=c.y0;have h:=c.x0;have h:=c.u10;have l:=c.u20;have u:=c.v10;have r:=c.v20;have t:x*1<=x*d:=tU r (by omega);have r:0<=y*g:=tJ o u;have r:0<=x*f:=tJ (by omega) l;have r:0<=y*k:=tJ o h;have h:1*d<=x*d:=sH (by omega) (by omega);refine⟨fun h=> ?_,fun _=> ?_⟩
 . rw[K7]at h;simp only[qC,rS]at h;obtain⟨c1,t⟩:=h;have r:1<=y:=by omega
   have h:1*g<=y*g:=sH r u;rw[X6 (a:=g+d) (by omega) (by omega),X6 (a:=x-y) (by omega) (by omega)]at t;have h:=c.step c1 t;have t:=h.idX;have t:=h.idY;have u:=h.u20;have t:=h.v20;have t:0<=x/y:=g0i (by omega) o;have o:x/y<=x:=Int.ediv_le_self _ (by omega);have o:=h.y0;have D:1*(g+x/y*d)<=y*(g+x/y*d):=sH r (by omega);have D:0<=x%y*d:=tJ o (by omega);have z:1*(k+x/y*f)<=y*(k+x/y*f):=sH r u;have r:0<=x%y*f:=tJ o l;have o:0<=x/y*d:=tJ t (by omega);have r:0<=x/y*f:=tJ t l;rw[tV (by omega),IntWalk.u64_quo _ _ ⟨by omega,by omega,by omega⟩];rw[X6 (a:=x/y*f) r (by omega),X6 (a:=x/y*d) o (by omega),X6 (a:=k+x/y*f) u (by omega),X6 (a:=g+x/y*d) (by omega) (by omega)];have d:=zK x (b:=y) (by omega);exact⟨by omega,by omega,⟨x,h⟩,by omega⟩
 . by_cases d:w=0
   . exact .inl d
   . right;have f:(nv a:Int)=X*(K:Int)+((nv a%K:Nat):Int):=by
      rw[i, <-uP, <-wV,tG,A]
     have g:(nv b:Int)=Y*(K:Int)+((nv b%K:Nat):Int):=by
      rw[j, <-uP, <-wV,tG,B]
     exact c.apply d (P:=(K:Int)) (by omega) (qD _) (by omega) (qD _) (by omega) f g
def Za (x:A2 X1.args) (c:awf X1.args x) (g:X1.pre x):Oc x:=by
 obtain⟨a,x,b,y,_⟩:=x;have d:A7 a:=A3 c.1.2;have f:A7 b:=A3 c.2.2.1.2;change List Int at a b;change Int at x y;have h:=(show u64.min<=x/\x<=u64.max from c.2.1);have i:=(show u64.min<=y/\y<=u64.max from c.2.2.2.1);rw[kC,FB]at h i;obtain⟨h,i,c⟩:a.length<=8796093022208/\b.length<=8796093022208/\nv b*y.toNat<=nv a*x.toNat:=g;have g:=C9 d;have d:=C9 f;have d:(nc x.toNat).length<=2:=Gz (by omega);have d:(nc y.toNat).length<=2:=Gz (by omega);have d:=Qr (nv a) x.toNat;have a:=Qr (nv b) y.toNat;simp only[Oc,N6];refine⟨trivial, ?_⟩;rintro⟨r,_⟩ _ a;simp only at a⊢;subst a;refine⟨⟨by omega,by omega⟩, ?_⟩;rintro⟨d,_⟩ _ b;refine⟨trivial, ?_⟩;rintro⟨r,_⟩ _ a;simp only at a b⊢;subst a;refine⟨⟨by omega,by omega⟩, ?_⟩;rintro⟨d,_⟩ _ a;simp only at a⊢;rw[E9]at b a;subst b a;refine⟨⟨by omega,by omega⟩, ?_⟩;rintro⟨r,b,_⟩ _ ⟨_,a⟩;simp only at a⊢;rw[E9,E9]at a;exact(a c).1
noncomputable def Ra:H2:= []
def Qk:An:= {join:= [(8,⟨[0,1,5],[0,1,2],[(7,false,vU)],[],[]⟩)],loop:= [(4,⟨[0,1,5],[0,1,2],[(7,false,vU),(8,false,vU)],[],[]⟩),(10,⟨[0,1,5,7,84,85],[0,2],[(9,false,vU),(86,false,vI)],[],[(1, .row (.int .u32) 103)]⟩),(23,⟨[0,5,7,134,135],[0,2],[(9,false,vU),(136,false,vI)],[],[(1, .row (.int .u32) 103)]⟩)],plan:= [(2,[3,10],[],true,(pZ9 0 3 (.q 3 (pZ9 4 6 (.q 10 (pZ9 11 3 .done)))))),(3,[5,13],[],true,(pZ9 0 5 (.q 5 (pZ9 6 7 (.q 13 (pZ9 14 4 .done)))))),(4,[9,18],[],true,(pZ9 0 9 (.q 9 (pZ9 10 8 (.q 18 (pZ9 19 4 .done))))))]}
def Xu:An:= {join:= [(12,⟨[4,6,7,8,9,10,35,36],[0],[],[],[(1, .row (.int .u32) 103),(2, .row (.int .u32) 103)]⟩)],loop:= [(8,⟨[4,6,7,8,9,10,35],[0],[(36,false,vI)],[],[(1, .row (.int .u32) 103),(2, .row (.int .u32) 103)]⟩)]}
noncomputable def Ys:H2:= [(141,Cg),(188,J7),(190,Q3),(192,L8),(191,Gy (RA ⟨prog,tys⟩ [(53,Ra,Qk)] f191.results.toList (f191.body.getD .skip) f191.ntmps))]
abbrev B9i:=Int×List Int×List Int×Unit
def Il:A2 P4.args->Prop:=fun(x:Fp)=>let L:=(63:Int);let D:=(32:Int);let w:=(2:Int);let u:=D.toNat;let t:=(1:Int);let c:=(0:Int);let b:=(x.2.1.length:Int);let q:Prop:=(c<=i64.wrap (b-c-t)/\i64.wrap (b-c-t)<b-c);(c<=i64.wrap (b-t)/\i64.wrap (b-t)<b)/\True/\Bf fun r=>r.1=D-(↑(J8 (gx c x.2.1 (i64.wrap (b-t))).toNat):Int)->(E3 x.2.1/\c<=r.1/\r.1<=31)/\N6 fun Q=>let g:=(List.getD Q.1 (c+i64.wrap (b-c-t)).toNat c);Q.1.length=List.length x.2.1+1/\nv Q.1=nv x.2.1*2^Int.toNat r.1->(c<=c/\c<=b/\b<=(Q.1.length:Int))/\(E3 x.1/\c<=r.1/\r.1<=31)/\N6 fun S=>let n:=(S.1.length:Int);S.1.length=List.length x.1+1/\nv S.1=nv x.1*2^Int.toNat r.1->(c<=i64.wrap (n-b)/\i64.wrap (n-b)<=i64.wrap (n-b)/\(↑(4:Nat):Int)*i64.wrap (n-b)<=(281474976710656:Int)/\i64.wrap (n-b)<=(9223372036854775807:Int))/\∃(I:B9i->Prop),∃(d: _->Nat),I (c,S.1,List.replicate (i64.wrap (n-b)).toNat c,())/\∀(p:B9i),let M:Prop:=(p.1<i64.wrap (n-b));let G:=(p.2.1.length:Int);let a:=(i64.wrap (i64.wrap (n-b)-t)-p.1);let A:Prop:=(c<=i64.wrap a/\i64.wrap a<(p.2.2.1.length:Int));let s:=(i64.wrap a+(b-c));let i:=(u64.wrap (↑(BitVec.ofInt u64.bits (u64.wrap (u64.wrap (List.getD p.2.1 s.toNat c)*w^Min.min u u64.bits)) |||BitVec.ofInt u64.bits (u64.wrap (List.getD p.2.1 (i64.wrap a+i64.wrap (b-c-t)).toNat c))).toNat:Int));let e:=(i64.wrap (i64.wrap a+b)+t);let m:Prop:=(c<=b-c/\b-c<i64.wrap e-i64.wrap a);(Ty.int i64).wf p.1/\Jp p.2.1/\Jp p.2.2.1/\True->I p->(iB (decide M) (∃(J:Fp->Prop),((c<=i64.wrap a/\i64.wrap a<=i64.wrap e/\i64.wrap e<=G)/\m/\(0:(Ty.int u64).den)<=D/\(c<=i64.wrap (b-c-t)/\i64.wrap (b-c-t)<i64.wrap e-i64.wrap a)/\q/\u64.wrap g≠c/\q/\u64.wrap g≠c/\∃(J_1:C6->Prop),(∃(I:Cc->Prop),∃(d: _->Nat),I (u64.wrap (i.tdiv (u64.wrap g)),i.tmod (u64.wrap g),())/\∀(N:Cc),let z:=(u64.wrap (N.1-t),u64.wrap (N.2.1+u64.wrap g),());let y:Prop:=((u64.wrap (N.2.1+u64.wrap g)).fdiv (w^Min.min u u64.bits)≠c);let k:Prop:=(Int.fdiv N.1 (w^Min.min u u64.bits)≠c);let h:=(decide (u64.wrap (↑(BitVec.ofInt u64.bits (u64.wrap (N.2.1*w^Min.min u u64.bits)) |||BitVec.ofInt u64.bits (u64.wrap (List.getD p.2.1 (i64.wrap a+i64.wrap (b-c-w)).toNat c))).toNat:Int)<u64.wrap (N.1*u64.wrap (List.getD Q.1 (c+i64.wrap (b-c-w)).toNat c))));(Ty.int u64).wf N.1/\(Ty.int u64).wf N.2.1/\True->I N->(0:(Ty.int u64).den)<=D/\(decide k=false->c<=i64.wrap (b-c-w)/\i64.wrap (b-c-w)<b-c)/\(decide k=false->(0:(Ty.int u64).den)<=D)/\(decide k=false->c<=i64.wrap (b-c-w)/\i64.wrap (b-c-w)<i64.wrap e-i64.wrap a)/\(iB (J9 (decide k) true h) (q/\(0:(Ty.int u64).den)<=D/\(iB (decide y) (J_1 (u64.wrap (N.1-t),())) (I z/\d z<d N))) (J_1 (N.1,()))))/\∀(N:C6),(Ty.int u64).wf N.1/\True->J_1 N->∃(I:Tz->Prop),∃(d: _->Nat),I (c,c,p.2.1,())/\∀(O:Tz),let H:=(i64.wrap a+O.2.1);let B:Prop:=(c<=O.2.1/\O.2.1<i64.wrap e-i64.wrap a);let v:=(u64.wrap (u64.wrap (N.1*u64.wrap (List.getD Q.1 (c+O.2.1).toNat c))+O.1));let l:=(u64.wrap (u64.wrap (List.getD O.2.2.1 H.toNat c)-u64.wrap (u32.wrap v)));let j:=(u64.wrap (u64.wrap (List.getD O.2.2.1 s.toNat c)-O.1));let E:Prop:=(j.fdiv (w^Min.min L.toNat u64.bits)=c);let f:=(u64.wrap (v.fdiv (w^Min.min u u64.bits)+l.fdiv (w^Min.min L.toNat u64.bits)),i64.wrap (O.2.1+t),List.set O.2.2.1 H.toNat (u32.wrap l),());(Ty.int u64).wf O.1/\(Ty.int i64).wf O.2.1/\Jp O.2.2.1/\True->I O->(iB (decide (O.2.1<b-c)) ((c<=O.2.1/\O.2.1<b-c)/\B/\B/\(0:(Ty.int u64).den)<=D/\(0:(Ty.int u64).den)<=L/\I f/\d f<d O) (m/\m/\(0:(Ty.int u64).den)<=L/\(iB (decide E) (A/\J (List.set O.2.2.1 s.toNat (u32.wrap j),List.set p.2.2.1 (i64.wrap a).toNat (u32.wrap N.1),())) (∃(I:Tz->Prop),∃(d: _->Nat),I (c,c,List.set O.2.2.1 s.toNat (u32.wrap j),())/\∀(P:Tz),let K:=(i64.wrap a+P.2.1);let C:Prop:=(c<=P.2.1/\P.2.1<i64.wrap e-i64.wrap a);let o:=(u64.wrap (P.1+u64.wrap (u64.wrap (List.getD P.2.2.1 K.toNat c)+u64.wrap (List.getD Q.1 (c+P.2.1).toNat c))));let f:=(o.fdiv (w^Min.min u u64.bits),i64.wrap (P.2.1+t),List.set P.2.2.1 K.toNat (u32.wrap o),());(Ty.int u64).wf P.1/\(Ty.int i64).wf P.2.1/\Jp P.2.2.1/\True->I P->(iB (decide (P.2.1<b-c)) ((c<=P.2.1/\P.2.1<b-c)/\C/\C/\(0:(Ty.int u64).den)<=D/\I f/\d f<d P) (m/\m/\A/\J (List.set P.2.2.1 s.toNat (u32.wrap (List.getD P.2.2.1 s.toNat c+u32.wrap P.1)),List.set p.2.2.1 (i64.wrap a).toNat (u32.wrap (u64.wrap (N.1-t))),()))))))))/\∀(N:Fp),let F:=(i64.wrap (p.1+t),N.1,N.2.1,());Jp N.1/\Jp N.2.1/\True->J N->I F/\d F<d p) ((c<=c/\c<=b/\b<=G)/\E3 (List.drop c.toNat (List.take b.toNat p.2.1))/\∀(R:A2y),Jp R.1/\True/\True->(r.1<c->R.1= []/\R.2.1=false)/\(c<=r.1->R.1=nc (nv (List.drop c.toNat (List.take b.toNat p.2.1))/(2:Nat)^Int.toNat r.1)/\R.2.1=true)->True/\N6 fun r=>r.1=nc (nv p.2.2.1)->r.1=nc (nv x.1/nv x.2.1)/\R.1=nc (nv x.1%nv x.2.1)))
def B0x {a b:List Int} {N D S:Nat} (g:A7 a) (h:A7 b) (f:b.length=N+2) (c:dg b (N+1)≠0) (d:a.length+1=D+(N+2)):nv a*2^S<nv b*2^S*4294967296^D:=by
 have d:0<2^S:=tN (by decide);have f:=Vn b (n:=N+1) (by omega);have f:4294967296^(N+1)<=nv b:=by
  have:=sS (4294967296^(N+1)) (sU c);omega
 have c:=Ha g;rw[show a.length=(N+1)+D from by omega,uZ]at c;have g:nv a<nv b*4294967296^D:=rC c (rM _ f);have c:=xB g d;rw[zN]at c;exact c
def C1n {A B S q r:Nat} (d:0<B) (c:A*2^S=q*(B*2^S)+r) (f:r<B*2^S):q=A/B/\r/2^S=A%B:=by
 have a:0<2^S:=tN (by decide);have b:q=A/B:=by
  rw[<-zW A B a,c,tG q,g2h (g4w d a),uC f,tC]
 refine⟨b, ?_⟩;have d:=wW A B;have f:r=(A%B)*2^S:=by
  have:A*2^S=(B*(A/B)+A%B)*2^S:=by rw[d]
  rw[this,b]at c;grind
 rw[f,g3u _ a]
def C3h {v:List Int} (d:A7 v) {n:Nat} (b:4294967296^n<=nv v) (c:nv v<4294967296^(n+1)):dg v n≠0:=by
 have a:0<4294967296^n:=tN (by decide);rw[OJ d,tP (by rw[tL a,tG, <-sC];exact c)];have:=(vF a).2 (by rw[xP];exact b);omega
def A6t {u:List Int} (b:A7 u) {m i:Nat} (h:nv u<4294967296^m) (a:m<=i):dg u i=0:=by
 rw[OJ b,uC (rC h (rX (by decide) a))]
def fJ {x y:Nat} (c:x<=4294967295) (d:y<=4294967295):u64.wrap (((BitVec.ofInt 64 (u64.wrap ((x:Int)*2^32)) |||BitVec.ofInt 64 (y:Int)).toNat:Nat):Int)=((x*4294967296+y:Nat):Int):=by
 rw[X6 (a:=(x:Int)*2^32) (by omega) (by omega)];have:=LQ (v:=(y:Int)) (b:=(x:Int)) (k:=32) (by omega) (by omega) (by omega) (by omega) (by omega);rw[this,X6 (by omega) (by omega)];omega
def B7a {v:Int} :Int.fdiv v (2^32)=v/4294967296:=by
 rw[sG _ (by decide)];rfl
def C4v {v:Int} :Int.fdiv v (2^63)=v/9223372036854775808:=by
 rw[sG _ (by decide)];rfl
def eD {d x:Nat} (a:d<=4294967295) (b:x<=4294967295):d*x<=18446744065119617025:=qX (yV a b) (by decide)
def B5b {d v2 r a:Nat} (b:v2<=4294967295):J9 (decide ((d:Int)/4294967296≠0)) true (decide (((r*4294967296+a:Nat):Int)<u64.wrap ((d:Int)*(v2:Int))))=decide (4294967296<=d\/r*4294967296+a<d*v2):=by
 rw[I9];rcases sE d 4294967296 with h|h
 . have a:=eD (d:=d) (x:=v2) (by omega) b;rw[<-uP,X6 (by omega) (by omega)];have a:decide ((d:Int)/4294967296≠0)=false:=rH (by omega);rw[a,vZ,wP];omega
 . have a:decide ((d:Int)/4294967296≠0)=true:=rG (by omega);rw[a,g1y];exact(rG (.inl h)).symm
def B4x {d x c y:Nat} (h:d<=4294967295) (i:x<=4294967295) (g:c<=d) (j:y<=4294967295):∃b f:Nat,
 u64.wrap (Int.fdiv (u64.wrap (u64.wrap ((d:Int)*(x:Int))+(c:Int))) (2^32)+Int.fdiv (u64.wrap ((y:Int)-u64.wrap (u32.wrap (u64.wrap (u64.wrap ((d:Int)*(x:Int))+(c:Int)))))) (2^63))=(b:Int)/\
 u32.wrap (u64.wrap ((y:Int)-u64.wrap (u32.wrap (u64.wrap (u64.wrap ((d:Int)*(x:Int))+(c:Int))))))=(f:Int)/\b<=d/\y+4294967296*b=f+(d*x+c):=by
 have b:=eD h i;obtain⟨f,b⟩:=B0h (D:=d) (v:=x) (c:=c) (t:=y) (by omega) (by omega) g;rw[<-uP,X6 (a:=((d*x:Nat):Int)) (by omega) (by omega)];generalize d*x=p at*;rw[X6 (a:=(p:Int)+(c:Int)) (by omega) (by omega),Co,X6 (a:=((p:Int)+(c:Int))%4294967296) (by omega) (by omega),B7a,C4v,Cp ((y:Int)-_),Co];refine⟨(p+c)/4294967296+(if y<(p+c)%4294967296 then 1 else 0),if y<(p+c)%4294967296 then y+4294967296-(p+c)%4294967296 else y-(p+c)%4294967296, ?_, ?_,b, ?_⟩
 . rw[X6 (by omega) (by omega)];split<;>omega
 . split<;>omega
 . split<;>omega
def B2p {U P V d:Nat} (a:0<P) (b:0<V) (h:P*(d*V)<=U):d<=U/P/V:=by
 rw[vF b,vF a,tG];exact h
def C2v {U P V d:Nat} (a:0<P) (b:0<V) (h:U<P*(d*V)):U/P/V<d:=by
 rw[tL b,tL a,tG];exact h
def cX {U0 U W V P d q a:Nat} (g:U0=q*V+U) (f:W+P*(d*V)=U) (i:a=q+P*d) (b:0<P) (c:0<V) (j:U/P/V=d):U0=a*V+W/\W<V*P:=by
 refine⟨by subst i;rw[g, <-f];grind, ?_⟩;have a:¬(P*((d+1)*V)<=U):=fun h=>by have:=B2p b c h;omega
 have e:P*((d+1)*V)=P*(d*V)+V*P:=by grind
 omega
def C0f {q:List Int} (f:A7 q) {Q j d:Nat} (a:nv q=Q*4294967296^(j+1)) (b:j<q.length):nv (q.set j (d:Int))=nv q+4294967296^j*d/\nv (q.set j (d:Int))=(Q*4294967296+d)*4294967296^j:=by
 have c:0<4294967296^j:=tN (by decide);have h:=Ks (l:=q) (k:=j) (v:=(d:Int)) b;rw[qJ]at h;have b:dg q j=0:=by
  rw[OJ f,a,sC,tG (4294967296^j), <-sM,g3u _ c,Nat.mul_mod_left]
 rw[b,wQ,tC]at h;refine⟨h, ?_⟩;rw[h,a,sC];grind
def A9p {x c y:Nat} (g:x<=4294967295) (f:c<=1) (h:y<=4294967295):∃b d:Nat,
 Int.fdiv (u64.wrap ((c:Int)+u64.wrap ((y:Int)+(x:Int)))) (2^32)=(b:Int)/\
 u32.wrap (u64.wrap ((c:Int)+u64.wrap ((y:Int)+(x:Int))))=(d:Int)/\b<=1/\d+4294967296*b=c+(y+x):=by
 rw[X6 (a:=(y:Int)+(x:Int)) (by omega) (by omega),X6 (a:=(c:Int)+((y:Int)+(x:Int))) (by omega) (by omega),B7a,Co];exact⟨(c+(y+x))/4294967296,(c+(y+x))%4294967296,by omega,by omega,by omega,by omega⟩
def Ri (x:A2 P4.args) (bs:awf P4.args x) (ck:P4.pre x):Il x:=by
 obtain⟨a,b,_⟩:=x;have cb:A7 a:=A3 bs.1.2;have I:A7 b:=A3 bs.2.1.2;change List Int at a b;obtain⟨dq,d9,df,bn⟩:a.length<=17592186044416/\2<=b.length/\b.length<=a.length/\Nv b:=ck;obtain⟨N,be⟩:∃N,b.length=N+2:=⟨b.length-2,by omega⟩;have a8:=QD I bn;rw[show b.length-1=N+1 from by omega]at a8;simp only[Il,iB,N6,Bf,Int.sub_zero,Int.zero_add];rw[wv (a:=(b.length:Int)-1) (by omega),wv (a:=(b.length:Int)-2) (by omega),Ge I (by omega) (by omega),show((b.length:Int)-1).toNat=N+1 from by omega,show((b.length:Int)-2).toNat=N from by omega];refine⟨⟨by omega,by omega⟩,trivial, ?_⟩;rintro⟨s,_⟩ _ bl;change Int at s;simp only at bl⊢;rw[qJ]at bl;have di:=M5 I (N+1);have de:=VR (v:=dg b (N+1)) (by omega);have dd:=(DR a8).2;refine⟨⟨by show b.length<= _;omega,by omega,by omega⟩, ?_⟩;rintro⟨v,_⟩ ⟨cs,_⟩ ⟨bq,R⟩;refine⟨⟨qI _,by omega,by simp only at bq⊢;omega⟩,⟨by show a.length<= _;omega,by omega,by omega⟩, ?_⟩;rintro⟨f,_⟩ ⟨cq,_⟩ ⟨cn,aw⟩;have t:A7 v:=A3 cs.2;have dp:A7 f:=A3 cq.2;change List Int at v f;simp only at bq R cn aw⊢;have Z:nv v<4294967296^(N+2):=by
  rw[R];exact A4k I (n:=N+1) (by omega) (s:=s.toNat) (by omega)
 have bf:4294967296^(N+1)<=nv v:=by
  have z:=Vn b (n:=N+1) (by omega);have bd:4294967296^(N+1)<=nv b:=by
   have:=sS (4294967296^(N+1)) (sU a8);omega
  rw[R];exact qX bd (Nat.le_mul_of_pos_right _ (tN (by decide)))
 have bo:=C3h t bf Z;have a0:0<nv v:=rC (tN (by decide)) bf;obtain⟨D,da⟩:∃D,f.length=D+(N+2):=⟨f.length-(N+2),by omega⟩;have bm:=B0x (S:=s.toNat) cb I be a8 (D:=D) (by omega);rw[<-aw, <-R]at bm;rw[wv (a:=(f.length:Int)-(b.length:Int)) (by omega),show(f.length:Int)-(b.length:Int)=(D:Int)from by omega];have db:1<=D:=by omega
 refine⟨⟨by omega,qI _,by omega,by omega⟩, ?_⟩;refine⟨fun p=>0<=p.1/\p.1<=(D:Int)/\p.2.1.length=f.length/\p.2.2.1.length=D/\nv f=nv p.2.2.1*nv v+nv p.2.1/\nv p.2.1<nv v*4294967296^((D:Int)-p.1).toNat/\∃Q,nv p.2.2.1=Q*4294967296^((D:Int)-p.1).toNat,fun p=>((D:Int)-p.1).toNat,⟨qI _,qD _,rfl,by simp, ?_, ?_,0, ?_⟩, ?_⟩
 . show nv f=nv (List.replicate _ 0)*nv v+nv f;rw[Sm];omega
 . show nv f<nv v*4294967296^((D:Int)-0).toNat;rw[show((D:Int)-0).toNat=D from by omega];exact bm
 . show nv (List.replicate _ 0)= _;rw[Sm];omega
 rintro⟨k,u,q,_⟩ ⟨_,cr,cp,_⟩ ⟨cy,cz,c3,b3,a9,J,Q,a7⟩;change Int at k;have F:A7 u:=A3 cr.2;have bk:A7 q:=A3 cp.2;change List Int at u q;simp only at cy cz c3 b3 a9 J a7⊢;refine⟨fun a1=> ?_,fun a1=> ?_⟩
 . have a1:=qA a1;obtain⟨j,ce⟩:∃j:Nat,(D:Int)-1-k=(j:Int):=⟨((D:Int)-1-k).toNat,by omega⟩;rw[show((D:Int)-k).toNat=j+1 from by omega]at J a7;rw[wv (a:=(D:Int)-1) (by omega),ce,wv (a:=(j:Int)) (by omega),wv (a:=(j:Int)+(b.length:Int)) (by omega),wv (a:=(j:Int)+(b.length:Int)+1) (by omega),wv (a:=k+1) (by omega)];rw[show((j:Int)+(b.length:Int)).toNat=j+N+2 from by omega,show((j:Int)+((b.length:Int)-1)).toNat=j+N+1 from by omega,show((j:Int)+((b.length:Int)-2)).toNat=j+N from by omega];have dm:j+1<=D:=by omega
   have a4:=C4r F t (j:=j) (n:=N) (by omega) Z bo (by omega) J;have du:=M5 t (N+1);have d3:=M5 t N;have d5:=M5 F (j+N+2);have d6:=M5 F (j+N+1);have d7:=M5 F (j+N);have Y:0<4294967296^j:=tN (by decide);refine⟨fun p=>p.1.length=f.length/\p.2.1.length=D/\nv f=nv p.2.1*nv v+nv p.1/\nv p.1<nv v*4294967296^j/\∃Q,nv p.2.1=Q*4294967296^j, ?_, ?_⟩
   . rw[Z6 t,Z6 t,Z6 F,Z6 F,Z6 F];rw[X6 (a:=(dg v (N+1):Int)) (by omega) (by omega),X6 (a:=(dg v N:Int)) (by omega) (by omega),X6 (a:=(dg u (j+N+2):Int)) (by omega) (by omega),X6 (a:=(dg u (j+N+1):Int)) (by omega) (by omega),X6 (a:=(dg u (j+N):Int)) (by omega) (by omega)];rw[show Min.min (Int.toNat 32) u64.bits=32 from rfl,show Min.min (Int.toNat 63) u64.bits=63 from rfl,show u64.bits=64 from rfl,fJ d5 d6];refine⟨⟨by omega,by omega,by omega⟩,⟨by omega,by omega⟩,by decide,⟨by omega,by omega⟩,⟨by omega,by omega⟩,by omega,⟨by omega,by omega⟩,by omega, ?_⟩;have an:=a4.est;have aa:= @aU.near _ _ _ _ _ _ _ a4;have am:= @aU.dec _ _ _ _ _ _ _ a4;have aq:= @aU.out _ _ _ _ _ _ _ a4;generalize c8:nv u/4294967296^j/nv v=QS at an aa am aq⊢;refine⟨fun p=>QS<=p.1.toNat/\p.1.toNat<=QS+1/\0<=p.1/\p.1<4294967296, ?_, ?_⟩
     . refine⟨fun p=>∃d r:Nat,p.1=(d:Int)/\p.2.1=(r:Int)/\dg u (j+N+2)*4294967296+dg u (j+N+1)=d*dg v (N+1)+r/\QS<=d/\r<4294967296,fun p=>p.1.toNat, ?_, ?_⟩
       . have bp:0<dg v (N+1):=sU bo;have cf:=(vF bp).2 an;have o:=wF (dg u (j+N+2)*4294967296+dg u (j+N+1)) bp;have cc:=wW (dg u (j+N+2)*4294967296+dg u (j+N+1)) (dg v (N+1));have dj:=wX (dg u (j+N+2)*4294967296+dg u (j+N+1)) (dg v (N+1));have dc:dg u (j+N+2)*4294967296+dg u (j+N+1)<=18446744073709551615:=by omega
         refine⟨(dg u (j+N+2)*4294967296+dg u (j+N+1))/dg v (N+1),(dg u (j+N+2)*4294967296+dg u (j+N+1))%dg v (N+1), ?_,rfl, ?_,cf,by omega⟩
         . show u64.wrap (Int.tdiv _ _)= _;have e:Int.tdiv ((dg u (j+N+2)*4294967296+dg u (j+N+1):Nat):Int) ((dg v (N+1):Nat):Int)=(((dg u (j+N+2)*4294967296+dg u (j+N+1))/dg v (N+1):Nat):Int):=rfl;rw[e];generalize (dg u (j+N+2)*4294967296+dg u (j+N+1))/dg v (N+1)=b9 at*;exact X6 (by omega) (by omega)
         . have:=cc.symm;rw[tG (dg v (N+1))]at this;exact this
       . rintro⟨ai,d2,_⟩ ⟨bi,_⟩ ⟨d,r,z,G,ar,cl,dn⟩;change Int at ai d2;simp only at z G bi⊢;subst z G;have dh:(d:Int)<=18446744073709551615:=by have:=bi.2;rw[FB]at this;exact this
         rw[B7a,B7a,fJ (x:=r) (by omega) d7,B5b d3];refine⟨by decide,fun _=>⟨by omega,by omega⟩,fun _=>by decide,fun _=>⟨by omega,by omega⟩,fun E=> ?_,fun E=> ?_⟩
         . have E:=qA E;have dk:=am ar cl E;rw[X6 (a:=(r:Int)+(dg v (N+1):Int)) (by omega) (by omega),X6 (a:=(d:Int)-1) (by omega) (by omega)];obtain⟨e,rfl⟩:∃e,d=e+1:=⟨d-1,by omega⟩;have au:dg u (j+N+2)*4294967296+dg u (j+N+1)=e*dg v (N+1)+(r+dg v (N+1)):=by rw[ar,uU,xP];omega
           refine⟨⟨by omega,by omega⟩,by decide,fun X=> ?_,fun X=> ?_⟩
           . have X:=qA X;obtain⟨d0,d1⟩:=aq au (by omega) (by omega);have c2:=aa au d0 d1;have bc:(((e+1:Nat):Int)-1).toNat=e:=by omega
             refine⟨?_, ?_, ?_, ?_⟩
             . show _ <=(((e+1:Nat):Int)-1).toNat;rw[bc];omega
             . show(((e+1:Nat):Int)-1).toNat<= _;rw[bc];exact c2
             . show(0:Int)<=((e+1:Nat):Int)-1;omega
             . show((e+1:Nat):Int)-1< _;omega
           . have X:(((r:Int)+(dg v (N+1):Int))/4294967296)=0:=g2t (qB X);refine⟨⟨e,r+dg v (N+1),by omega,by omega,au,by omega,by omega⟩,by omega⟩
         . have E:=qB E;have c2:=aa ar (by omega) (by omega);exact⟨by show _ <=(d:Int).toNat;omega,by show(d:Int).toNat<= _;omega,qD _,by show(d:Int)< _;omega⟩
     . rintro⟨ai,_⟩ _ ⟨ba,ah,bb,c4⟩;change Int at ai;simp only at ba ah bb c4⊢;obtain⟨d,rfl⟩:=uL bb;rw[qJ]at ba ah;clear an aa am aq;refine⟨fun p=>∃c i:Nat,p.1=(c:Int)/\p.2.1=(i:Int)/\i<=N+2/\c<=d/\p.2.2.1.length=f.length/\nv p.2.2.1+4294967296^j*(d*nv (v.take i))=nv u+4294967296^(j+i)*c/\∀m,j+i<=m->dg p.2.2.1 m=dg u m,fun p=>((N:Int)+2-p.2.1).toNat,⟨0,0,rfl,rfl,by omega,by omega,c3,by simp[nv],fun _ _=>rfl⟩, ?_⟩;rintro⟨ag,ax,w,_⟩ ⟨_,_,ct,_⟩ ⟨c,i,z,G,ao,E,ad,a5,hK⟩;change Int at ag ax;have ab:A7 w:=A3 ct.2;change List Int at w;simp only at z G ao E ad a5 hK⊢;subst z G;refine⟨fun g=> ?_,fun g=> ?_⟩
       . have g:(i:Int)<(b.length:Int):=qA g;have b7:=M5 t i;have ae:=M5 ab (j+i);rw[show((i:Int)).toNat=i from qJ _,show((j:Int)+(i:Int)).toNat=j+i from by omega,Z6 t,Z6 ab,X6 (a:=(dg v i:Int)) (by omega) (by omega),X6 (a:=(dg w (j+i):Int)) (by omega) (by omega),wv (a:=(i:Int)+1) (by omega)];obtain⟨af,b4,az,b0,b1,b2⟩:=B4x (d:=d) (x:=dg v i) (c:=c) (y:=dg w (j+i)) (by omega) b7 E ae;rw[az,b0];refine⟨⟨by omega,g⟩,⟨by omega,by omega⟩,⟨by omega,by omega⟩,by decide,by decide,⟨af,i+1,rfl,by omega,by omega,b1,by rw[qM];exact ad, ?_, ?_⟩,by omega⟩
         . have O:=Ks (l:=w) (k:=j+i) (v:=(b4:Int)) (by omega);rw[qJ]at O;rw[I4,show j+(i+1)=(j+i)+1 from by omega,sC _ (j+i)];exact A8i a5 O b2 (uZ ..)
         . intro m o;rw[Zy (by omega),qK (by omega)];exact hK m (by omega)
       . have g:=qB g;have ap:i=N+2:=by omega
         subst ap;rw[Js t,tP Z]at a5;have av:=hK (j+N+2) (by omega);rw[Z6 ab,av,X6 (a:=(dg u (j+N+2):Int)) (by omega) (by omega),C4v,show((j:Int)).toNat=j from qJ _];have ch:nv u<4294967296^(j+N+3):=by
          refine rC J ?_;have e:4294967296^(j+N+3)=4294967296^(N+2)*4294967296^(j+1):=by rw[<-uZ];congr 1;omega
          rw[e];exact rM _ (wE Z)
         rw[show j+(N+2)=j+N+2 from by omega]at a5;refine⟨⟨by omega,by omega⟩,⟨by omega,by omega⟩,by decide,fun H=> ?_,fun H=> ?_⟩
         . have H:=qA H;have bh:c<=dg u (j+N+2):=by rw[Cp]at H;omega
           rw[X6 (a:=(dg u (j+N+2):Int)-(c:Int)) (by omega) (by omega),w32 (a:=(dg u (j+N+2):Int)-(c:Int)) (by omega) (by omega),w32 (a:=(d:Int)) (by omega) (by omega)];have O:=Ks (l:=w) (k:=j+N+2) (v:=(dg u (j+N+2):Int)-(c:Int)) (by omega);rw[av,show((dg u (j+N+2):Int)-(c:Int)).toNat=dg u (j+N+2)-c from by omega,Nat.mul_sub]at O;have bg:=sS (4294967296^(j+N+2)) bh;have ak:nv (w.set (j+N+2) ((dg u (j+N+2):Int)-(c:Int)))+4294967296^j*(d*nv v)=nv u:=by omega
           have cd:=B2p Y a0 (U:=nv u) (d:=d) (by omega);obtain⟨b5,b6⟩:=C0f bk (d:=d) a7 (by omega);obtain⟨T,W⟩:=cX a9 ak b5 Y a0 (by omega);exact⟨⟨by omega,by omega⟩,by show(List.set _ _ _).length= _;rw[qM];exact ad,by show(List.set _ _ _).length= _;rw[qM];exact b3,T,W,_,b6⟩
         . have H:=qB H;have bh:dg u (j+N+2)<c:=by rw[Cp]at H;omega
           have c6:u32.wrap (u64.wrap ((dg u (j+N+2):Int)-(c:Int)))=((dg u (j+N+2)+4294967296-c:Nat):Int):=by
            rw[Cp,Co];omega
           rw[c6];have O:=Ks (l:=w) (k:=j+N+2) (v:=((dg u (j+N+2)+4294967296-c:Nat):Int)) (by omega);rw[av,qJ,Nat.mul_sub,sZ]at O;have bg:=sS (4294967296^(j+N+2)) (show c<=dg u (j+N+2)+4294967296 by omega);rw[sZ]at bg;have d4:A7 (w.set (j+N+2) ((dg u (j+N+2)+4294967296-c:Nat):Int)):=dW ab (by show 0<= _ /\ _ <= _;omega);have bu:∀m,j+N+3<=m->dg (w.set (j+N+2) ((dg u (j+N+2)+4294967296-c:Nat):Int)) m=0:=fun m o=>by
            rw[Zy (by omega),qK (by omega),hK m (by omega)];exact A6t F ch o
           have cg:(w.set (j+N+2) ((dg u (j+N+2)+4294967296-c:Nat):Int)).length=f.length:=by rw[qM];exact ad
           generalize w.set (j+N+2) ((dg u (j+N+2)+4294967296-c:Nat):Int)=ac at*;have ca:nv ac+4294967296^j*(d*nv v)=nv u+4294967296^(j+N+2)*4294967296:=by omega
           have co:nv ac<4294967296^(j+N+2)*4294967296:=by
            have bd:=U3 d4 (j+N+3);rw[RE bu, <-C5q (j+N)]at bd;exact bd
           have cd:=C2v Y a0 (U:=nv u) (d:=d) (by omega);obtain⟨e,rfl⟩:∃e,d=e+1:=⟨d-1,by omega⟩;refine⟨fun p=>∃c i:Nat,p.1=(c:Int)/\p.2.1=(i:Int)/\i<=N+2/\c<=1/\p.2.2.1.length=f.length/\nv p.2.2.1+4294967296^(j+i)*c=nv ac+4294967296^j*nv (v.take i)/\∀m,j+i<=m->dg p.2.2.1 m=dg ac m,fun p=>((N:Int)+2-p.2.1).toNat,⟨0,0,rfl,rfl,by omega,by omega,cg,by simp[nv],fun _ _=>rfl⟩, ?_⟩;rintro⟨ag,ax,y,_⟩ ⟨_,_,cu,_⟩ ⟨h,i,z,G,ao,bj,b8,a6,aj⟩;change Int at ag ax;have a3:A7 y:=A3 cu.2;change List Int at y;simp only at z G ao bj b8 a6 aj⊢;subst z G;refine⟨fun g=> ?_,fun g=> ?_⟩
           . have g:(i:Int)<(b.length:Int):=qA g;have b7:=M5 t i;have ae:=M5 a3 (j+i);rw[show((i:Int)).toNat=i from qJ _,show((j:Int)+(i:Int)).toNat=j+i from by omega,Z6 t,Z6 a3,X6 (a:=(dg v i:Int)) (by omega) (by omega),X6 (a:=(dg y (j+i):Int)) (by omega) (by omega),wv (a:=(i:Int)+1) (by omega)];obtain⟨af,b4,az,b0,b1,b2⟩:=A9p (x:=dg v i) (c:=h) (y:=dg y (j+i)) b7 bj ae;rw[az,b0];refine⟨⟨by omega,g⟩,⟨by omega,by omega⟩,⟨by omega,by omega⟩,by decide,⟨af,i+1,rfl,by omega,by omega,b1,by rw[qM];exact b8, ?_, ?_⟩,by omega⟩
             . have a2:=Ks (l:=y) (k:=j+i) (v:=(b4:Int)) (by omega);rw[qJ]at a2;rw[I4,show j+(i+1)=(j+i)+1 from by omega,sC _ (j+i)];exact A5r a6 a2 b2 (uZ ..)
             . intro m o;rw[Zy (by omega),qK (by omega)];exact aj m (by omega)
           . have g:=qB g;have ap:i=N+2:=by omega
             subst ap;rw[Js t,tP Z,show j+(N+2)=j+N+2 from by omega]at a6;have ae:=M5 a3 (j+N+2);have c7:u32.wrap ((dg y (j+N+2):Int)+u32.wrap (h:Int))=(((dg y (j+N+2)+h)%4294967296:Nat):Int):=by
              rw[w32 (a:=(h:Int)) (by omega) (by omega),Co];omega
             have c5:u32.wrap (u64.wrap (((e+1:Nat):Int)-1))=(e:Int):=by
              rw[X6 (by omega) (by omega),w32 (by omega) (by omega)];omega
             rw[Z6 a3,c7,c5];have a2:=Ks (l:=y) (k:=j+N+2) (v:=(((dg y (j+N+2)+h)%4294967296:Nat):Int)) (by omega);rw[qJ]at a2;obtain⟨ay,ci,cj⟩:∃ay,dg y (j+N+2)+h=(dg y (j+N+2)+h)%4294967296+4294967296*ay/\ay<=1:=⟨(dg y (j+N+2)+h)/4294967296,by omega,by omega⟩;have d8:A7 (y.set (j+N+2) (((dg y (j+N+2)+h)%4294967296:Nat):Int)):=dW a3 (by show 0<= _ /\ _ <= _;omega);have cv:∀m,j+N+3<=m->dg (y.set (j+N+2) (((dg y (j+N+2)+h)%4294967296:Nat):Int)) m=0:=fun m o=>by
              rw[Zy (by omega),qK (by omega),aj m (by omega)];exact bu m o
             have cw:(y.set (j+N+2) (((dg y (j+N+2)+h)%4294967296:Nat):Int)).length=f.length:=by rw[qM];exact b8
             generalize y.set (j+N+2) (((dg y (j+N+2)+h)%4294967296:Nat):Int)=b9 at*;have cx:nv b9<4294967296^(j+N+2)*4294967296:=by
              have bd:=U3 d8 (j+N+3);rw[RE cv, <-C5q (j+N)]at bd;exact bd
             obtain⟨c9,ak⟩:=B0b (U:=nv u) (P:=4294967296^j) (V:=nv v) (e:=e) (M:=4294967296^(j+N+2)) Y a0 ca co (by rw[c8];exact ah) a6 a2 ci cj cx;obtain⟨b5,b6⟩:=C0f bk (d:=e) a7 (by omega);obtain⟨T,W⟩:=cX a9 ak b5 Y a0 c9;exact⟨⟨by omega,by omega⟩,⟨by omega,by omega⟩,⟨by omega,by omega⟩,cw,by show(List.set _ _ _).length= _;rw[qM];exact b3,T,W,_,b6⟩
   . rintro⟨dt,ds,_⟩ _ ⟨bv,bw,bx,bz,Q',c0⟩;simp only at bv bw bx bz c0⊢;rw[show((D:Int)-(k+1)).toNat=j from by omega];exact⟨⟨by omega,by omega,bv,bw,bx,bz,Q',c0⟩,by omega⟩
 . have a1:=qB a1;rw[show((D:Int)-k).toNat=0 from by omega,g4g,yW]at J;have cm:0<=s:=by omega
   obtain⟨T,W⟩:=C1n (A:=nv a) (B:=nv b) (S:=s.toNat) (q:=nv q) (r:=nv u) (sU (ZJ I bn)) (by rw[<-aw, <-R];exact a9) (by rw[<-R];exact J);refine⟨⟨qI _,by omega,by omega⟩, ?_, ?_⟩
   . show(List.drop _ (List.take _ _)).length<= _;rw[sL,qU];omega
   rintro⟨m,dr,_⟩ _ o;refine⟨trivial, ?_⟩;rintro⟨b9,_⟩ _ bt;simp only at o bt⊢;have o:=(o.2 cm).1;rw[show(Int.toNat 0)=0 from rfl,tW,show((b.length:Int)).toNat=b.length from qJ _,Js F,be,tP (by omega),W]at o;exact⟨by rw[bt,T],o⟩
def KG:An:= {plan:= [(8,[],[],true,(pZ9 0 3 (pZ9 4 3 (.e 3 (.e 7 (pZ9 8 3 .done))))))]}
def VA:An:= {join:= [(4,⟨[],[],[(0,false,[.val (.sl (.int .u32))]),(1,false,[.val (.sl (.int .u32))])],[],[]⟩)],loop:= [(7,⟨[],[],[(5,false,vU),(6,false,vU)],[],[]⟩),(4,⟨[],[],[(0,false,[.val (.sl (.int .u32))]),(1,false,[.val (.sl (.int .u32))])],[],[]⟩)],plan:= [(8,[],[],true,(pZ9 0 6 .done)),(15,[2,5,9,12],[],true,(.p 0 (.p 1 (.q 2 (.p 3 (.p 4 (.q 5 (.p 7 (.p 8 (.q 9 (.p 10 (.p 11 (.q 12 (.e 6 (.e 13 (.p 14 (.p 15 .done))))))))))))))))),(16,[2,5,9,12],[],true,(.p 0 (.p 1 (.q 2 (.p 3 (.p 4 (.q 5 (.p 7 (.p 8 (.q 9 (.p 10 (.p 11 (.q 12 (.e 6 (.e 13 (.p 14 (.p 15 .done)))))))))))))))))]}
def Pz:A2 Ai.args->Prop:=fun(x:Fp)=>let e:=(0:Nat);let d:=(nv x.1%nv x.2.1);let c:=(nv x.1/nv x.2.1);let b:=(0:Int);True/\N6 fun r=>let f:Prop:=((r.1.length:Int)<=(2:Int));r.1=nc (nv x.1)->True/\N6 fun h=>let a:=(h.1.length:Int);h.1=nc (nv x.2.1)->(iB (decide (a=b)) ((nv x.2.1=e->Dc Int= []/\Dc Int= []/\false=false)/\(nv x.2.1≠e->Dc Int=nc c/\Dc Int=nc d/\false=true)) (True/\Bf fun k=>k.1=Db (nv r.1) (nv h.1)->(iB (decide (k.1<b)) (Hy r.1/\N6 fun g=>g.1=nc (nv r.1)->(nv x.2.1=e->Dc Int= []/\g.1= []/\true=false)/\(nv x.2.1≠e->Dc Int=nc c/\g.1=nc d/\true=true)) ((iB (decide f) (List.length r.1<=2/\rT1 fun g=>g.1=(↑(nv r.1):Int)->List.length h.1<=2/\rT1 fun r=>r.1=(↑(nv h.1):Int)->r.1≠b/\r.1≠b/\True/\N6 fun i=>i.1=nc (u64.wrap (Int.tdiv g.1 r.1)).toNat->True/\N6 fun j=>j.1=nc (Int.tmod g.1 r.1).toNat->(nv x.2.1=e->i.1= []/\j.1= []/\true=false)/\(nv x.2.1≠e->i.1=nc c/\j.1=nc d/\true=true)) ((iB (decide (a=(1:Int))) ((b<=b/\b<a)/\(E3 r.1/\gx b h.1 b≠b)/\∀(g:Fp),Jp g.1/\Jp g.2.1/\True->g.1=nc (nv r.1/(gx b h.1 b).toNat)/\g.2.1=nc (nv r.1%(gx b h.1 b).toNat)->(nv x.2.1=e->g.1= []/\g.2.1= []/\true=false)/\(nv x.2.1≠e->g.1=nc c/\g.2.1=nc d/\true=true)) ((E3 r.1/\(2:Nat)<=List.length h.1/\List.length h.1<=List.length r.1/\Nv h.1)/\∀(g:Fp),Jp g.1/\Jp g.2.1/\True->g.1=nc (nv r.1/nv h.1)/\g.2.1=nc (nv r.1%nv h.1)->(nv x.2.1=e->g.1= []/\g.2.1= []/\true=false)/\(nv x.2.1≠e->g.1=nc c/\g.2.1=nc d/\true=true)))))))))
abbrev B5f:=List Int×List Int×Bool×Unit
def CJ:A2 Fb.args->Prop:=fun(x:Fp)=>let e:=(nv x.2.1);let b:=(0:Int);True/\N6 fun r=>r.1=nc (nv x.1)->True/\N6 fun j=>j.1=nc e->∃(J:Fp->Prop),(True/\Bf fun h=>h.1=Db (nv r.1) (nv j.1)->(iB (decide (h.1<b)) (J (j.1,r)) (J (r.1,j))))/\∀(p:Fp),(Ty.int u32).sl.wf p.1/\(Ty.int u32).sl.wf p.2.1/\True->J p->∃(I:Fp->Prop),∃(a: _->Nat),I (p.1,p.2.1,())/\∀(p:Fp),let g:=(↑(nv p.2.1):Int);let d:=(p.2.1.length:Int);let c:Prop:=((p.1.length:Int)<=(2:Int));(Ty.int u32).sl.wf p.1/\(Ty.int u32).sl.wf p.2.1/\True->I p->(iB (decide (b<d)) ((iB (decide c) (List.length p.1<=2/\rT1 fun r=>r.1=(↑(nv p.1):Int)->List.length p.2.1<=2/\rT1 fun h=>h.1=g->∃(I:Cc->Prop),∃(a: _->Nat),I (r.1,h)/\∀(p:Cc),let c:=(p.2.1,Int.tmod p.1 p.2.1,());(Ty.int u64).wf p.1/\(Ty.int u64).wf p.2.1/\True->I p->(iB (decide (p.2.1≠b)) (p.2.1≠b/\I c/\a c<a p) (True/\N6 fun r=>r.1=nc p.1.toNat->r.1=nc ((nv x.1).gcd e)))) ((E3 p.1/\(3:Nat)<=List.length p.1/\Nv p.1/\nv p.2.1<=nv p.1/\List.length p.2.1<=List.length p.1)/\∀(r:(Int×Int×Int×Int×Bool)×Unit),(KA r.1.1/\KA r.1.2.1/\KA r.1.2.2.1/\KA r.1.2.2.2.1/\True)/\True->C2d (↑(nv p.1):Int) g r.1.1 r.1.2.1 r.1.2.2.1 r.1.2.2.2.1 r.1.2.2.2.2->(iB (decide (r.1.2.2.1=b)) (E3 p.1/\∀(r:B5f),let f:=(p.2.1,r.2.1,());Jp r.1/\Jp r.2.1/\True/\True->(nv p.2.1=0->r.1= []/\r.2.1= []/\r.2.2.1=false)/\(nv p.2.1≠0->r.1=nc (nv p.1/nv p.2.1)/\r.2.1=nc (nv p.1%nv p.2.1)/\r.2.2.1=true)->I f/\a f<a p) ((iB r.1.2.2.2.2 ((X7 p.1/\X7 p.2.1/\nv p.2.1*Int.toNat r.1.2.2.1<=nv p.1*Int.toNat r.1.1)/\N6 fun h=>h.1=nc (nv p.1*Int.toNat r.1.1-nv p.2.1*Int.toNat r.1.2.2.1)->(X7 p.2.1/\X7 p.1/\nv p.1*Int.toNat r.1.2.1<=nv p.2.1*Int.toNat r.1.2.2.2.1)/\N6 fun i=>i.1=nc (nv p.2.1*Int.toNat r.1.2.2.2.1-nv p.1*Int.toNat r.1.2.1)->I (h.1,i)/\a (h.1,i)<a p) ((X7 p.2.1/\X7 p.1/\nv p.1*Int.toNat r.1.1<=nv p.2.1*Int.toNat r.1.2.2.1)/\N6 fun h=>h.1=nc (nv p.2.1*Int.toNat r.1.2.2.1-nv p.1*Int.toNat r.1.1)->(X7 p.1/\X7 p.2.1/\nv p.2.1*Int.toNat r.1.2.2.2.1<=nv p.1*Int.toNat r.1.2.1)/\N6 fun i=>i.1=nc (nv p.1*Int.toNat r.1.2.1-nv p.2.1*Int.toNat r.1.2.2.2.1)->I (h.1,i)/\a (h.1,i)<a p))))))) (Hy p.1/\N6 fun r=>r.1=nc (nv p.1)->r.1=nc ((nv x.1).gcd e)))
def CH (x:A2 Ai.args) (c:awf Ai.args x) (f:Ai.pre x):Pz x:=by
 obtain⟨a,b,_⟩:=x;have d:A7 a:=A3 c.1.2;have g:A7 b:=A3 c.2.1.2;change List Int at a b;have u:a.length<=17592186044416:=f;have c:=C9 d;simp only[Pz,iB,N6,rT1,Bf];refine⟨trivial, ?_⟩;rintro⟨r,_⟩ _ k;refine⟨trivial, ?_⟩;rintro⟨s,_⟩ _ g;simp only at k g⊢;have n:nv r=nv a:=by rw[k,E9]
 have o:nv s=nv b:=by rw[g,E9]
 have t:r.length<=a.length:=by rw[k];exact c
 have c:A7 r:=k▸J2 _;have A:A7 s:=g▸J2 _;refine⟨fun h=> ?_,fun h=> ?_⟩
 . have h:=qA h;have c:nv b=0:=by rw[<-o,qR (l:=s) (by omega)];rfl
   exact⟨fun _=>⟨by trivial,by trivial,by trivial⟩,fun d=>absurd c d⟩
 have h:=qB h;have j:nv b≠0:=fun c=>h (by rw[g,c,O6];rfl)
 refine⟨trivial, ?_⟩;rintro⟨v,_⟩ _ f;simp only at f⊢;rw[n,o]at f;refine⟨fun h=> ?_,fun h=> ?_⟩
 . have h:=qA h;have v:nv a<nv b:=by
    rcases sE (nv a) (nv b)with d|d
    . exact d
    . unfold Db at f;rw[qK (by omega)]at f;split at f<;>omega
   refine⟨qX t (qX u (by decide)), ?_⟩;rintro⟨y,_⟩ _ w;simp only at w⊢;refine⟨fun c=>absurd c j,fun _=>⟨?_, ?_,by trivial⟩⟩
   . rw[uC v,O6]
   . rw[tP v,w,n]
 have h:=qB h;have h:nv b<=nv a:=by
  rcases sE (nv a) (nv b)with d|d
  . rw[Pf d]at f;omega
  . exact d
 have v:s.length<=r.length:=by rw[k,g];exact J5 h
 refine⟨fun d=> ?_,fun d=> ?_⟩
 . have d:=qA d;refine⟨by omega, ?_⟩;rintro⟨x,_⟩ ⟨k,_⟩ f;refine⟨by omega, ?_⟩;rintro⟨y,_⟩ ⟨r,_⟩ h;change Int at x y;simp only at k r f h⊢;rw[n]at f;rw[o]at h;have r:x<=18446744073709551615:=by have:=k.2;rw[FB]at this;exact this
   have k:Int.tdiv x y=((nv a/nv b:Nat):Int):=by rw[f,h];rfl
   have r:Int.tmod x y=((nv a%nv b:Nat):Int):=by rw[f,h];rfl
   have f:nv a/nv b<=nv a:=wX _ _;refine⟨by omega,by omega,trivial, ?_⟩;rintro⟨q,_⟩ _ h;refine⟨trivial, ?_⟩;rintro⟨m,_⟩ _ f;simp only at h f⊢;refine⟨fun c=>absurd c j,fun _=>⟨?_, ?_,by trivial⟩⟩
   . rw[h,k];generalize nv a/nv b=Q at*;rw[X6 (by omega) (by omega)];rfl
   . rw[f,r];rfl
 have d:=qB d;refine⟨fun d=> ?_,fun d=> ?_⟩
 . have d:=qA d;have e:(gx (0:Int) s (0:Int)).toNat=nv b:=by
    rw[<-o];obtain⟨z,rfl⟩:∃z,s= [z]:=g2c.1 (by omega);show z.toNat=z.toNat+4294967296*0;omega
   have a:=Vj A (i:=0) (qI _) (by omega);refine⟨⟨qI _,by omega⟩,⟨qX t u,by omega⟩, ?_⟩;rintro⟨q,m,_⟩ _ a;simp only at a⊢;rw[e,n]at a;exact⟨fun c=>absurd c j,fun _=>⟨a.1,a.2,by trivial⟩⟩
 have d:=qB d;refine⟨⟨qX t u,by omega,v,by rw[g];exact eE j⟩, ?_⟩;rintro⟨q,m,_⟩ _ a;simp only at a⊢;rw[n,o]at a;exact⟨fun c=>absurd c j,fun _=>⟨a.1,a.2,by trivial⟩⟩
structure kO (A B A' B':Nat):Prop where
 g:Nat.gcd A' B'=Nat.gcd A B
 le:B'<=A'
 lt:A'+B'<A+B
 top:A'<=A
def A6s {A B:Nat} (h:B<=A) (a:0<B):kO A B B (A%B) where
 g:=by rw[xA A B,xA B];exact(g3b B A).symm
 le:=wE (wF _ a)
 lt:=by have:=wF A a;omega
 top:=h
def A7d {A B:Nat} {u0 u1 v0 v1:Int} {ev:Bool} (I:0<B) (h:C2d A B u0 u1 v0 v1 ev) (r:v0≠0):
 (ev=true->B*v0.toNat<=A*u0.toNat/\A*u1.toNat<=B*v1.toNat/\kO A B (A*u0.toNat-B*v0.toNat) (B*v1.toNat-A*u1.toNat))/\
 (ev=false->A*u0.toNat<=B*v0.toNat/\B*v1.toNat<=A*u1.toNat/\kO A B (B*v0.toNat-A*u0.toNat) (A*u1.toNat-B*v1.toNat)):=by
 rcases h with h| ⟨A',B',d,f,k,n,u,iB,v,w,z,D⟩
 . exact absurd h r
 have o:=B1o (A:=A) (B:=B) (A':=A') (B':=B') (u0:=u0) (u1:=u1) (v0:=v0) (v1:=v1) (s:=if ev then u0 else -u0) (t:=if ev then -v0 else v0) (p:=if ev then -u1 else u1) (q:=if ev then v1 else -v1) u iB (by rw[d];cases ev<;>simp<;>grind) (by rw[f];cases ev<;>simp<;>grind);obtain⟨U0,rfl⟩:=uL z;obtain⟨U1,rfl⟩:=uL D;obtain⟨V0,rfl⟩:=uL (show(0:Int)<=v0 by omega);obtain⟨V1,rfl⟩:=uL (show(0:Int)<=v1 by omega);obtain⟨b,rfl⟩:=uL k;obtain⟨a,rfl⟩:=uL (Int.le_trans k n);simp only[qJ];have J:(1:Int)*(a:Int)<=(V1:Int)*a:=sH w (by omega);have M:(1:Int)*(b:Int)<=(V0:Int)*b:=sH v (by omega);have c:∀x y:Nat,((x*y:Nat):Int)=(y:Int)*(x:Int):=fun x y=>by rw[uP,g2b]
 have E:=c A U0;have F:=c B V0;have G:=c A U1;have H:=c B V1;have l:kO A B a b:=⟨o.symm,by omega,by omega,by omega⟩;refine⟨fun g=> ?_,fun g=> ?_⟩
 . subst g;simp only[xS]at d f;have i:A*U0-B*V0=a:=by omega
   have j:B*V1-A*U1=b:=by omega
   refine⟨by omega,by omega, ?_⟩;rw[i,j];exact l
 . subst g;simp only[vX,yG]at d f;have i:B*V0-A*U0=a:=by omega
   have j:A*U1-B*V1=b:=by omega
   refine⟨by omega,by omega, ?_⟩;rw[i,j];exact l
def B1p {x y:Int} (b:0<=x) (c:0<y):Nat.gcd y.toNat (Int.tmod x y).toNat=Nat.gcd x.toNat y.toNat/\(Int.tmod x y).toNat<y.toNat:=by
 obtain⟨a,rfl⟩:=uL b;obtain⟨b,rfl⟩:=uL (xM c);have e:Int.tmod (a:Int) (b:Int)=((a%b:Nat):Int):=rfl;simp only[e,qJ];have c:0<b:=by omega
 exact⟨by rw[xA a b,xA b];exact(g3b b a).symm,wF _ c⟩
structure A9h (G:Nat) (a b:List Int):Prop where
 ea:a=nc (nv a)
 eb:b=nc (nv b)
 le:nv b<=nv a
 g:Nat.gcd (nv a) (nv b)=G
 len:a.length<=8796093022208
def A9h.step {G:Nat} {a b c d:List Int} {A' B':Nat} (h:A9h G a b) (s:kO (nv a) (nv b) A' B') (i:c=nc A') (j:d=nc B'):A9h G c d/\nv c+nv d<nv a+nv b:=by
 have f:nv c=A':=by rw[i,E9]
 have c:nv d=B':=by rw[j,E9]
 refine⟨⟨by rw[f];exact i,by rw[c];exact j,by rw[f,c];exact s.le,by rw[f,c,s.g];exact h.g, ?_⟩,by rw[f,c];exact s.lt⟩;have:=J5 s.top;rw[<-h.ea]at this;rw[i];exact qX this h.len
def MO (x:A2 Fb.args) (a:awf Fb.args x) (i:Fb.pre x):CJ x:=by
 obtain⟨b,c,_⟩:=x;have d:A7 b:=A3 a.1.2;have f:A7 c:=A3 a.2.1.2;change List Int at b c;obtain⟨a,h⟩:b.length<=8796093022208/\c.length<=8796093022208:=i;have a:=C9 d;have a:=C9 f;simp only[CJ,iB,N6,rT1,Bf];refine⟨trivial, ?_⟩;rintro⟨r,_⟩ _ k;refine⟨trivial, ?_⟩;rintro⟨s,_⟩ _ n;simp only at k n⊢;have a:nv r=nv b:=by rw[k,E9]
 have f:nv s=nv c:=by rw[n,E9]
 refine⟨fun p=>A9h (Nat.gcd (nv b) (nv c)) p.1 p.2.1,⟨trivial, ?_⟩, ?_⟩
 . rintro⟨d,_⟩ _ h;simp only at h⊢;rw[a,f]at h;refine⟨fun j=> ?_,fun j=> ?_⟩
   . have j:=qA j;refine⟨by rw[f];exact n,by rw[a];exact k, ?_,by rw[a,f,xA],by rw[n];omega⟩;rw[a,f];rcases sE (nv b) (nv c)with d|d
     . omega
     . unfold Db at h;rw[qK (by omega)]at h;split at h<;>omega
   . have j:=qB j;refine⟨by rw[a];exact k,by rw[f];exact n, ?_,by rw[a,f],by rw[k];omega⟩;rw[a,f];rcases sE (nv b) (nv c)with d|d
     . rw[Pf d]at h;omega
     . exact d
 rintro⟨f,h,_⟩ _ a;simp only at a⊢;refine⟨fun p=>A9h (Nat.gcd (nv b) (nv c)) p.1 p.2.1,fun p=>nv p.1+nv p.2.1,a, ?_⟩;rintro⟨j,f,_⟩ ⟨h,k,_⟩ a;have n:A7 j:=A3 h.2;have h:A7 f:=A3 k.2;change List Int at j f;simp only at a⊢;have h:=a.len;have u:f.length<=j.length:=by rw[a.ea,a.eb];exact J5 a.le
 refine⟨fun h=> ?_,fun h=> ?_⟩
 . have h:=qA h;have n:0<nv f:=by
    rcases vH (nv f)with d|d
    . have:=a.eb;rw[d,O6]at this;rw[this]at h;exact absurd h (by simp)
    . exact d
   have t:nv j≠0:=by have:=a.le;omega
   refine⟨fun d=> ?_,fun d=> ?_⟩
   . have d:=qA d;refine⟨by omega, ?_⟩;rintro⟨x,_⟩ _ k;refine⟨by omega, ?_⟩;rintro⟨y,_⟩ _ o;simp only at k o⊢;refine⟨fun p=>0<=p.1/\0<=p.2.1/\Nat.gcd p.1.toNat p.2.1.toNat=Nat.gcd (nv b) (nv c),fun p=>p.2.1.toNat,⟨by show(0:Int)<=x;omega,by show(0:Int)<=y;omega, ?_⟩, ?_⟩
     . show Nat.gcd x.toNat y.toNat= _;rw[k,o,qJ,qJ];exact a.g
     rintro⟨X,Y,_⟩ _ ⟨b,o,k⟩;change Int at X Y;simp only at b o k⊢;refine⟨fun c=> ?_,fun c=> ?_⟩
     . have c:=qA c;obtain⟨r,s⟩:=B1p b (show 0<Y by omega);exact⟨c,⟨o,zH _ b,by rw[r];exact k⟩,s⟩
     . have c:Y=0:=g2t (qB c);refine⟨trivial, ?_⟩;rintro⟨q,_⟩ _ b;simp only at b⊢;rw[c]at k;rw[b, <-k];exact tR nc (g1a _).symm
   . have d:=qB d;refine⟨⟨by omega,by omega,by rw[a.ea];exact eE t,a.le,u⟩, ?_⟩;rintro⟨⟨c,k,o,r,ev⟩,_⟩ _ d;change Int at c k o r;change Bool at ev;simp only at d⊢;refine⟨fun c=> ?_,fun c=> ?_⟩
     . refine⟨by omega, ?_⟩;rintro⟨q,m,o,_⟩ _ k;simp only at k⊢;obtain⟨_,o,_⟩:=k.2 (by omega);exact a.step (A6s a.le n) a.eb o
     . have c:=qB c;obtain⟨o,r⟩:=A7d n d c;refine⟨fun d=> ?_,fun d=> ?_⟩
       . obtain⟨c1,c,k⟩:=o d;refine⟨⟨by omega,by omega,c1⟩, ?_⟩;rintro⟨p,_⟩ _ i;refine⟨⟨by omega,by omega,c⟩, ?_⟩;rintro⟨q,_⟩ _ b;simp only at i b⊢;exact a.step k i b
       . obtain⟨c1,c,k⟩:=r d;refine⟨⟨by omega,by omega,c1⟩, ?_⟩;rintro⟨p,_⟩ _ i;refine⟨⟨by omega,by omega,c⟩, ?_⟩;rintro⟨q,_⟩ _ b;simp only at i b⊢;exact a.step k i b
 . have h:=qB h;refine⟨by show j.length<=35184372088832;omega, ?_⟩;rintro⟨q,_⟩ _ b;simp only at b⊢;have c:nv f=0:=by rw[qR (l:=f) (by omega)];rfl
   have:=a.g;rw[c,g1a]at this;rw[b,this]
def KD:An:= {}
def HU:An:= {}
def SP:An:= {}
def SO:An:= {plan:= [(1,[1,3],[6],true,(.p 0 (.q 1 (.p 2 (.q 3 (.e 4 (.e 5 (.e 6 .done))))))))]}
def UY:An:= {plan:= [(1,[1,4],[7],true,(.p 0 (.q 1 (.p 2 (.p 3 (.q 4 (.e 5 (.e 6 (.e 7 .done)))))))))]}
def UW:An:= {plan:= [(2,[1,3,5],[8],true,(.p 0 (.q 1 (.p 2 (.q 3 (.p 4 (.q 5 (.e 6 (.e 7 (.e 8 .done))))))))))]}
def UX:An:= {plan:= [(1,[1,3,6,8],[11],true,(.p 0 (.q 1 (.p 2 (.q 3 (.p 4 (.p 5 (.q 6 (.p 7 (.q 8 (.e 9 (.e 10 (.e 11 .done)))))))))))))]}
def HT:An:= {plan:= [(1,[0,2],[],true,(.q 0 (.q 2 (.e 1 (.e 3 (.p 4 (.p 5 .done)))))))]}
abbrev B9e:=Bool×List Int×Unit
def Pw:A2 Ag.args->Prop:=fun(x:B9e)=>(J9 x.1 (decide ((0:Int)<(x.2.1.length:Int))) false,x.2.1)=(x.1&&decide (x.2.1≠ []),x.2.1)
def F9 (P:(Bool×List Int)×Unit->Prop):Prop:=∀r:(Bool×List Int)×Unit,pN r.1/\True->P r
def Oa:A2 W9.args->Prop:=fun(x:C6)=>(iB (decide (x.1<0)) (True/\N6 fun r=>r.1=nc (u64.wrap (-u64.wrap x.1)).toNat->True/\F9 fun a=>a.1=(true&&decide (r.1≠ []),r.1)->a.1=ic x.1) (True/\N6 fun r=>r.1=nc (u64.wrap x.1).toNat->True/\F9 fun a=>a.1=(false&&decide (r.1≠ []),r.1)->a.1=ic x.1))
abbrev A2x:=(Bool×List Int)×Unit
def Xc:A2 Dj.args->Prop:=fun(x:A2x)=>True/\Bf fun r=>r.1=Db (nv x.1.2) (nv [])->(iB (decide (r.1=0)) ((0:Int)=(iv x.1).sign) ((iB x.1.1 ((-1:Int)=(iv x.1).sign) ((1:Int)=(iv x.1).sign))))
def Xb:A2 Di.args->Prop:=fun(x:A2x)=>Hy x.1.2/\N6 fun r=>r.1=nc (nv x.1.2)->True/\F9 fun a=>a.1=(x.1.1&&decide (r.1≠ []),r.1)->a.1=ic (iv x.1)
def CB:A2 Ez.args->Prop:=fun(x:A2x)=>Hy x.1.2/\N6 fun r=>r.1=nc (nv x.1.2)->True/\F9 fun a=>a.1=(!x.1.1&&decide (r.1≠ []),r.1)->a.1=ic (-iv x.1)
abbrev bN:=(Bool×List Int)×(Bool×List Int)×Unit
def BY:A2 Ex.args->Prop:=fun(x:bN)=>let b:Prop:=(E3 x.1.2/\E3 x.2.1.2);let a:=(iv x.1+iv x.2.1);(iB ((x.1.1==x.2.1.1)) (b/\N6 fun r=>r.1=nc (nv x.1.2+nv x.2.1.2)->True/\F9 fun c=>c.1=(x.1.1&&decide (r.1≠ []),r.1)->c.1=ic a) (b/\∀(r:A2y),Jp r.1/\True/\True->(nv x.1.2<nv x.2.1.2->r.1= []/\r.2.1=false)/\(nv x.2.1.2<=nv x.1.2->r.1=nc (nv x.1.2-nv x.2.1.2)/\r.2.1=true)->(iB r.2.1 (True/\F9 fun c=>c.1=(x.1.1&&decide (r.1≠ []),r.1)->c.1=ic a) ((E3 x.2.1.2/\E3 x.1.2)/\∀(r:A2y),Jp r.1/\True/\True->(nv x.2.1.2<nv x.1.2->r.1= []/\r.2.1=false)/\(nv x.1.2<=nv x.2.1.2->r.1=nc (nv x.2.1.2-nv x.1.2)/\r.2.1=true)->True/\F9 fun c=>c.1=(x.2.1.1&&decide (r.1≠ []),r.1)->c.1=ic a))))
def BZ:A2 Ey.args->Prop:=fun(x:bN)=>(E3 x.1.2/\E3 x.2.1.2)/\N6 fun r=>r.1=nc (nv x.1.2*nv x.2.1.2)->True/\F9 fun a=>a.1=(x.1.1 !=x.2.1.1&&decide (r.1≠ []),r.1)->a.1=ic (iv x.1*iv x.2.1)
def Nz:A2 W8.args->Prop:=fun(x:bN)=>let b:=(iv x.1);let a:=(iv x.2.1);True/\Bf fun r=>r.1=b.sign->True/\Bf fun c=>c.1=a.sign->(iB (decide (r.1<c.1)) ((-1:Int)=K6 b a) ((iB (decide (c.1<r.1)) ((1:Int)=K6 b a) ((iB (decide (r.1<0)) (True/\Bf fun r=>r.1=Db (nv x.2.1.2) (nv x.1.2)->r.1=K6 b a) (True/\Bf fun r=>r.1=Db (nv x.1.2) (nv x.2.1.2)->r.1=K6 b a))))))
def CC (x:A2 Ag.args) (a:awf Ag.args x) (_:Ag.pre x):Pw x:=by
 obtain⟨b,l,_⟩:=x;change Bool at b;change List Int at l;simp only[Pw,K7];cases l<;>simp
def Yy (x:A2 W9.args) (b:awf W9.args x) (_:W9.pre x):Oa x:=by
 obtain⟨v,_⟩:=x;change Int at v;have a:i64.min<=v/\v<=i64.max:=b.1;rw[Vg,EG]at a;simp only[Oa,iB,N6,F9];refine⟨fun h=>⟨trivial, ?_⟩,fun h=>⟨trivial, ?_⟩⟩
 . rintro⟨r,_⟩ _ a;refine⟨trivial, ?_⟩;rintro⟨s,_⟩ _ b;simp only at a b⊢;have h:=qA h;have e:(u64.wrap (-u64.wrap v)).toNat=v.natAbs:=by rw[Cp,Cp];omega
   rw[e]at a;subst b a;unfold ic;rw[rG h,g0e,rG (by rw[g4l,AJ];omega)]
 . rintro⟨r,_⟩ _ a;refine⟨trivial, ?_⟩;rintro⟨s,_⟩ _ b;simp only at a b⊢;have h:=qB h;have e:(u64.wrap v).toNat=v.natAbs:=by rw[Cp];omega
   rw[e]at a;subst b a;unfold ic;rw[rH h,g0s]
def JK (x:A2 Dj.args) (a:awf Dj.args x) (_:Dj.pre x):Xc x:=by
 obtain⟨⟨b,l⟩,_⟩:=x;change Bool at b;change List Int at l;simp only[Xc,iB,Bf];refine⟨trivial, ?_⟩;rintro⟨r,_⟩ _ a;simp only at a⊢;rw[jD]at a;refine⟨fun h=> ?_,fun h=>⟨fun c=> ?_,fun c=> ?_⟩⟩
 . have h:=qA h;have b:nv l=0:=XL.1 (a▸h);unfold iv;simp only[b];split<;>rfl
 . have h:=qB h;have b:nv l≠0:=fun e=>h (by rw[a,e];rfl)
   unfold iv;simp only[c,xS];rw[Int.sign_neg,tS (by omega)]
 . have h:=qB h;have b:nv l≠0:=fun e=>h (by rw[a,e];rfl)
   unfold iv;simp only[c];exact(tS (by simp;omega)).symm
def ZC {neg:Bool} {m:Nat} {v:Int} (h:v=if neg=true then -(m:Int)else(m:Int)):(neg&&decide (nc m≠ []),nc m)=ic v:=by
 have e:ic (iv (neg,nc m))=(neg&&decide (m≠0),nc m):=B1w;have a:iv (neg,nc m)=v:=by rw[h];unfold iv;simp only[E9]
 rw[a]at e;rw[e];have:decide (nc m≠ [])=decide (m≠0):=wP.2 (g5a AJ);rw[this]
def JJ (x:A2 Di.args) (f:awf Di.args x) (d:Di.pre x):Xb x:=by
 obtain⟨⟨c,l⟩,_⟩:=x;change Bool at c;change List Int at l;simp only[Xb,N6,F9];refine⟨d, ?_⟩;rintro⟨r,_⟩ _ a;refine⟨trivial, ?_⟩;rintro⟨z,_⟩ _ b;simp only at a b⊢;subst a;rw[b];exact ZC rfl
def MG (x:A2 Ex.args) (s:awf Ex.args x) (o:Ex.pre x):BY x:=by
 obtain⟨⟨b,l⟩,⟨g,k⟩,_⟩:=x;change Bool at b g;change List Int at l k;obtain⟨j,i⟩:E3 l/\E3 k:=o;simp only[BY,iB,N6,F9];refine⟨fun h=> ?_,fun h=> ?_⟩
 . refine⟨⟨j,i⟩, ?_⟩;rintro⟨r,_⟩ _ c;refine⟨trivial, ?_⟩;rintro⟨z,_⟩ _ a;simp only at c a⊢;have h:b=g:=by simpa using h
   subst c h;rw[a];refine ZC ?_;unfold iv;cases b<;>simp<;>omega
 . have h:g= !b:=by cases b<;>cases g<;>simp_all
   subst h;refine⟨⟨j,i⟩, ?_⟩;rintro⟨r,t,_⟩ _ c;simp only at c⊢;refine⟨fun f=>⟨trivial, ?_⟩,fun f=>⟨⟨i,j⟩, ?_⟩⟩
   . rintro⟨z,_⟩ _ a;simp only at a⊢;rcases sE (nv l) (nv k)with d|d
     . rw[(c.1 d).2]at f;exact absurd f (by decide)
     . rw[(c.2 d).1]at a;rw[a];refine ZC ?_;unfold iv;cases b<;>simp<;>omega
   . rintro⟨v,u,_⟩ _ n;refine⟨trivial, ?_⟩;rintro⟨z,_⟩ _ a;simp only at n a⊢;rcases sE (nv l) (nv k)with d|d
     . rw[(n.2 (by omega)).1]at a;rw[a];refine ZC ?_;unfold iv;cases b<;>simp<;>omega
     . rw[(c.2 d).2]at f;exact absurd f (by decide)
def MH (x:A2 Ey.args) (a:awf Ey.args x) (f:Ey.pre x):BZ x:=by
 obtain⟨⟨b,l⟩,⟨c,k⟩,_⟩:=x;change Bool at b c;change List Int at l k;obtain⟨d,a⟩:E3 l/\E3 k:=f;simp only[BZ,N6,F9];refine⟨⟨d,a⟩, ?_⟩;rintro⟨r,_⟩ _ a;refine⟨trivial, ?_⟩;rintro⟨z,_⟩ _ d;simp only at a d⊢;subst a;rw[d];refine ZC ?_;unfold iv;cases b<;>cases c<;>simp<;>grind
def FM:An:= {}
def KL:An:= {plan:= [(3,[1],[4],false,(.p 0 (.q 1 (.p 2 (.or 3 (.e 4 (.p 5 .done)) (.e 4 (.e 3 (.p 5 .done))))))))]}
def OB:An:= {}
def KM:An:= {}
def Zl:An:= {join:= [(4,⟨[0,1,4],[0],[(5,false,vU)],[],[]⟩)],loop:= [(5,⟨[0,1,4,5],[0],[(6,false,vU),(7,false,vU)],[],[]⟩)],plan:= [(6,[],[],true,(pZ9 0 6 .done)),(7,[],[13],true,(pZ9 0 5 (pZ9 7 4 (.e 5 (.p 6 (.e 11 (.p 12 (.e 13 .done))))))))]}
def HZ:An:= {join:= [(8,⟨[2,4],[1],[(1,false,[.val (.sl (.int .u32))])],[(0,41,[.val .bool, .val (.sl (.int .u32))])],[]⟩)]}
def OA:An:= {}
def Lf:A2 L3.args->Prop:=fun(x:C6)=>True/\F9 fun r=>r.1=ic x.1->(r.1,[(1:Int)])=ri x.1
def Qd:A2 Aq.args->Prop:=fun(x:D5)=>let d:=(1:Int);let c:=(0:Nat);let b:Prop:=(nv x.1.2=c->x.1.1=zi/\x.1.2= [d]);let a:Prop:=(nv x.1.2≠c->x.1.1=x.1.1/\x.1.2=x.1.2);True/\Bf fun r=>r.1=Db (nv x.1.2) (nv [])->(iB (decide (r.1=0)) ((nv x.1.2=c->(false,[])=zi/\ [d]= [d])/\(nv x.1.2≠c->(false,[])=x.1.1/\ [d]=x.1.2)) ((b/\a)/\b/\a))
abbrev kB:=(Bool×List Int)×List Int×Unit
def Ul:A2 W0.args->Prop:=fun(x:D5)=>True/\∀(r:kB),pN r.1/\Jp r.2.1/\True->(nv x.1.2=0->r.1=zi/\r.2.1= [(1:Int)])/\(nv x.1.2≠0->r.1=x.1.1/\r.2.1=x.1.2)->True/\Bf fun a=>a.1=(iv r.1).sign->a.1=(rv x.1).num.sign
def Qe:A2 Ar.args->Prop:=fun(x:D5)=>let e:=(0:Int);let c:Prop:=(¬J0 x.1->true=false);let b:=(18446744073709551616:Nat);True/\∀(r:A8n),KA r.1/\True/\True->(nv x.1.1.2<b->r.1=(↑(nv x.1.1.2):Int)/\r.2.1=true)/\(b<=nv x.1.1.2->r.2.1=false)->True/\∀(f:A8n),let d:=(decide (2147483648<=f.1));let a:=(J9 (J9 (!r.2.1) true !f.2.1) true (decide (2147483648<=r.1)));KA f.1/\True/\True->(nv x.1.2<b->f.1=(↑(nv x.1.2):Int)/\f.2.1=true)/\(b<=nv x.1.2->f.2.1=false)->(iB (J9 a true d) ((J0 x.1->e=Sk x.1/\e=Ol x.1/\false=true)/\(¬J0 x.1->false=false)) ((iB (decide (f.1=e)) ((J0 x.1->e=Sk x.1/\(1:Int)=Ol x.1/\true=true)/\c) ((iB x.1.1.1 ((J0 x.1->i64.wrap (-i64.wrap r.1)=Sk x.1/\i64.wrap f.1=Ol x.1/\true=true)/\c) ((J0 x.1->i64.wrap r.1=Sk x.1/\i64.wrap f.1=Ol x.1/\true=true)/\c))))))
def Kg:A2 R1.args->Prop:=fun(x:Cc)=>let a:=(0:Int);∃(J:C6->Prop),((iB (decide (x.1<a)) (J (u64.wrap (-u64.wrap x.1),())) (J (u64.wrap x.1,()))))/\∀(p:C6),(Ty.int u64).wf p.1/\True->J p->∃(I:Cc->Prop),∃(d: _->Nat),I (u64.wrap x.2.1,p)/\∀(c:Cc),let b:=(c.2.1,Int.tmod c.1 c.2.1,());(Ty.int u64).wf c.1/\(Ty.int u64).wf c.2.1/\True->I c->(iB (decide (c.2.1≠a)) (c.2.1≠a/\I b/\d b<d c) (c.1≠a/\c.1≠a/\True/\N6 fun r=>r.1=nc (u64.wrap (Int.tdiv p.1 c.1)).toNat->True/\N6 fun d=>d.1=nc (u64.wrap ((u64.wrap x.2.1).tdiv c.1)).toNat->((decide (x.1<a),r.1),d.1)=rc (mkRat x.1 x.2.1.toNat)))
abbrev C7d:=List Int×Bool×List Int×Unit
def Oh:A2 X5.args->Prop:=fun(x:kB)=>let g:=(0:Nat);let f:=(nv x.2.1);let c:=(1:Int);let b:=(0:Int);Hy x.1.2/\F9 fun r=>let d:=(r.1.2.length:Int);r.1=ic (iv x.1)->Hy x.2.1/\N6 fun k=>k.1=nc f->(iB (decide (d=b)) (((false,[]),[c])=rc (mkRat (iv x.1) f)) ((X7 r.1.2/\X7 k.1)/\N6 fun h=>let e:=(decide (gx b h.1 b≠c));let a:=(h.1.length:Int);h.1=nc ((nv r.1.2).gcd (nv k.1))->∃(J:C7d->Prop),((decide (a≠c)=false->b<=b/\b<a)/\(iB (J9 (decide (a≠c)) true e) (E3 r.1.2/\∀(i:B5f),Jp i.1/\Jp i.2.1/\True/\True->(nv h.1=g->i.1= []/\i.2.1= []/\i.2.2.1=false)/\(nv h.1≠g->i.1=nc (nv r.1.2/nv h.1)/\i.2.1=nc (nv r.1.2%nv h.1)/\i.2.2.1=true)->E3 k.1/\∀(j:B5f),Jp j.1/\Jp j.2.1/\True/\True->(nv h.1=g->j.1= []/\j.2.1= []/\j.2.2.1=false)/\(nv h.1≠g->j.1=nc (nv k.1/nv h.1)/\j.2.1=nc (nv k.1%nv h.1)/\j.2.2.1=true)->J (j.1,r.1.1,i.1,())) (J (k.1,r.1.1,r.1.2,()))))/\∀(p:C7d),(Ty.int u32).sl.wf p.1/\Ty.bool.wf p.2.1/\(Ty.int u32).sl.wf p.2.2.1/\True->J p->((p.2.1,p.2.2.1),p.1)=rc (mkRat (iv x.1) f)))
def I6 (P:QQ×Unit->Prop):Prop:=∀r:QQ×Unit,FD r.1/\True->P r
def Uk:A2 V9.args->Prop:=fun(x:D5)=>True/\∀(r:oY),K4 r.1/\K4 r.2.1/\True/\True->(J0 x.1->r.1=Sk x.1/\r.2.1=Ol x.1/\r.2.2.1=true)/\(¬J0 x.1->r.2.2.1=false)->(iB r.2.2.1 (0<r.2.1/\I6 fun a=>a.1=rc (mkRat r.1 r.2.1.toNat)->a.1=rc (rv x.1)) (True/\∀(r:kB),pN r.1/\Jp r.2.1/\True->(nv x.1.2=0->r.1=zi/\r.2.1= [(1:Int)])/\(nv x.1.2≠0->r.1=x.1.1/\r.2.1=x.1.2)->(nv r.2.1≠0/\X7 r.1.2/\X7 r.2.1)/\I6 fun a=>a.1=rc (mkRat (iv r.1) (nv r.2.1))->a.1=rc (rv x.1)))
def Wn (x:A2 L3.args) (a:awf L3.args x) (_:L3.pre x):Lf x:=by
 obtain⟨v,_⟩:=x;simp only[Lf,F9];refine⟨trivial, ?_⟩;rintro⟨r,_⟩ _ a;simp only at a⊢;rw[a];rfl
def CY (x:A2 Aq.args) (a:awf Aq.args x) (_:Aq.pre x):Qd x:=by
 obtain⟨⟨a,l⟩,_⟩:=x;change List Int at l;simp only[Qd,iB,Bf];refine⟨trivial, ?_⟩;rintro⟨r,_⟩ _ b;simp only at b⊢;rw[jD]at b;refine⟨fun h=> ?_,fun h=> ?_⟩
 . have a:nv l=0:=XL.1 (b▸qA h);exact⟨fun _=>⟨rfl,by trivial⟩,fun h=>absurd a h⟩
 . have a:nv l≠0:=fun e=>(qB h) (by rw[b,e];rfl)
   exact⟨⟨fun h=>absurd h a,fun _=>⟨by trivial,by trivial⟩⟩,fun h=>absurd h a,fun _=>⟨by trivial,by trivial⟩⟩
def GT (x:A2 W0.args) (a:awf W0.args x) (_:W0.pre x):Ul x:=by
 obtain⟨⟨a,l⟩,_⟩:=x;change List Int at l;simp only[Ul,Bf];refine⟨trivial, ?_⟩;rintro⟨r,d,_⟩ _ ⟨a,b⟩;refine⟨trivial, ?_⟩;rintro⟨s,_⟩ _ c;simp only at a b c⊢;rw[c, <-B8l];unfold C3a;split
 . rename_i h;rw[(a h).1];rfl
 . rename_i h;rw[(b h).1]
def CZ (x:A2 Ar.args) (b:awf Ar.args x) (_:Ar.pre x):Qe x:=by
 obtain⟨⟨⟨d,a⟩,l⟩,_⟩:=x;change Bool at d;change List Int at a l;simp only[Qe,iB];refine⟨trivial, ?_⟩;rintro⟨u,c,_⟩ _ ⟨f,n⟩;refine⟨trivial, ?_⟩;rintro⟨v,b,_⟩ _ ⟨g,o⟩;change Int at u v;change Bool at c b;simp only at f n g o⊢;have i:J9 (J9 (J9 (!c) true !b) true (decide (2147483648<=u))) true (decide (2147483648<=v))=(!c|| !b||decide (2147483648<=u) ||decide (2147483648<=v)):=by simp only[I9]
 rw[i];have s:(!c|| !b||decide (2147483648<=u) ||decide (2147483648<=v))=false->J0 ((d,a),l)/\u=(nv a:Int)/\v=(nv l:Int):=fun h=>by
  simp only[rJ,g0t,rQ]at h;obtain⟨⟨⟨j,k⟩,r⟩,t⟩:=h;have r:nv a<18446744073709551616:=by
   rcases sE (nv a) 18446744073709551616 with h|h
   . exact h
   . rw[n h]at j;cases j
  have j:nv l<18446744073709551616:=by
   rcases sE (nv l) 18446744073709551616 with h|h
   . exact h
   . rw[o h]at k;cases k
  have k:=(f r).1;have n:=(g j).1;exact⟨⟨by show nv a< _;omega,by show nv l< _;omega⟩,k,n⟩
 have j:J0 ((d,a),l)->(!c|| !b||decide (2147483648<=u) ||decide (2147483648<=v))=false:=fun h=>by
  obtain⟨b,c⟩:=h;change nv a< _ at b;change nv l< _ at c;obtain⟨k,d⟩:=f (by omega);obtain⟨k,f⟩:=g (by omega);simp only[rJ,g0t,rQ];exact⟨⟨⟨d,f⟩,by omega⟩,by omega⟩
 refine⟨fun h=>⟨fun i=> ?_,fun _=>trivial⟩,fun h=> ?_⟩
 . rw[j i]at h;cases h
 . obtain⟨d,i,g⟩:=s h;have f:=d;obtain⟨b,c⟩:=d;change nv a< _ at b;change nv l< _ at c;refine⟨fun c=> ?_,fun c=>⟨fun d=> ?_,fun d=> ?_⟩⟩
   . have c:=qA c;have b:nv l=0:=by omega
     exact⟨fun _=>⟨by unfold Sk;rw[qQ b],by unfold Ol;rw[qQ b],trivial⟩,fun h=>absurd f h⟩
   . have c:=qB c;have b:nv l≠0:=by omega
     refine⟨fun _=>⟨?_, ?_,trivial⟩,fun h=>absurd f h⟩
     . unfold Sk;rw[qK b,wv (a:=u) (by omega),wv (by omega)];unfold iv;simp only[d,xS];omega
     . unfold Ol;rw[qK b,wv (by omega)];exact g
   . have c:=qB c;have b:nv l≠0:=by omega
     refine⟨fun _=>⟨?_, ?_,trivial⟩,fun h=>absurd f h⟩
     . unfold Sk;rw[qK b,wv (a:=u) (by omega)];unfold iv;simp only[d];simpa using i
     . unfold Ol;rw[qK b,wv (by omega)];exact g
def Um (x:A2 R1.args) (z:awf R1.args x) (E:R1.pre x):Kg x:=by
 obtain⟨n,d,_⟩:=x;change Int at n d;have H:0<d:=E;have c:=(show i64.min<=n/\n<=i64.max from z.1);have hd1:=(show i64.min<=d/\d<=i64.max from z.2.1);rw[Vg,EG]at c hd1;obtain⟨P,Q⟩:=c;have I:=hd1.2;have O:i64.min= -9223372036854775808:=Vg;simp only[Kg,iB,N6];refine⟨fun p=>p.1=(n.natAbs:Int),⟨fun h=> ?_,fun h=> ?_⟩, ?_⟩
 . have h:=qA h;show u64.wrap (-u64.wrap n)= _;rw[Cp,Cp];omega
 . have h:=qB h;show u64.wrap n= _;rw[Cp];omega
 rintro⟨T,_⟩ _ y;simp only at y⊢;subst y;have o:u64.wrap d=d:=X6 (by omega) (by omega);refine⟨fun p=>0<=p.1/\0<=p.2.1/\(p.1≠0\/p.2.1≠0)/\p.1.toNat.gcd p.2.1.toNat=d.toNat.gcd n.natAbs,fun p=>p.2.1.toNat, ?_, ?_⟩
 . refine⟨by omega,by show(0:Int)<=(n.natAbs:Int);omega, .inl (by omega), ?_⟩;rw[o];rfl
 rintro⟨g,t,_⟩ _ ⟨j,a,B,k⟩;change Int at g t;simp only at j a B k⊢;refine⟨fun h=> ?_,fun h=> ?_⟩
 . have h:=qA h;have e:Int.tmod g t=g%t:=tV j;have i:=g2f g h;have J:=zK g (b:=t) (by omega);rw[e];refine⟨h,⟨a,i, .inl h, ?_⟩,by omega⟩;rw[<-k,Int.toNat_emod j a,xA t.toNat, <-g3b,xA]
 . have h:t=0:=by simpa using h
   subst h;have s:g≠0:=by omega
   refine⟨s,s,trivial, ?_⟩;rintro⟨R,_⟩ _ w;refine⟨trivial, ?_⟩;rintro⟨q,_⟩ _ v;simp only at w v⊢;have M:g.toNat=d.toNat.gcd n.natAbs:=by rw[<-k];simp
   have N:0<g:=by omega
   have u:g=((d.toNat.gcd n.natAbs:Nat):Int):=by omega
   obtain⟨c,D⟩:=Pe (x:=n) (d:=d.toNat) (by omega);have A:(u64.wrap (Int.tdiv (n.natAbs:Int) g)).toNat=n.natAbs/d.toNat.gcd n.natAbs:=by
    rw[IntWalk.u64_quo _ _ ⟨by omega,by omega,by omega⟩,u, <-g4m,qJ]
   have i:(u64.wrap (Int.tdiv d g)).toNat=d.toNat/d.toNat.gcd n.natAbs:=by
    rw[IntWalk.u64_quo _ _ ⟨by omega,by omega,by omega⟩,u]
    conv=>lhs;rw[show d=((d.toNat:Nat):Int)from by omega]
    rw[<-g4m,qJ];simp only[qJ]
   rw[w,v,o,A,i];unfold rc;rw[c,D];unfold ic;have r:((d.toNat.gcd n.natAbs:Nat):Int)∣n:=yA.2 (yQ ..);have l:0<d.toNat.gcd n.natAbs:=by omega
   generalize d.toNat.gcd n.natAbs=G at r l;obtain⟨f,rfl⟩:=r;rw[xU _ (by omega)];have F:(G:Int)*f<0↔f<0:=by
    constructor
    . intro h;rcases g4c f 0 with a|a
      . exact a
      . have:=tJ (xM (sP.2 l)) a;omega
    . intro h;exact yZ (by omega) h
   rw[vS,uH,xY _ l];simp only[F]
def Vm (x:D7):mkRat (Sk x) (Ol x).toNat=rv x:=by
 unfold Sk Ol rv;split
 . rename_i h;rw[h,yX];rfl
 . rename_i h;rw[qJ]
def B3m (x:D7):0<Ol x:=by
 unfold Ol;split
 . decide
 . omega
def Ze (x:A2 X5.args) (a:awf X5.args x) (f:X5.pre x):Oh x:=by
 obtain⟨⟨b,l⟩,k,_⟩:=x;have d:A7 l:=A3 a.1.2.2;have c:A7 k:=A3 a.2.1.2;change Bool at b;change List Int at l k;obtain⟨j,g,a⟩:nv k≠0/\l.length<=8796093022208/\k.length<=8796093022208:=f;simp only[Oh,iB,N6,F9];have o:=C9 d;have h:=C9 c;refine⟨by show l.length<=35184372088832;omega, ?_⟩;rintro⟨⟨t,r⟩,_⟩ _ f;refine⟨by show k.length<=35184372088832;omega, ?_⟩;rintro⟨d,_⟩ _ c;simp only at f c⊢;have u:t=decide (iv (b,l)<0):=tR (·.1) f;have a:r=nc (iv (b,l)).natAbs:=tR (·.2) f;have g:(iv (b,l)).natAbs=nv l:=I8 _;have i:nv r=(iv (b,l)).natAbs:=by rw[a,E9]
 have n:nv d=nv k:=by rw[c,E9]
 have s:r.length<=l.length:=by rw[a,g];exact o
 have a:d.length<=k.length:=by rw[c];exact h
 refine⟨fun h=> ?_,fun h=> ?_⟩
 . have h:=qA h;have a:r= []:=qR (by omega);rw[a,jD]at i;have:iv (b,l)=0:=Int.natAbs_eq_zero.1 i.symm;rw[this,Rat.zero_mkRat,A5b]
 have h:=qB h;refine⟨⟨by omega,by omega⟩, ?_⟩;rintro⟨g,_⟩ _ a;simp only at a⊢;rw[i,n]at a;have h:Nat.gcd (iv (b,l)).natAbs (nv k)≠0:=Nat.ne_of_gt (g1k _ (sU j));have h:nv g=Nat.gcd (iv (b,l)).natAbs (nv k):=by rw[a,E9]
 refine⟨fun p=>((p.2.1,p.2.2.1),p.1)=rc (mkRat (iv (b,l)) (nv k)),⟨fun a=> ?_,fun a=> ?_,fun a=> ?_⟩, ?_⟩
 . have a:=qB a;exact⟨qI _,by omega⟩
 . refine⟨by show r.length<= _;omega, ?_⟩;rintro⟨q,m,s,_⟩ _ o;refine⟨by show d.length<= _;omega, ?_⟩;rintro⟨y,v,w,_⟩ _ s;simp only at o s⊢;rw[jS j,(o.2 (by omega)).1,(s.2 (by omega)).1,i,n,h,u]
 . have a:g.length=1/\gx 0 g 0=1:=by
    rw[I9]at a;simp only[rJ,rQ]at a;omega
   obtain⟨z,rfl⟩:∃z,g= [z]:=g2c.1 a.1;have g:z=1:=a.2;subst g;have a:Nat.gcd (iv (b,l)).natAbs (nv k)=1:=by rw[<-h];rfl
   rw[B8h j a];show((t,r),d)= _;rw[c, <-f]
 . rintro⟨b,d,c,_⟩ _ a;exact a
def GR (x:A2 V9.args) (b:awf V9.args x) (a:V9.pre x):Uk x:=by
 obtain⟨q,_⟩:=x;change D7 at q;obtain⟨f,g⟩:q.1.2.length<=2199023255552/\q.2.length<=2199023255552:=a;simp only[Uk,iB,I6];refine⟨trivial, ?_⟩;rintro⟨n,d,c,_⟩ _ ⟨a,b⟩;change Int at n d;simp only at a b⊢;refine⟨fun h=> ?_,fun h=>⟨trivial, ?_⟩⟩
 . have c:J0 q:=qV fun hn=>by rw[b hn]at h;cases h
   obtain⟨rfl,rfl,_⟩:=a c;refine⟨B3m q, ?_⟩;rintro⟨r,_⟩ _ a;simp only at a⊢;rw[a,Vm]
 . rintro⟨i,c,_⟩ _ b;simp only at b⊢;obtain⟨d,h⟩:=Nb b;obtain⟨j,l⟩:=Iz (k:=2199023255552) b f g (by decide);refine⟨⟨d,by show i.2.length<= _;omega,by show c.length<= _;omega⟩, ?_⟩;rintro⟨r,_⟩ _ a;simp only at a⊢;rw[a,h]
def SX:An:= {plan:= [(13,[0,4],[10],true,(.q 0 (.p 1 (.p 2 (.q 4 (.p 5 (.p 6 (.or 3 (.or 7 (.or 8 (.e 9 (.e 10 .done)) (.e 9 (.e 8 (.e 10 .done)))) (.e 9 (.e 7 (.e 8 (.e 10 .done))))) (.e 9 (.e 3 (.e 7 (.e 8 (.e 10 .done))))))))))))),(14,[0],[5],true,(.q 0 (.p 1 (.p 2 (.e 3 (.e 4 (.e 5 .done)))))))]}
def TC:An:= {}
def TA:An:= {}
def TB:An:= {}
def FL:An:= {plan:= [(1,[0,2],[],true,(.q 0 (.q 2 (.e 1 (.e 3 (.p 4 (.p 5 .done))))))),(10,[0,4],[],true,(.q 0 (.p 1 (.p 2 (.q 4 (.p 5 (.p 6 (.e 3 (.e 7 (.e 8 (.p 9 .done)))))))))))]}
def SZ:An:= {}
def SY:An:= {}
def Xh:A2 Dn.args->Prop:=fun(x:Cs)=>let g:=(0:Int);let e:=(0:Nat);let a:=(rv x.1+rv x.2.1);True/\Bf fun r=>r.1=(rv x.1).num.sign->(iB (decide (r.1=g)) (E6 x.2.1/\I6 fun r=>r.1=rc (rv x.2.1)->r.1=rc a) (True/\Bf fun r=>r.1=(rv x.2.1).num.sign->(iB (decide (r.1=g)) (E6 x.1/\I6 fun r=>r.1=rc (rv x.1)->r.1=rc a) (True/\∀(r:oY),K4 r.1/\K4 r.2.1/\True/\True->(J0 x.1->r.1=Sk x.1/\r.2.1=Ol x.1/\r.2.2.1=true)/\(¬J0 x.1->r.2.2.1=false)->True/\∀(q:oY),K4 q.1/\K4 q.2.1/\True/\True->(J0 x.2.1->q.1=Sk x.2.1/\q.2.1=Ol x.2.1/\q.2.2.1=true)/\(¬J0 x.2.1->q.2.2.1=false)->(iB (J9 r.2.2.1 q.2.2.1 false) (g<i64.wrap (r.2.1*q.2.1)/\I6 fun m=>m.1=rc (mkRat (i64.wrap (i64.wrap (r.1*q.2.1)+i64.wrap (q.1*r.2.1))) (i64.wrap (r.2.1*q.2.1)).toNat)->m.1=rc a) (True/\∀(r:kB),pN r.1/\Jp r.2.1/\True->(nv x.1.2=e->r.1=zi/\r.2.1= [(1:Int)])/\(nv x.1.2≠e->r.1=x.1.1/\r.2.1=x.1.2)->True/\∀(m:kB),let j:Prop:=(E3 r.1.2/\E3 m.2.1);let h:=(iv r.1*iv (false,m.2.1));let f:Prop:=(E3 m.1.2/\E3 r.2.1);let d:=(iv m.1*iv (false,r.2.1));let c:=(nv r.2.1*nv m.2.1);let b:Prop:=(E3 r.2.1/\E3 m.2.1);pN m.1/\Jp m.2.1/\True->(nv x.2.1.2=e->m.1=zi/\m.2.1= [(1:Int)])/\(nv x.2.1.2≠e->m.1=x.2.1.1/\m.2.1=x.2.1.2)->True/\Bf fun s=>s.1=Db (nv r.2.1) (nv m.2.1)->(iB (decide (s.1=g)) ((E3 r.1.2/\E3 m.1.2)/\F9 fun p=>p.1=ic (iv r.1+iv m.1)->(nv r.2.1≠e/\X7 p.1.2/\X7 r.2.1)/\I6 fun o=>o.1=rc (mkRat (iv p.1) (nv r.2.1))->o.1=rc a) ((j/\F9 fun p=>p.1=ic h->(f/\F9 fun o=>let k:=(iv p.1+iv o.1);let i:Prop:=(E3 p.1.2/\E3 o.1.2);o.1=ic d->(i/\F9 fun n=>n.1=ic k->b/\N6 fun l=>l.1=nc c->(nv l.1≠e/\X7 n.1.2/\X7 l.1)/\I6 fun r=>r.1=rc (mkRat (iv n.1) (nv l.1))->r.1=rc a)/\i/\F9 fun n=>n.1=ic k->b/\N6 fun l=>l.1=nc c->(nv l.1≠e/\X7 n.1.2/\X7 l.1)/\I6 fun r=>r.1=rc (mkRat (iv n.1) (nv l.1))->r.1=rc a)/\f/\F9 fun o=>o.1=ic d->(E3 p.1.2/\E3 o.1.2)/\F9 fun n=>n.1=ic (iv p.1+iv o.1)->b/\N6 fun l=>l.1=nc c->(nv l.1≠e/\X7 n.1.2/\X7 l.1)/\I6 fun r=>r.1=rc (mkRat (iv n.1) (nv l.1))->r.1=rc a)/\j/\F9 fun p=>p.1=ic h->f/\F9 fun o=>o.1=ic d->(E3 p.1.2/\E3 o.1.2)/\F9 fun n=>n.1=ic (iv p.1+iv o.1)->b/\N6 fun l=>l.1=nc c->(nv l.1≠e/\X7 n.1.2/\X7 l.1)/\I6 fun r=>r.1=rc (mkRat (iv n.1) (nv l.1))->r.1=rc a))))))))
def Xn:A2 Ap.args->Prop:=fun(x:Cs)=>let a:=((!x.2.1.1.1,x.2.1.1.2),x.2.1.2);(E6 x.1/\E6 a)/\I6 fun r=>r.1=rc (rv x.1+rv a)->r.1=rc (rv x.1-rv x.2.1)
def Xk:A2 U8.args->Prop:=fun(x:Cs)=>let b:=(rv x.1*rv x.2.1);let a:=(0:Nat);True/\∀(r:oY),K4 r.1/\K4 r.2.1/\True/\True->(J0 x.1->r.1=Sk x.1/\r.2.1=Ol x.1/\r.2.2.1=true)/\(¬J0 x.1->r.2.2.1=false)->True/\∀(d:oY),K4 d.1/\K4 d.2.1/\True/\True->(J0 x.2.1->d.1=Sk x.2.1/\d.2.1=Ol x.2.1/\d.2.2.1=true)/\(¬J0 x.2.1->d.2.2.1=false)->(iB (J9 r.2.2.1 d.2.2.1 false) ((0:Int)<i64.wrap (r.2.1*d.2.1)/\I6 fun c=>c.1=rc (mkRat (i64.wrap (r.1*d.1)) (i64.wrap (r.2.1*d.2.1)).toNat)->c.1=rc b) (True/\∀(r:kB),pN r.1/\Jp r.2.1/\True->(nv x.1.2=a->r.1=zi/\r.2.1= [(1:Int)])/\(nv x.1.2≠a->r.1=x.1.1/\r.2.1=x.1.2)->True/\∀(c:kB),pN c.1/\Jp c.2.1/\True->(nv x.2.1.2=a->c.1=zi/\c.2.1= [(1:Int)])/\(nv x.2.1.2≠a->c.1=x.2.1.1/\c.2.1=x.2.1.2)->(E3 r.1.2/\E3 c.1.2)/\F9 fun f=>f.1=ic (iv r.1*iv c.1)->(E3 r.2.1/\E3 c.2.1)/\N6 fun e=>e.1=nc (nv r.2.1*nv c.2.1)->(nv e.1≠a/\X7 f.1.2/\X7 e.1)/\I6 fun r=>r.1=rc (mkRat (iv f.1) (nv e.1))->r.1=rc b))
def Xm:A2 Ao.args->Prop:=fun(x:D5)=>E6 x.1/\I6 fun r=>r.1=rc (rv x.1)->Hy r.1.1.2/\F9 fun a=>a.1=ic (-iv r.1.1)->(a.1,r.1.2)=rc (-rv x.1)
def Le:A2 U7.args->Prop:=fun(x:Cs)=>let c:=(0:Nat);let b:=(rv x.1);let a:=(rv x.2.1);True/\Bf fun r=>r.1=b.num.sign->True/\Bf fun f=>f.1=a.num.sign->(iB (decide (r.1≠f.1)) (True/\Bf fun e=>e.1=K6 r.1 f.1->e.1=Zw b a) (True/\∀(r:oY),K4 r.1/\K4 r.2.1/\True/\True->(J0 x.1->r.1=Sk x.1/\r.2.1=Ol x.1/\r.2.2.1=true)/\(¬J0 x.1->r.2.2.1=false)->True/\∀(e:oY),K4 e.1/\K4 e.2.1/\True/\True->(J0 x.2.1->e.1=Sk x.2.1/\e.2.1=Ol x.2.1/\e.2.2.1=true)/\(¬J0 x.2.1->e.2.2.1=false)->(iB (J9 r.2.2.1 e.2.2.1 false) (True/\Bf fun d=>d.1=K6 (i64.wrap (r.1*e.2.1)) (i64.wrap (e.1*r.2.1))->d.1=Zw b a) (True/\∀(r:kB),pN r.1/\Jp r.2.1/\True->(nv x.1.2=c->r.1=zi/\r.2.1= [(1:Int)])/\(nv x.1.2≠c->r.1=x.1.1/\r.2.1=x.1.2)->True/\∀(d:kB),pN d.1/\Jp d.2.1/\True->(nv x.2.1.2=c->d.1=zi/\d.2.1= [(1:Int)])/\(nv x.2.1.2≠c->d.1=x.2.1.1/\d.2.1=x.2.1.2)->(E3 r.1.2/\E3 d.2.1)/\F9 fun g=>g.1=ic (iv r.1*iv (false,d.2.1))->(E3 d.1.2/\E3 r.2.1)/\F9 fun h=>h.1=ic (iv d.1*iv (false,r.2.1))->True/\Bf fun r=>r.1=K6 (iv g.1) (iv h.1)->r.1=Zw b a))))
def Xj:A2 Am.args->Prop:=fun(x:D5)=>let a:=(rv x.1);True/\Bf fun r=>r.1=a.num.sign->(iB (decide (r.1=0)) ((rv x.1=(0:Rat)->false=false)/\(rv x.1≠(0:Rat)->dQ=rc a⁻¹/\false=true)) (E6 x.1/\I6 fun r=>r.1=rc a->(rv x.1=(0:Rat)->true=false)/\(rv x.1≠(0:Rat)->((r.1.1.1,r.1.2),r.1.1.2)=rc a⁻¹/\true=true)))
def Xi:A2 Dp.args->Prop:=fun(x:Cs)=>let b:=(rv x.1/rv x.2.1);let a:=((x.2.1.1.1,x.2.1.2),x.2.1.1.2);True/\Bf fun r=>r.1=(rv x.2.1).num.sign->(iB (decide (r.1=0)) ((rv x.2.1=(0:Rat)->false=false)/\(rv x.2.1≠(0:Rat)->dQ=rc b/\false=true)) ((E6 x.1/\E6 a)/\I6 fun r=>r.1=rc (rv x.1*rv a)->(rv x.2.1=(0:Rat)->true=false)/\(rv x.2.1≠(0:Rat)->r.1=rc b/\true=true)))
def HG {q:Rat} (h:q.num.sign=0):q=0:=yF.1 (zA.1 h)
def Mh {x:D7} (h:J0 x): -2147483647<=Sk x/\Sk x<=2147483647/\0<Ol x/\Ol x<=2147483647:=by
 obtain⟨a,b⟩:=h;have:=I8 x.1;unfold Sk Ol;split
 . omega
 . omega
def Sg {a b M N:Int} (f: -M<=a) (d:a<=M) (c:0<=b) (g:b<=N): -(M*N)<=a*b/\a*b<=M*N:=by
 have h:0<=M:=by omega
 have i:M*b<=M*N:=tU g h;have g:a*b<=M*b:=sH d c;have d: -M*b<=a*b:=sH f c;rw[Int.neg_mul]at d;omega
def A8e {a b c d:Int} (h: -2147483647<=a/\a<=2147483647) (i: -2147483647<=b/\b<=2147483647) (g:0<c/\c<=2147483647) (f:0<d/\d<=2147483647):
 i64.wrap (c*d)=c*d/\0<c*d/\i64.wrap (i64.wrap (a*d)+i64.wrap (b*c))=a*d+b*c:=by
 have j:=Sg h.1 h.2 (xM f.1) f.2;have h:=Sg i.1 i.2 (xM g.1) g.2;have h:=Sg (a:=c) (b:=d) (M:=2147483647) (by omega) g.2 (xM f.1) f.2;have h:0<c*d:=Int.mul_pos g.1 f.1;rw[wv (a:=c*d) (by omega),wv (a:=a*d) (by omega),wv (a:=b*c) (by omega),wv (by omega)];exact⟨rfl,h,rfl⟩
def JP (x:A2 Dn.args) (o:awf Dn.args x) (a9:Dn.pre x):Xh x:=by
 obtain⟨p,q,_⟩:=x;have ay:A7 p.1.2:=A3 o.1.1.2.2;have az:A7 p.2:=A3 o.1.2.2;have b0:A7 q.1.2:=A3 o.2.1.1.2.2;have b1:A7 q.2:=A3 o.2.1.2.2;change D7 at p q;obtain⟨aa,ab⟩:E6 p/\E6 q:=a9;obtain⟨O,P⟩:=aa;obtain⟨Q,R⟩:=ab;simp only[Xh,iB,N6,Bf,F9,I6];refine⟨trivial, ?_⟩;rintro⟨b2,_⟩ _ T;simp only at T⊢;refine⟨fun h=>⟨⟨Q,R⟩, ?_⟩,fun h=>⟨trivial, ?_⟩⟩
 . rintro⟨r,_⟩ _ f;simp only at f⊢;rw[T]at h;rw[f,HG (qA h),tH]
 rintro⟨b3,_⟩ _ U;simp only at U⊢;refine⟨fun h=>⟨⟨O,P⟩, ?_⟩,fun h=>⟨trivial, ?_⟩⟩
 . rintro⟨r,_⟩ _ f;simp only at f⊢;rw[U]at h;rw[f,HG (qA h),rN]
 rintro⟨F,E,ar,_⟩ _ ⟨B,D⟩;refine⟨trivial, ?_⟩;rintro⟨J,I,au,_⟩ _ ⟨G,H⟩;change Int at F E J I;simp only at B D G H⊢;refine⟨fun h=> ?_,fun _=>⟨trivial, ?_⟩⟩
 . rw[K7,qC]at h;have Y:J0 p:=qV fun hn=>by have:=D hn;rw[this]at h;exact absurd h.1 (by decide)
   have Z:J0 q:=qV fun hn=>by have:=H hn;rw[this]at h;exact absurd h.2 (by decide)
   obtain⟨a2,a4,_⟩:=B Y;obtain⟨a3,a5,_⟩:=G Z;obtain⟨a0,a1,b4,b5⟩:=Mh Y;obtain⟨b6,b7,b8,b9⟩:=Mh Z;obtain⟨an,ao,ap⟩:=A8e (a:=F) (b:=J) (c:=E) (d:=I) (by omega) (by omega) (by omega) (by omega);rw[an,ap];refine⟨ao, ?_⟩;rintro⟨r,_⟩ _ f;simp only at f⊢;rw[f, <-Vm p, <-Vm q, <-a2, <-a4, <-a3, <-a5,OX (by omega) (by omega),sN (by omega),sN (by omega),g3p (by omega) (by omega)]
 . rintro⟨n,d,_⟩ ⟨af,ac,_⟩ w;refine⟨trivial, ?_⟩;rintro⟨m,e,_⟩ ⟨ae,ad,_⟩ z;have X:A7 n.2:=A3 af.2.2;have V:A7 d:=A3 ac.2;have W:A7 m.2:=A3 ae.2.2;have le:A7 e:=A3 ad.2;refine⟨trivial, ?_⟩;rintro⟨c,_⟩ _ N;change Lj at n m;change List Int at d e;simp only at w z N⊢;obtain⟨j,a6⟩:=Nb w;obtain⟨M,a7⟩:=Nb z;obtain⟨ak,av⟩:=Iz (k:=2199023255552) w O P (by decide);obtain⟨aj,aw⟩:=Iz (k:=2199023255552) z Q R (by decide);rw[a6,a7];refine⟨fun h=> ?_,fun h=> ?_⟩
   . have h:=qA h;have a8:nv d=nv e:=XL.1 (N▸h);refine⟨⟨by show n.2.length<= _;omega,by show m.2.length<= _;omega⟩, ?_⟩;rintro⟨u,_⟩ _ g;simp only at g⊢;have ag:=WS (x:=n) (y:=m) X W ak aj;refine⟨⟨j,by show u.2.length<= _;rw[g];omega,by show d.length<= _;omega⟩, ?_⟩;rintro⟨r,_⟩ _ f;simp only at f⊢;rw[f,g,R9, <-a8,A1m j]
   . --the general case:the same four times
     have a0:=IG (x:=n) (y:=(false,e)) X le;have a1:=IG (x:=m) (y:=(false,d)) W V;have t:E3 n.2/\E3 e:=⟨by show n.2.length<= _;omega,by show e.length<= _;omega⟩;have l:E3 m.2/\E3 d:=⟨by show m.2.length<= _;omega,by show d.length<= _;omega⟩;have fin:∀u v:Lj,u=ic (iv n*iv (false,e))->v=ic (iv m*iv (false,d))->(E3 u.2/\E3 v.2)/\∀(r_6:(Bool×List Int)×Unit),pN r_6.1/\True->r_6.1=ic (iv u+iv v)->(E3 d/\E3 e)/\∀(r_7:List Int×Unit),Jp r_7.1/\True->r_7.1=nc (nv d*nv e)->(nv r_7.1≠(0:Nat)/\X7 r_6.1.2/\X7 r_7.1)/\∀(r:QQ×Unit),FD r.1/\True->r.1=rc (mkRat (iv r_6.1) (nv r_7.1))->r.1=rc (mkRat (iv n) (nv d)+mkRat (iv m) (nv e)):=by
      intro u v g i;have ah:u.2.length<=4398046511104:=by
       rw[g];refine qX a0 ?_;show n.2.length+e.length<= _;omega
      have ai:v.2.length<=4398046511104:=by
       rw[i];refine qX a1 ?_;show m.2.length+d.length<= _;omega
      refine⟨⟨by show u.2.length<= _;omega,by show v.2.length<= _;omega⟩, ?_⟩;rintro⟨am,_⟩ _ A;refine⟨⟨l.2,t.2⟩, ?_⟩;rintro⟨aq,_⟩ _ s;simp only at A s⊢;have ag:=WS (x:=u) (y:=v) (by rw[g];exact mV _) (by rw[i];exact mV _) ah ai;have ax:=IM V le;refine⟨⟨by rw[s,E9];exact zJ j M,by show am.2.length<= _;rw[A];omega,by show aq.length<= _;rw[s];omega⟩, ?_⟩;rintro⟨r,_⟩ _ f;simp only at f⊢;rw[f,A,s,E9,R9,g,i,R9,R9,Kp,Kp,OX j M]
     exact⟨⟨t,fun u _ g=>⟨⟨l,fun v _ i=>⟨fin _ _ g i,fin _ _ g i⟩⟩,l,fun v _ i=>fin _ _ g i⟩⟩,t,fun u _ g=>⟨l,fun v _ i=>fin _ _ g i⟩⟩
def kX:An:= {loop:= [(2,⟨[0],[],[(3,false,vI)],[],[]⟩)]}
def fQ:An:= {loop:= [(4,⟨[0,1],[],[(5,false,vI)],[],[]⟩)],plan:= [(6,[3,7],[],true,(pZ9 0 3 (.q 3 (pZ9 4 3 (.q 7 (.p 8 .done))))))]}
def KJ:An:= {}
def pT:An:= {join:= [(8,⟨[0,1,5,7],[0],[(6,false,vU)],[],[]⟩),(10,⟨[0,1,5,7],[0],[(6,false,vU)],[],[]⟩)],loop:= [(4,⟨[0,1,5],[],[(6,false,vU),(7,false,vI)],[],[(0, .row (.int .u32) 103)]⟩)]}
def pW:An:= {join:= [(12,⟨[0,1,6,8],[0],[(9,false,vU)],[],[]⟩),(17,⟨[0,1,6,8,9],[0],[(7,false,vU),(10,false,vU)],[],[]⟩)],loop:= [(7,⟨[0,1,6],[],[(7,false,vU),(8,false,vI)],[],[(0, .row (.int .u32) 103)]⟩)]}
def VE:An:= {loop:= [(7,⟨[0,1],[],[(5,false,vI)],[],[]⟩)],plan:= [(9,[3,7],[],true,(pZ9 0 3 (.q 3 (pZ9 4 3 (.q 7 (.p 8 .done)))))),(11,[3,7],[],true,(pZ9 0 3 (.q 3 (pZ9 4 3 (.q 7 (.p 8 .done))))))]}
def pV:An:= {loop:= [(7,⟨[0,1,5,6],[],[(7,false,vU),(8,false,vI)],[],[(0, .row (.int .u32) 103)]⟩),(3,⟨[0,1,5],[],[(6,false,vI)],[],[(0, .row (.int .u32) 103)]⟩)],plan:= [(9,[6,11,16],[],true,(pZ9 0 6 (.q 6 (pZ9 7 4 (.q 11 (pZ9 12 4 (.q 16 (pZ9 17 5 .done))))))))]}
def aY:An:= {loop:= [(6,⟨[0],[],[(4,false,vU),(5,false,vI)],[],[]⟩)]}
def RV:A2 Nm.args->Prop:=fun(x:Kv)=>let f:=(1:Int);let c:=(x.1.length:Int);let a:=(0:Int);let g:=a.toNat;∃(I:C6->Prop),∃(b: _->Nat),I (c,())/\∀(p:C6),let e:=p.1.toNat;let d:=(i64.wrap (p.1-f),());let h:=(decide (gx a x.1 (i64.wrap (p.1-f))=a));(Ty.int i64).wf p.1/\True->I p->(decide (a<p.1)=true->a<=i64.wrap (p.1-f)/\i64.wrap (p.1-f)<c)/\(iB (J9 (decide (a<p.1)) h false) (I d/\b d<b p) ((a<=a/\a<=p.1/\p.1<=c)/\(((0:Nat)+(List.drop g (List.take e x.1)).length)*(4:Nat)<=(140737488355328:Nat)/\(0:Nat)+(List.drop g (List.take e x.1)).length<=9223372036854775807)/\List.drop g (List.take e x.1)=nc (nv x.1)))
def MV:A2 Jw.args->Prop:=fun(x:Fp)=>let f:Prop:=(x.1=x.2.1);let e:=(0:Int);let b:=(x.2.1.length:Int);let a:=(x.1.length:Int);(iB (decide (a≠b)) (false=decide f) (∃(I:C6->Prop),∃(c: _->Nat),I (e,())/\∀(p:C6),let d:=(i64.wrap (p.1+1),());let g:Prop:=(gx e x.1 p.1≠gx e x.2.1 p.1);(Ty.int i64).wf p.1/\True->I p->(iB (decide (p.1<a)) ((e<=p.1/\p.1<a)/\(e<=p.1/\p.1<b)/\(iB (decide g) (false=decide f) (I d/\c d<c p))) (true=decide f))))
def Qc:A2 Al.args->Prop:=fun(x:C6)=>let a:=((32:Int).toNat);(0:(Ty.int u64).den)<=(32:Int)/\Hy [u32.wrap x.1,u32.wrap (Int.fdiv x.1 ((2:Int)^Min.min a u64.bits))]/\N6 fun r=>r.1=nc (nv [u32.wrap x.1,u32.wrap (Int.fdiv x.1 ((2:Int)^Min.min a u64.bits))])->r.1=nc x.1.toNat
def ZP:A2 Sx.args->Prop:=fun(x:Fp)=>let f:=(1:Int);let e:=(0:Int);let b:=(x.1.length:Int);let a:=(x.2.1.length:Int);(e<=i64.wrap (Max.max b a+f)/\i64.wrap (Max.max b a+f)<=i64.wrap (Max.max b a+f)/\(↑(4:Nat):Int)*i64.wrap (Max.max b a+f)<=(281474976710656:Int)/\i64.wrap (Max.max b a+f)<=(9223372036854775807:Int))/\∃(I:Tz->Prop),∃(i: _->Nat),I (e,e,List.replicate (i64.wrap (Max.max b a+f)).toNat e,())/\∀(p:Tz),let d:=(p.2.2.1.length:Int);(Ty.int u64).wf p.1/\(Ty.int i64).wf p.2.1/\Jp p.2.2.1/\True->I p->(iB (decide (p.2.1<d)) (∃(J:C6->Prop),((iB (decide (p.2.1<b)) ((e<=p.2.1/\p.2.1<b)/\J (u64.wrap (p.1+u64.wrap (gx e x.1 p.2.1)),())) (J (p.1,()))))/\∀(g:C6),(Ty.int u64).wf g.1/\True->J g->∃(J:C6->Prop),((iB (decide (p.2.1<a)) ((e<=p.2.1/\p.2.1<a)/\J (u64.wrap (g.1+u64.wrap (gx e x.2.1 p.2.1)),())) (J g)))/\∀(h:C6),let c:=(Int.fdiv h.1 ((2:Int)^Min.min ((32:Int).toNat) u64.bits),i64.wrap (p.2.1+f),List.set p.2.2.1 p.2.1.toNat (u32.wrap h.1),());(Ty.int u64).wf h.1/\True->J h->(e<=p.2.1/\p.2.1<d)/\(0:(Ty.int u64).den)<=(32:Int)/\I c/\i c<i p) (Hy p.2.2.1/\N6 fun r=>r.1=nc (nv p.2.2.1)->r.1=nc (nv x.1+nv x.2.1)))
def ZT:A2 Ta.args->Prop:=fun(x:Fp)=>let f:=(nv x.1-nv x.2.1);let c:=(0:Int);(E3 x.1/\E3 x.2.1)/\Bf fun r=>r.1=Db (nv x.1) (nv x.2.1)->(iB (decide (r.1<c)) ((nv x.1<nv x.2.1->Dc Int= []/\false=false)/\(nv x.2.1<=nv x.1->Dc Int=nc f/\false=true)) (Hy x.1/\N6 fun r=>let a:=(r.1.length:Int);r.1=nc (nv x.1)->Hy x.2.1/\N6 fun j=>let e:=(j.1.length:Int);j.1=nc (nv x.2.1)->(c<=a/\a<=a/\(↑(4:Nat):Int)*a<=(281474976710656:Int)/\a<=(9223372036854775807:Int))/\∃(I:Tz->Prop),∃(g: _->Nat),I (c,c,List.replicate a.toNat c,())/\∀(p:Tz),let d:=(gx c r.1 p.2.1);(Ty.int u64).wf p.1/\(Ty.int i64).wf p.2.1/\Jp p.2.2.1/\True->I p->(iB (decide (p.2.1<a)) (∃(J:C6->Prop),((iB (decide (p.2.1<e)) ((c<=p.2.1/\p.2.1<e)/\J (u64.wrap (p.1+u64.wrap (gx c j.1 p.2.1)),())) (J (p.1,()))))/\∀(i:C6),let k:Prop:=(u64.wrap d<i.1);(Ty.int u64).wf i.1/\True->J i->(c<=p.2.1/\p.2.1<a)/\∃(J:Cc->Prop),((iB (decide k) (J ((1:Int),u64.wrap (u64.wrap d+(4294967296:Int)),())) (J (c,u64.wrap d,()))))/\∀(h:Cc),let b:=(h.1,i64.wrap (p.2.1+1),List.set p.2.2.1 p.2.1.toNat (u32.wrap (u64.wrap (h.2.1-i.1))),());(Ty.int u64).wf h.1/\(Ty.int u64).wf h.2.1/\True->J h->(c<=p.2.1/\p.2.1<(p.2.2.1.length:Int))/\I b/\g b<g p) (Hy p.2.2.1/\N6 fun r=>r.1=nc (nv p.2.2.1)->(nv x.1<nv x.2.1->r.1= []/\true=false)/\(nv x.2.1<=nv x.1->r.1=nc f/\true=true)))))
def CP:A2 Ff.args->Prop:=fun(x:Fp)=>let i:=(1:Int);let e:=(nv x.1);let d:=(nv x.2.1);let c:=(0:Int);Hy x.1/\N6 fun r=>let a:=(r.1.length:Int);r.1=nc e->Hy x.2.1/\N6 fun j=>let b:=(j.1.length:Int);j.1=nc d->(iB (decide (a≠b)) ((iB (decide (a<b)) ((-1:Int)=Db e d) (i=Db e d))) (∃(I:C6->Prop),∃(g: _->Nat),I (i64.wrap (a-i),())/\∀(p:C6),let k:Prop:=(gx c j.1 p.1<gx c r.1 p.1);let h:Prop:=(gx c r.1 p.1<gx c j.1 p.1);let f:=(i64.wrap (p.1-i),());(Ty.int i64).wf p.1/\True->I p->(iB (decide (c<=p.1)) ((c<=p.1/\p.1<a)/\(c<=p.1/\p.1<b)/\(iB (decide h) ((-1:Int)=Db e d) ((c<=p.1/\p.1<a)/\(c<=p.1/\p.1<b)/\(iB (decide k) (i=Db e d) (I f/\g f<g p))))) (c=Db e d))))
def ZS:A2 Sz.args->Prop:=fun(x:Fp)=>let g:=(0:Int);let c:=(x.1.length:Int);let b:=(x.2.1.length:Int);(g<=i64.wrap (c+b)/\i64.wrap (c+b)<=i64.wrap (c+b)/\(↑(4:Nat):Int)*i64.wrap (c+b)<=(281474976710656:Int)/\i64.wrap (c+b)<=(9223372036854775807:Int))/\∃(I:JE->Prop),∃(k: _->Nat),I (g,List.replicate (i64.wrap (c+b)).toNat g,())/\∀(p:JE),(Ty.int i64).wf p.1/\Jp p.2.1/\True->I p->(iB (decide (p.1<c)) (∃(I_1:Tz->Prop),∃(l: _->Nat),I_1 (g,g,p.2.1,())/\∀(j:Tz),let i:=(i64.wrap (p.1+j.2.1));let h:=(j.2.2.1.length:Int);let f:=(i64.wrap (p.1+1),List.set j.2.2.1 (i64.wrap (p.1+b)).toNat (u32.wrap j.1),());let e:Prop:=(g<=i64.wrap (p.1+j.2.1)/\i64.wrap (p.1+j.2.1)<h);let a:=(u64.wrap (j.1+u64.wrap (u64.wrap (List.getD j.2.2.1 i.toNat g)+u64.wrap (u64.wrap (gx g x.1 p.1)*u64.wrap (gx g x.2.1 j.2.1)))));let d:=(a.fdiv ((2:Int)^Min.min ((32:Int).toNat) u64.bits),i64.wrap (j.2.1+1),List.set j.2.2.1 i.toNat (u32.wrap a),());(Ty.int u64).wf j.1/\(Ty.int i64).wf j.2.1/\Jp j.2.2.1/\True->I_1 j->(iB (decide (j.2.1<b)) (e/\(g<=p.1/\p.1<c)/\(g<=j.2.1/\j.2.1<b)/\e/\(0:(Ty.int u64).den)<=(32:Int)/\I_1 d/\l d<l j) ((g<=i64.wrap (p.1+b)/\i64.wrap (p.1+b)<h)/\I f/\k f<k p))) (Hy p.2.1/\N6 fun r=>r.1=nc (nv p.2.1)->r.1=nc (nv x.1*nv x.2.1)))
def HM:A2 Hl.args->Prop:=fun(x:Kv)=>let d:=(0:Int);let c:=(18446744073709551616:Nat);Hy x.1/\N6 fun r=>let b:=(r.1.length:Int);r.1=nc (nv x.1)->(iB (decide ((2:Int)<b)) ((nv x.1<c->d=(↑(nv x.1):Int)/\false=true)/\(c<=nv x.1->false=false)) (∃(I:Cc->Prop),∃(f: _->Nat),I (d,i64.wrap (b-(1:Int)),())/\∀(p:Cc),let a:=(u64.wrap (↑(BitVec.ofInt u64.bits (u64.wrap (p.1*2^Min.min ((32:Int).toNat) u64.bits)) |||BitVec.ofInt u64.bits (u64.wrap (gx d r.1 p.2.1))).toNat:Int),i64.wrap (p.2.1-1),());(Ty.int u64).wf p.1/\(Ty.int i64).wf p.2.1/\True->I p->(iB (decide (d<=p.2.1)) ((0:(Ty.int u64).den)<=(32:Int)/\(d<=p.2.1/\p.2.1<b)/\I a/\f a<f p) ((nv x.1<c->p.1=(↑(nv x.1):Int)/\true=true)/\(c<=nv x.1->true=false)))))
end Go.Proofs.YtiflhbllbgajeaaGreat
