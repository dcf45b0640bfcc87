/- Part. -/
import Derived.Test.YtknoakmaeleclaaGreatRows
import Derived.Test.YtknoakmaeleclaaGreatKWE
set_option linter.all false
namespace Go.Proofs.YtknoakmaeleclaaGreat
open Go.Proofs.Tryz
open Go.Vc Go.Gw
open Go.IntKind (i64 u64 u32)
abbrev G5 (a:Int):Prop:=i64.min<=a/\a<=i64.max
abbrev KO (a:Int):Prop:=u64.min<=a/\a<=u64.max
abbrev Ir (l:Wf):Prop:=List.length l<=(9223372036854775807:Nat)/\∀(x:Int),x∈l->u32.min<=x/\x<=u32.max
abbrev eP (l:Wf):Prop:=List.length l<=(9223372036854775807:Nat)/\∀(x:Int),x∈l->i64.min<=x/\x<=i64.max
abbrev pL (z:Bool×Wf):Prop:=True/\Ir z.2
abbrev Zk (q:(Bool×Wf)×Wf):Prop:=pL q.1/\Ir q.2
abbrev WfE (e:Int×(Bool×Wf)×Wf):Prop:=G5 e.1/\pL e.2.1/\Ir e.2.2
abbrev PE (l:List (Int×(Bool×Wf)×Wf)):Prop:=List.length l<=(9223372036854775807:Nat)/\∀(x:Int×(Bool×Wf)×Wf),x∈l->WfE x
abbrev QQ:=(Bool×Wf)×Wf
abbrev EE:=Int×(Bool×Wf)×Wf
abbrev dQ:QQ:=((false,[]),[])
abbrev G4:EE:=((0:Int),(false,[]),[])
abbrev MM:=Int×Int×List (List EE)
abbrev OZ (l:List QQ):Prop:=List.length l<=9223372036854775807/\∀(x:QQ),x∈l->Zk x
abbrev Yd (l:List (List QQ)):Prop:=List.length l<=9223372036854775807/\∀(x:List QQ),x∈l->x.length<=9223372036854775807/\∀(y:QQ),y∈x->Zk y
abbrev Ye (l:List (List EE)):Prop:=List.length l<=9223372036854775807/\∀(x:List EE),x∈l->x.length<=9223372036854775807/\∀(y:EE),y∈x->WfE y
abbrev WfM (m:MM):Prop:=G5 m.1/\G5 m.2.1/\Ye m.2.2
abbrev tQ:Ty:=(.pair (.pair .bool (.sl (.int .u32))) (.sl (.int .u32)))
abbrev tE:Ty:=(.pair (.int .i64) tQ)
abbrev tM:Ty:=(.pair (.int .i64) (.pair (.int .i64) (.sl (.sl tE))))
def tys:List (Nat×TI):= [(2,{ty:=(.int .i64),agg:=false}),
 (3,{ty:=(.int .i64),agg:=false}),
 (4,{ty:= .bool,agg:=false}),
 (5,{ty:=(.int .u8),agg:=false}),
 (9,{ty:= .str,agg:=false}),
 (22,{ty:=(.sl (.pair (.int .i64) (.pair (.int .i64) (.pair tQ tQ)))),agg:=false,elem:=79,bytes:=128}),
 (24,{ty:=(.pair (.int .i64) (.sl (.pair (.int .i64) (.pair (.int .i64) (.pair tQ tQ))))),agg:=true,fields:= [(0,1,false),(1,1,false)]}),
 (25,{ty:=(.sl (.int .i64)),agg:=false,elem:=3,bytes:=8}),
 (29,{ty:=(.sl (.sl tE)),agg:=false,elem:=88,bytes:=24}),
 (31,{ty:=tM,agg:=true,fields:= [(0,1,false),(1,1,false),(2,1,false)]}),
 (33,{ty:=(.pair (.sl (.int .i64)) (.pair tM tM)),agg:=true,fields:= [(0,1,false),(1,3,true),(4,3,true)]}),
 (40,{ty:=(.sl tQ),agg:=false,elem:=49,bytes:=56}),
 (45,{ty:=(.sl (.int .u32)),agg:=false,elem:=131,bytes:=4}),
 (47,{ty:=(.pair .bool (.sl (.int .u32))),agg:=true,fields:= [(0,1,false),(1,1,false)]}),
 (49,{ty:=tQ,agg:=true,fields:= [(0,2,true),(2,1,false)]}),
 (63,{ty:=(.sl (.sl (.int .i64))),agg:=false,elem:=25,bytes:=24}),
 (65,{ty:=(.pair (.sl (.int .i64)) tM),agg:=true,fields:= [(0,1,false),(1,3,true)]}),
 (79,{ty:=(.pair (.int .i64) (.pair (.int .i64) (.pair tQ tQ))),agg:=true,fields:= [(0,1,false),(1,1,false),(2,3,true),(5,3,true)]}),
 (82,{ty:=(.sl (.pair (.int .i64) (.int .i64))),agg:=false,elem:=83,bytes:=16}),
 (83,{ty:=(.pair (.int .i64) (.int .i64)),agg:=true,elem:=3,arr:=2}),
 (88,{ty:=(.sl tE),agg:=false,elem:=133,bytes:=64}),
 (91,{ty:=(.sl (.sl tQ)),agg:=false,elem:=40,bytes:=24}),
 (101,{ty:=(.pair (.sl (.int .i64)) (.int .i64)),agg:=true,fields:= [(0,1,false),(1,1,false)]}),
 (107,{ty:=(.int .u64),agg:=false}),
 (129,{ty:=(.sl .bool),agg:=false,elem:=4,bytes:=1}),
 (131,{ty:=(.int .u32),agg:=false}),
 (133,{ty:=tE,agg:=true,fields:= [(0,1,false),(1,3,true)]}),
 (136,{ty:=(.sl (.int .i64)),agg:=false,elem:=3,bytes:=8}),
 (140,{ty:=(.pair (.sl (.int .i64)) (.pair (.sl (.int .i64)) (.pair tM tM))),agg:=true,fields:= [(0,1,false),(1,1,false),(2,3,true),(5,3,true)]}),
 (172,{ty:=(.mp false (.int .i64) false (.int .i64)),agg:=false,elem:=3,key:=3}),
 (183,{ty:=(.mp false (.int .i64) false (.sl (.int .i64))),agg:=false,elem:=25,key:=3}),
 (187,{ty:=(.ptr (.pair (.sl (.sl tE)) (.pair (.sl (.sl tE)) (.pair (.sl (.mp false (.int .i64) false .bool)) (.sl (.int .i64)))))),agg:=false}),
 (192,{ty:=(.sl (.mp false (.int .i64) false .bool)),agg:=false,elem:=225,bytes:=8}),
 (194,{ty:=(.pair (.sl (.sl tE)) (.pair (.sl (.sl tE)) (.pair (.sl (.mp false (.int .i64) false .bool)) (.sl (.int .i64))))),agg:=true,fields:= [(0,1,false),(1,1,false),(2,1,false),(3,1,false)]}),
 (216,{ty:=(.int .u64),agg:=false}),
 (225,{ty:=(.mp false (.int .i64) false .bool),agg:=false,elem:=4,key:=3}),
 (234,{ty:=(.pair (.int .u64) (.pair (.int .u64) (.pair (.int .u64) (.pair (.int .u64) .bool)))),agg:=true,fields:= [(0,1,false),(1,1,false),(2,1,false),(3,1,false),(4,1,false)]})]
def A5:H5 prog tys=true:=by kernel_rfl
def D0j:List (Nat×TI):= [(2,{ty:=(.int .i64),agg:=false}),
 (3,{ty:=(.int .i64),agg:=false}),
 (4,{ty:= .bool,agg:=false}),
 (5,{ty:=(.int .u8),agg:=false}),
 (9,{ty:= .str,agg:=false}),
 (22,{ty:=(.sl (.pair (.int .i64) (.pair (.int .i64) (.pair tQ tQ)))),agg:=false,elem:=79,bytes:=128}),
 (24,{ty:=(.pair (.int .i64) (.sl (.pair (.int .i64) (.pair (.int .i64) (.pair tQ tQ))))),agg:=true,fields:= [(0,1,false),(1,1,false)]}),
 (25,{ty:=(.sl (.int .i64)),agg:=false,elem:=3,bytes:=8}),
 (29,{ty:=(.sl (.sl tE)),agg:=false,elem:=88,bytes:=24,rows:=true}),
 (31,{ty:=tM,agg:=true,fields:= [(0,1,false),(1,1,false),(2,1,false)]}),
 (33,{ty:=(.pair (.sl (.int .i64)) (.pair tM tM)),agg:=true,fields:= [(0,1,false),(1,3,true),(4,3,true)]}),
 (40,{ty:=(.sl tQ),agg:=false,elem:=49,bytes:=56}),
 (45,{ty:=(.sl (.int .u32)),agg:=false,elem:=131,bytes:=4}),
 (47,{ty:=(.pair .bool (.sl (.int .u32))),agg:=true,fields:= [(0,1,false),(1,1,false)]}),
 (49,{ty:=tQ,agg:=true,fields:= [(0,2,true),(2,1,false)]}),
 (63,{ty:=(.sl (.sl (.int .i64))),agg:=false,elem:=25,bytes:=24}),
 (65,{ty:=(.pair (.sl (.int .i64)) tM),agg:=true,fields:= [(0,1,false),(1,3,true)]}),
 (79,{ty:=(.pair (.int .i64) (.pair (.int .i64) (.pair tQ tQ))),agg:=true,fields:= [(0,1,false),(1,1,false),(2,3,true),(5,3,true)]}),
 (82,{ty:=(.sl (.pair (.int .i64) (.int .i64))),agg:=false,elem:=83,bytes:=16}),
 (83,{ty:=(.pair (.int .i64) (.int .i64)),agg:=true,elem:=3,arr:=2}),
 (88,{ty:=(.sl tE),agg:=false,elem:=133,bytes:=64}),
 (91,{ty:=(.sl (.sl tQ)),agg:=false,elem:=40,bytes:=24,rows:=true}),
 (101,{ty:=(.pair (.sl (.int .i64)) (.int .i64)),agg:=true,fields:= [(0,1,false),(1,1,false)]}),
 (107,{ty:=(.int .u64),agg:=false}),
 (129,{ty:=(.sl .bool),agg:=false,elem:=4,bytes:=1}),
 (131,{ty:=(.int .u32),agg:=false}),
 (133,{ty:=tE,agg:=true,fields:= [(0,1,false),(1,3,true)]}),
 (136,{ty:=(.sl (.int .i64)),agg:=false,elem:=3,bytes:=8}),
 (140,{ty:=(.pair (.sl (.int .i64)) (.pair (.sl (.int .i64)) (.pair tM tM))),agg:=true,fields:= [(0,1,false),(1,1,false),(2,3,true),(5,3,true)]}),
 (172,{ty:=(.mp false (.int .i64) false (.int .i64)),agg:=false,elem:=3,key:=3}),
 (183,{ty:=(.mp false (.int .i64) false (.sl (.int .i64))),agg:=false,elem:=25,key:=3,rows:=true}),
 (187,{ty:=(.ptr (.pair (.sl (.sl tE)) (.pair (.sl (.sl tE)) (.pair (.sl (.mp false (.int .i64) false .bool)) (.sl (.int .i64)))))),agg:=false}),
 (192,{ty:=(.sl (.mp false (.int .i64) false .bool)),agg:=false,elem:=225,bytes:=8}),
 (194,{ty:=(.pair (.sl (.sl tE)) (.pair (.sl (.sl tE)) (.pair (.sl (.mp false (.int .i64) false .bool)) (.sl (.int .i64))))),agg:=true,fields:= [(0,1,false),(1,1,false),(2,1,false),(3,1,false)]}),
 (216,{ty:=(.int .u64),agg:=false}),
 (225,{ty:=(.mp false (.int .i64) false .bool),agg:=false,elem:=4,key:=3}),
 (234,{ty:=(.pair (.int .u64) (.pair (.int .u64) (.pair (.int .u64) (.pair (.int .u64) .bool)))),agg:=true,fields:= [(0,1,false),(1,1,false),(2,1,false),(3,1,false),(4,1,false)]})]
def EX:H5 prog D0j=true:=by kernel_rfl
def WB:List (Nat×TI):= [(2,{ty:=(.int .i64),agg:=false}),
 (3,{ty:=(.int .i64),agg:=false}),
 (4,{ty:= .bool,agg:=false}),
 (5,{ty:=(.int .u8),agg:=false}),
 (9,{ty:= .str,agg:=false}),
 (22,{ty:=(.sl (.pair (.int .i64) (.pair (.int .i64) (.pair tQ tQ)))),agg:=false,elem:=79,bytes:=128}),
 (24,{ty:=(.pair (.int .i64) (.sl (.pair (.int .i64) (.pair (.int .i64) (.pair tQ tQ))))),agg:=true,fields:= [(0,1,false),(1,1,false)]}),
 (25,{ty:=(.sl (.int .i64)),agg:=false,elem:=3,bytes:=8}),
 (29,{ty:=(.sl (.sl tE)),agg:=false,elem:=88,bytes:=24,nest:= [14]}),
 (31,{ty:=tM,agg:=true,fields:= [(0,1,false),(1,1,false),(2,1,false)]}),
 (33,{ty:=(.pair (.sl (.int .i64)) (.pair tM tM)),agg:=true,fields:= [(0,1,false),(1,3,true),(4,3,true)]}),
 (40,{ty:=(.sl tQ),agg:=false,elem:=49,bytes:=56}),
 (45,{ty:=(.sl (.int .u32)),agg:=false,elem:=131,bytes:=4}),
 (47,{ty:=(.pair .bool (.sl (.int .u32))),agg:=true,fields:= [(0,1,false),(1,1,false)]}),
 (49,{ty:=tQ,agg:=true,fields:= [(0,2,true),(2,1,false)]}),
 (63,{ty:=(.sl (.sl (.int .i64))),agg:=false,elem:=25,bytes:=24}),
 (65,{ty:=(.pair (.sl (.int .i64)) tM),agg:=true,fields:= [(0,1,false),(1,3,true)]}),
 (79,{ty:=(.pair (.int .i64) (.pair (.int .i64) (.pair tQ tQ))),agg:=true,fields:= [(0,1,false),(1,1,false),(2,3,true),(5,3,true)]}),
 (82,{ty:=(.sl (.pair (.int .i64) (.int .i64))),agg:=false,elem:=83,bytes:=16}),
 (83,{ty:=(.pair (.int .i64) (.int .i64)),agg:=true,elem:=3,arr:=2}),
 (88,{ty:=(.sl tE),agg:=false,elem:=133,bytes:=64}),
 (91,{ty:=(.sl (.sl tQ)),agg:=false,elem:=40,bytes:=24}),
 (101,{ty:=(.pair (.sl (.int .i64)) (.int .i64)),agg:=true,fields:= [(0,1,false),(1,1,false)]}),
 (107,{ty:=(.int .u64),agg:=false}),
 (129,{ty:=(.sl .bool),agg:=false,elem:=4,bytes:=1}),
 (131,{ty:=(.int .u32),agg:=false}),
 (133,{ty:=tE,agg:=true,fields:= [(0,1,false),(1,3,true)]}),
 (136,{ty:=(.sl (.int .i64)),agg:=false,elem:=3,bytes:=8}),
 (140,{ty:=(.pair (.sl (.int .i64)) (.pair (.sl (.int .i64)) (.pair tM tM))),agg:=true,fields:= [(0,1,false),(1,1,false),(2,3,true),(5,3,true)]}),
 (172,{ty:=(.mp false (.int .i64) false (.int .i64)),agg:=false,elem:=3,key:=3}),
 (183,{ty:=(.mp false (.int .i64) false (.sl (.int .i64))),agg:=false,elem:=25,key:=3}),
 (187,{ty:=(.ptr (.pair (.sl (.sl tE)) (.pair (.sl (.sl tE)) (.pair (.sl (.mp false (.int .i64) false .bool)) (.sl (.int .i64)))))),agg:=false}),
 (192,{ty:=(.sl (.mp false (.int .i64) false .bool)),agg:=false,elem:=225,bytes:=8,nest:= [17]}),
 (194,{ty:=(.pair (.sl (.sl tE)) (.pair (.sl (.sl tE)) (.pair (.sl (.mp false (.int .i64) false .bool)) (.sl (.int .i64))))),agg:=true,fields:= [(0,1,false),(1,1,false),(2,1,false),(3,1,false)]}),
 (216,{ty:=(.int .u64),agg:=false}),
 (225,{ty:=(.mp false (.int .i64) false .bool),agg:=false,elem:=4,key:=3,nest:= [44,66]}),
 (234,{ty:=(.pair (.int .u64) (.pair (.int .u64) (.pair (.int .u64) (.pair (.int .u64) .bool)))),agg:=true,fields:= [(0,1,false),(1,1,false),(2,1,false),(3,1,false),(4,1,false)]})]
def EW:H5 prog WB=true:=by kernel_rfl
abbrev S9 (a:List AM) (r:List RT) (p:A2 a->Prop) (q:A2 a->Cf r->Prop):A6:= {args:=a,res:=r,shared:=true,pre:=p,post:=q}
abbrev mkM (a:List AM) (r:List RT) (p:A2 a->Prop) (q:A2 a->Cf r->Prop) (m:A2 a->Cf r->Pb a->Prop):A6:= {args:=a,res:=r,shared:=true,pre:=p,post:=q,mpost:=m}
abbrev C7:=QQ×Unit
abbrev sx (s:A6) (v:A2 s.args->Prop):Prop:=∀x,awf s.args x->s.pre x->v x
abbrev qb:Ty:=.int .i64
abbrev qe:Ty:=.mp false qb false .bool
abbrev qf:Ty:=.sl tE
abbrev qg:Ty:=.sl qb
abbrev qh:Ty:=.int .u32
abbrev qa:Ty:=.sl qh
abbrev qd:Ty:=.pair .bool qa
abbrev qi:Ty:=.pair qb (.pair qb (.pair tQ tQ))
abbrev qc:Ty:=.pair qb (.sl qi)
abbrev qj:Ty:=.sl tQ
abbrev qk:Ty:=.pair qg (.pair tM tM)
abbrev ql:Ty:=.int .u64
abbrev qm:Ty:=.pair qg qk
abbrev qn:Ty:=.pair qg qb
abbrev qo:Ty:=.sl qj
abbrev qp:Ty:=.pair qg tM
abbrev qq:Ty:=.pair qb qb
abbrev qr:List RT:=[.val false .bool]
abbrev qt:List RT:=[.val true tQ]
abbrev qu:List RT:=[.val false qb]
abbrev qv:List RT:=[.val true qd]
abbrev qw:List AM:=[.val false qa, .val false qa]
abbrev qx:List RT:=[.val false qa]
abbrev qy:List AM:=[.val true tQ, .val true tQ]
abbrev qz:List AM:=[.val true tQ]
abbrev rb:List AM:=[.val true qd, .val true qd]
abbrev re:List AM:=[.val false qb]
abbrev rf:List AM:=[.val false qa]
abbrev rg:List AM:=[.val true qd]
abbrev rh:List AM:=[.val true qc]
abbrev rj:List AM:=[.val false qb, .val false qb]
abbrev rk:List AM:=[.val false qf, .val false qb]
abbrev rn:List RT:=[.val false qf]
abbrev ro:List AM:=[.val true qc, .val false qj]
abbrev rp:List AM:=[.val true tM]
abbrev rq:List AM:=[.val false qf]
abbrev rr:List AM:=[.val false qg]
abbrev rt:List RT:=[.val false qg]
abbrev rx:List RT:=[.val false qj, .val false qb]
abbrev ry:List AM:=[.val false qo, .val false qb]
abbrev rz:List RT:=[.val false qa, .val false .bool]
abbrev sc:List AM:=[.val false qa, .val false qb]
abbrev sd:List RT:=[.val false ql]
abbrev se:List RT:=[.val true qc]
abbrev sf:List RT:=[.val true tQ, .val false .bool]
abbrev si:List AM:=[.val false .bool, .val false qa]
abbrev sj:List RT:=[.val false qa, .val false qa, .val false .bool]
abbrev sk:List RT:=[.val false qa, .val false qa]
abbrev sm:List AM:=[.val false qg, .val false qb]
abbrev sn:List RT:=[.val false ql, .val false .bool]
abbrev so:List RT:=[.val true qc, .val false qb]
abbrev sq:List AM:=[.val true qc, .val false qg]
abbrev sr:List AM:=[.val true qm, .val false qj]
abbrev su:List RT:=[.val true tM, .val false qb]
abbrev sw (a:List AM) (r:List RT) (p:A2 a->Prop) (q:A2 a->Cf r->Prop):A6:={args:=a,res:=r,pre:=p,post:=q}
def Ob:A6:=S9 [] qt (fun(x:Unit)=>True) (fun(x:Unit) (r:C7)=>r.1=rc 0)
abbrev L8:=QQ×QQ×Unit
def Tn:A6:=S9 qy qt (fun(x:L8)=>F4 x.1/\F4 x.2.1) (fun(x:L8) (r:C7)=>r.1=rc (rv x.1+rv x.2.1))
abbrev C8:=Int×Unit
def Fz:A6:=S9 re qt (fun(x:C8)=>True) (fun(x:C8) (r:C7)=>r.1=ri x.1)
def Mm:A6:=S9 qy qt (fun(x:L8)=>F4 x.1/\F4 x.2.1) (fun(x:L8) (r:C7)=>r.1=rc (rv x.1-rv x.2.1))
abbrev En:=Int×Int×Unit
def BB:A6:=S9 rj qt (fun(x:En)=>True) (fun(x:En) (r:C7)=>r.1=rc (Rat.divInt x.1 x.2.1))
def Tq:A6:=S9 qz qt (fun(x:C7)=>F4 x.1) (fun(x:C7) (r:C7)=>r.1=rc (-(rv x.1)))
def Ay:A6:=Tn
def W5:A6:=Mm
abbrev W9:=Bool×Unit
def Cj:A6:=sw qz qr (fun(x:C7)=>F4 x.1) (fun(x:C7) (r:W9)=>r.1=decide (x.1=rc (rv x.1)))
def Kh:A6:=sw qy qr (fun(x:L8)=>True) (fun(x:L8) (r:W9)=>r.1=decide (x.1=x.2.1))
def Co:A6:=S9 qz qt (fun(x:C7)=>F4 x.1) (fun(x:C7) (r:C7)=>r.1=rc (rv x.1))
def Jn:A6:=Co
def W4:A6:=Tq
def M6:A6:=Fz
def Ba:A6:=S9 qy qt (fun(x:L8)=>F4 x.1/\F4 x.2.1) (fun(x:L8) (r:C7)=>r.1=rc (rv x.1*rv x.2.1))
def Cp:A6:=sw qz qu (fun(x:C7)=>True) (fun(x:C7) (r:C8)=>r.1=(rv x.1).num.sign)
def Oa:A6:=sw qz qu (fun(x:C7)=>F4 x.1) (fun(x:C7) (r:C8)=>r.1=(rv x.1).num.sign)
abbrev kP:=(Bool×Wf)×(Bool×Wf)×Unit
def Ny:A6:=S9 rb qt (fun(x:kP)=>Gl x.1.2/\Gl x.2.1.2) (fun(x:kP) (r:C7)=>r.1=rc (Lx x.1 x.2.1))
abbrev KM:=(Bool×Wf)×Unit
def Ti:A6:=S9 rb qv (fun(x:kP)=>L3 x.1.2/\L3 x.2.1.2) (fun(x:kP) (r:KM)=>r.1=ic (iv x.1+iv x.2.1))
def Tk:A6:=S9 rb qv (fun(x:kP)=>L3 x.1.2/\L3 x.2.1.2) (fun(x:kP) (r:KM)=>r.1=ic (iv x.1*iv x.2.1))
def Tr:A6:=S9 qz qv (fun(x:C7)=>F4 x.1) (fun(x:C7) (r:KM)=>r.1=ic ((rv x.1).den:Int))
def Fy:A6:=S9 re qv (fun(x:C8)=>True) (fun(x:C8) (r:KM)=>r.1=ic x.1)
def Tl:A6:=S9 rg qv (fun(x:KM)=>Im x.1.2) (fun(x:KM) (r:KM)=>r.1=ic (-iv x.1))
def Ml:A6:=Ba
abbrev A4m:=Int×Int×Bool×Unit
def Bc:A6:=sw qz [.val false qb, .val false qb, .val false .bool] (fun(x:C7)=>True) (fun(x:C7) (r:A4m)=>(J9 x.1->r.1=Sl x.1/\r.2.1=Pa x.1/\r.2.2.1=true)/\(¬J9 x.1->r.2.2.1=false))
def T8:A6:=S9 rj qt (fun(x:En)=>0<x.2.1) (fun(x:En) (r:C7)=>r.1=rc (mkRat x.1 x.2.1.toNat))
abbrev ty7:=(Bool×Wf)×Wf×Unit
def Bb:A6:=S9 qz [.val true qd, .val false qa] (fun(x:C7)=>True) (fun(x:C7) (r:ty7)=>(nv x.1.2=0->r.1=zi/\r.2.1= [1])/\(nv x.1.2≠0->r.1=x.1.1/\r.2.1=x.1.2))
abbrev Ey:=Wf×Wf×Unit
def Y9:A6:=sw qw qu (fun(x:Ey)=>True) (fun(x:Ey) (r:C8)=>r.1=Dt (nv x.1) (nv x.2.1))
def Z7:A6:=S9 [.val true qd, .val false qa] qt (fun(x:ty7)=>nv x.2.1≠0/\Gl x.1.2/\Gl x.2.1) (fun(x:ty7) (r:C7)=>r.1=rc (mkRat (iv x.1) (nv x.2.1)))
def Fo:A6:=Ti
def Fp:A6:=Tk
abbrev Bw:=Wf×Unit
def Fv:A6:=S9 qw qx (fun(x:Ey)=>L3 x.1/\L3 x.2.1) (fun(x:Ey) (r:Bw)=>r.1=nc (nv x.1*nv x.2.1))
def Kg:A6:=sw rb qr (fun(x:kP)=>True) (fun(x:kP) (r:W9)=>r.1=decide (x.1=x.2.1))
def Kf:A6:=sw qw qr (fun(x:Ey)=>True) (fun(x:Ey) (r:W9)=>r.1=decide (x.1=x.2.1))
def Fq:A6:=Tl
def Y5:A6:=sw rj qu (fun(x:En)=>True) (fun(x:En) (r:C8)=>r.1=P6 x.1 x.2.1)
def Y8:A6:=Fy
abbrev kN:=QQ×Bool×Unit
def Eh:A6:=S9 qy sf (fun(x:L8)=>F4 x.1/\F4 x.2.1) (fun(x:L8) (r:kN)=>(rv x.2.1=0->r.2.1=false)/\(rv x.2.1≠0->r.1=rc (rv x.1/rv x.2.1)/\r.2.1=true))
def Dz:A6:=sw rg qu (fun(x:KM)=>True) (fun(x:KM) (r:C8)=>r.1=(iv x.1).sign)
def Nw:A6:=sw rg qu (fun(x:KM)=>Im x.1.2) (fun(x:KM) (r:C8)=>r.1=(iv x.1).sign)
def Nv:A6:=S9 rg qv (fun(x:KM)=>Im x.1.2) (fun(x:KM) (r:KM)=>r.1=ic (iv x.1))
def Tj:A6:=S9 rb qv (fun(x:kP)=>Gl x.1.2/\Gl x.2.1.2) (fun(x:kP) (r:KM)=>r.1=ic (Nat.gcd (nv x.1.2) (nv x.2.1.2):Int))
def Ib:A6:=S9 rb [.val true qd, .val true qd, .val false .bool] (fun(x:kP)=>Gl x.1.2/\Gl x.2.1.2) (fun(x:kP) (r:(Bool×Wf)×(Bool×Wf)×Bool×Unit)=>iv x.2.1≠0->r.1=ic (iv x.1/iv x.2.1)/\r.2.1=ic (iv x.1%iv x.2.1)/\r.2.2.1=true)
abbrev C6d:=Bool×Wf×Unit
def Nu:A6:=S9 si qv (fun(x:C6d)=>Im x.2.1) (fun(x:C6d) (r:KM)=>r.1=ic (iv (x.1,x.2.1)))
def Tb:A6:=S9 qw qx (fun(x:Ey)=>L3 x.1/\L3 x.2.1) (fun(x:Ey) (r:Bw)=>r.1=nc (nv x.1+nv x.2.1))
abbrev D0g:=Wf×Bool×Unit
def Te:A6:=S9 qw rz (fun(x:Ey)=>L3 x.1/\L3 x.2.1) (fun(x:Ey) (r:D0g)=>(nv x.1<nv x.2.1->r.1= []/\r.2.1=false)/\(nv x.2.1<=nv x.1->r.1=nc (nv x.1-nv x.2.1)/\r.2.1=true))
def Td:A6:=Fv
def Ax:A6:=S9 [.val false ql] qx (fun(x:C8)=>True) (fun(x:C8) (r:Bw)=>r.1=nc x.1.toNat)
def Jo:A6:=S9 qy qt (fun(x:L8)=>F4 x.1/\F4 x.2.1) (fun(x:L8) (r:C7)=>rv x.2.1≠0->r.1=rc (rv x.1/rv x.2.1))
abbrev B5j:=Int×Bool×Unit
def Au:A6:=sw rf sn (fun(x:Bw)=>True) (fun(x:Bw) (r:B5j)=>(nv x.1<18446744073709551616->r.1=(nv x.1:Int)/\r.2.1=true)/\(18446744073709551616<=nv x.1->r.2.1=false))
def R4:A6:=Ax
def Cu:A6:=S9 rf qx (fun(x:Bw)=>True) (fun(x:Bw) (r:Bw)=>r.1=nc (nv x.1))
def Dy:A6:=Nv
def Eb:A6:=S9 rf qx (fun(x:Bw)=>Im x.1) (fun(x:Bw) (r:Bw)=>r.1=nc (nv x.1))
def Fu:A6:=S9 qw qx (fun(x:Ey)=>Gl x.1/\Gl x.2.1) (fun(x:Ey) (r:Bw)=>r.1=nc (Nat.gcd (nv x.1) (nv x.2.1)))
abbrev D2l:=Wf×Wf×Bool×Unit
def Ar:A6:=S9 qw sj (fun(x:Ey)=>L3 x.1) (fun(x:Ey) (r:D2l)=>(nv x.2.1=0->r.1= []/\r.2.1= []/\r.2.2.1=false)/\(nv x.2.1≠0->r.1=nc (nv x.1/nv x.2.1)/\r.2.1=nc (nv x.1%nv x.2.1)/\r.2.2.1=true))
def Am:A6:=S9 si qv (fun(x:C6d)=>True) (fun(x:C6d) (r:KM)=>r.1=(x.1&&decide (x.2.1≠ []),x.2.1))
def Ft:A6:=Tb
def Fw:A6:=Te
def Cg:A6:=sw re qr (fun(x:C8)=>True) (fun(x:C8) (r:W9)=>r.1=false)
def Az:A6:=S9 qz sf (fun(x:C7)=>F4 x.1) (fun(x:C7) (r:kN)=>(rv x.1=0->r.2.1=false)/\(rv x.1≠0->r.1=rc (rv x.1)⁻¹/\r.2.1=true))
def Tc:A6:=Fu
def Hz:A6:=S9 qw sj (fun(x:Ey)=>Gl x.1/\Gl x.2.1) (fun(x:Ey) (r:D2l)=>(nv x.2.1=0->r.2.2.1=false)/\(nv x.2.1≠0->r.1=nc (nv x.1/nv x.2.1)/\r.2.1=nc (nv x.1%nv x.2.1)/\r.2.2.1=true))
def Tg:A6:=S9 rg qv (fun(x:KM)=>Im x.1.2) (fun(x:KM) (r:KM)=>r.1=ic ((iv x.1).natAbs:Int))
def Tm:A6:=S9 rb qv (fun(x:kP)=>L3 x.1.2/\L3 x.2.1.2) (fun(x:kP) (r:KM)=>r.1=ic (iv x.1-iv x.2.1))
def Nt:A6:=Eb
def Fx:A6:=sw qw qu (fun(x:Ey)=>L3 x.1/\L3 x.2.1) (fun(x:Ey) (r:C8)=>r.1=Dt (nv x.1) (nv x.2.1))
def Tp:A6:=Eh
def Ed:A6:=sw rf sd (fun(x:Bw)=>x.1.length<=2) (fun(x:Bw) (r:C8)=>r.1=(nv x.1:Int))
def Z6:A6:=sw qw [.val true (.pair ql (.pair ql (.pair ql (.pair ql .bool))))] (fun(x:Ey)=>L3 x.1/\3<=x.1.length/\Og x.1/\nv x.2.1<=nv x.1/\x.2.1.length<=x.1.length) (fun(x:Ey) (r:(Int×(Int×(Int×(Int×Bool))))×Unit)=>C8y (nv x.1) (nv x.2.1) r.1.1 r.1.2.1 r.1.2.2.1 r.1.2.2.2.1 r.1.2.2.2.2)
abbrev D2m:=Wf×Int×Wf×Int×Unit
def Z4:A6:=S9 [.val false qa, .val false ql, .val false qa, .val false ql] qx (fun(x:D2m)=>Gl x.1/\Gl x.2.2.1/\nv x.2.2.1*x.2.2.2.1.toNat<=nv x.1*x.2.1.toNat) (fun(x:D2m) (r:Bw)=>r.1=nc (nv x.1*x.2.1.toNat-nv x.2.2.1*x.2.2.2.1.toNat))
abbrev VZ:=Wf×Int×Unit
def O2:A6:=S9 [.val false qa, .val false qh] sk (fun(x:VZ)=>L3 x.1/\x.2.1≠0) (fun(x:VZ) (r:Ey)=>r.1=nc (nv x.1/x.2.1.toNat)/\r.2.1=nc (nv x.1%x.2.1.toNat))
def R5:A6:=S9 qw sk (fun(x:Ey)=>L3 x.1/\2<=x.2.1.length/\x.2.1.length<=x.1.length/\Og x.2.1) (fun(x:Ey) (r:Ey)=>r.1=nc (nv x.1/nv x.2.1)/\r.2.1=nc (nv x.1%nv x.2.1))
def Hx:A6:=sw [.val false qh] qu (fun(x:C8)=>True) (fun(x:C8) (r:C8)=>r.1=(L2 x.1.toNat:Int))
def V9:A6:=sw qy qu (fun(x:L8)=>F4 x.1/\F4 x.2.1) (fun(x:L8) (r:C8)=>r.1=YU (rv x.1) (rv x.2.1))
def Ia:A6:=sw rf sn (fun(x:Bw)=>Im x.1) (fun(x:Bw) (r:B5j)=>(nv x.1<18446744073709551616->r.1=(nv x.1:Int)/\r.2.1=true)/\(18446744073709551616<=nv x.1->r.2.1=false))
def Ns:A6:=sw rf qu (fun(x:Bw)=>L3 x.1) (fun(x:Bw) (r:C8)=>r.1=(L2 (nv x.1):Int))
def Tf:A6:=sw sc [.val false qh] (fun(x:VZ)=>0<=x.2.1) (fun(x:VZ) (r:C8)=>r.1=((nv x.1/2^x.2.1.toNat%2:Nat):Int))
def K9:A6:=sw [.val false qh] qu (fun(x:C8)=>True) (fun(x:C8) (r:C8)=>r.1=32-(L2 x.1.toNat:Int))
abbrev D2n:=Wf×Int×Int×Unit
def Av:A6:=sw [.val false qa, .val false qb, .val false qb] sd (fun(x:D2n)=>3<=x.2.1/\(x.1.length:Int)<=x.2.1/\x.2.1<=17592186044416/\0<=x.2.2.1/\x.2.2.1<=31/\nv x.1*2^x.2.2.1.toNat<4294967296^x.2.1.toNat) (fun(x:D2n) (r:C8)=>r.1=((nv x.1*2^x.2.2.1.toNat/4294967296^(x.2.1.toNat-2):Nat):Int))
def S6:A6:=sw sc [.own qh 131] (fun(x:VZ)=>L3 x.1/\0<=x.2.1/\x.2.1<=31) (fun(x:VZ) (r:Bw)=>r.1.length=x.1.length+1/\nv r.1=nv x.1*2^x.2.1.toNat)
def N5:A6:=S9 sc rz (fun(x:VZ)=>L3 x.1) (fun(x:VZ) (r:D0g)=>(x.2.1<0->r.1= []/\r.2.1=false)/\(0<=x.2.1->r.1=nc (nv x.1/2^x.2.1.toNat)/\r.2.1=true))
def T6:A6:=Y5
def Y7:A6:=sw rb qu (fun(x:kP)=>True) (fun(x:kP) (r:C8)=>r.1=P6 (iv x.1) (iv x.2.1))
def V8:A6:=sw [.val false qb, .val false (.ptr qa)] sd (fun(x:Int×Wf×Unit)=>0<=x.1) (fun(x:Int×Wf×Unit) (r:C8)=>r.1=(if x.1<(x.2.1.length:Int)then x.2.1.getD x.1.toNat 0 else 0))
def Y6:A6:=Cg
abbrev D2k:=Wf×Wf×Wf×Unit
def I8:A6:=sw [.val false qg, .val false qg, .val false qg] qr (fun(x:D2k)=>True) (fun(x:D2k) (r:W9)=>r.1=true)
def Ea:A6:=S9 rr se (fun(x:Bw)=>True) (fun(x:Bw) (r:(Int×(List (Int×(Int×(QQ×QQ)))))×Unit)=>C8p r.1)
def BC:A6:=S9 rh [.val true qk, .val false qb] (fun(x:(Int×(List (Int×(Int×(QQ×QQ)))))×Unit)=>GG K1 x.1.2/\(D3 x.1->Lb x.1)) (fun(x:(Int×(List (Int×(Int×(QQ×QQ)))))×Unit) (r:(Wf×(MM×MM))×Int×Unit)=>(¬D3 x.1->r.2.1=1)/\(D3 x.1->r.2.1=0/\r.1.1=S4 x.1.1 (Lf x.1.2)/\Jv KF r.1.2.1/\Jv KF r.1.2.2/\∃G,Po x.1 G/\Vk x.1.2.length x.1.1.toNat (Nj x.1.2 G) r.1.2.1/\Vk x.1.2.length x.1.2.length (shF x.1.2 G) r.1.2.2))
abbrev ty4:=(Wf×Int)×Unit
def Nr:A6:=S9 rr [.obox 101 qn] (fun(x:Bw)=>True) (fun(x:Bw) (r:ty4)=>r.1=(x.1,0))
def Kn:A6:=S9 rh rt (fun(x:(Int×(List (Int×(Int×(QQ×QQ)))))×Unit)=>D3 x.1) (fun(x:(Int×(List (Int×(Int×(QQ×QQ)))))×Unit) (r:Bw)=>r.1=S4 x.1.1 (Lf x.1.2))
abbrev ty3:=(Wf×Int)×Int×Unit
def Ap:A6:=mkM [.box 101 qn, .val false qb] qu (fun(x:ty3)=>0<x.2.1/\0<=x.1.2/\x.1.2<=(x.1.1.length:Int)) (fun(x:ty3) (r:C8)=>0<=r.1/\r.1<x.2.1) (fun(x:ty3) (r:C8) (o:ty4)=>o.1.1=x.1.1/\0<=o.1.2/\o.1.2<=(x.1.1.length:Int))
def Nq:A6:=sw rj qu (fun(x:En)=>0<x.2.1) (fun(x:En) (r:C8)=>0<x.2.1->0<=r.1/\r.1<x.2.1/\r.1=(u64.wrap x.1).tmod x.2.1)
abbrev D2o:=(List QQ)×(List QQ)×Unit
def Nz:A6:=sw [.val false qj, .val false qj] qr (fun(x:D2o)=>(∀e∈x.1,F4 e)/\∀e∈x.2.1,F4 e) (fun(x:D2o) (r:W9)=>r.1=decide (x.1=x.2.1/\∀e∈x.1,e=rc (rv e)))
def Al:A6:=S9 sm rt (fun(x:VZ)=>0<=x.2.1) (fun(x:VZ) (r:Bw)=>r.1=x.1.take x.2.1.toNat)
def Ke:A6:=S9 [.val true qc, .val true qk, .val false qg] [.val true qp, .val false qb] (fun(x:(Int×(List (Int×(Int×(QQ×QQ)))))×(Wf×(MM×MM))×Wf×Unit)=>x.1=(3,Em)/\x.2.1.1= [0,0,0]/\(∃G,Po (3,Em) G/\Vk 3 3 (Nj Em G) x.2.1.2.1/\Vk 3 3 (shF Em G) x.2.1.2.2)/\(x.2.2.1= [2]\/x.2.2.1= [2,0])) (fun(x:(Int×(List (Int×(Int×(QQ×QQ)))))×(Wf×(MM×MM))×Wf×Unit) (r:(Wf×MM)×Int×Unit)=>(x.2.2.1= [2]->r.2.1=0/\r.1=([2],3,1,[[(0,rc 1)],[(0,rc 1)],[(0,rc (-1))]]))/\(x.2.2.1= [2,0]->r.2.1=13))
def Fs:A6:=sw [] qr (fun(x:Unit)=>True) (fun(x:Unit) (r:W9)=>r.1=true)
def Aw:A6:=S9 sq so (fun(x:(Int×(List (Int×(Int×(QQ×QQ)))))×Wf×Unit)=>D3 x.1->GG K1 x.1.2) (fun(x:(Int×(List (Int×(Int×(QQ×QQ)))))×Wf×Unit) (r:(Int×(List (Int×(Int×(QQ×QQ)))))×Int×Unit)=>(¬D3 x.1->r.1=zN/\r.2.1=1)/\(D3 x.1->((∃k∈x.2.1,k<0\/(x.1.2.length:Int)<=k)->r.1=zN/\r.2.1=12)/\((∀k∈x.2.1,0<=k/\k<(x.1.2.length:Int))->r.1=(x.1.1,woE x.1.2 x.2.1)/\r.2.1=0)))
def Ge:A6:=S9 sq so (fun(x:(Int×(List (Int×(Int×(QQ×QQ)))))×Wf×Unit)=>GG K1 x.1.2) (fun(x:(Int×(List (Int×(Int×(QQ×QQ)))))×Wf×Unit) (r:(Int×(List (Int×(Int×(QQ×QQ)))))×Int×Unit)=>(¬D3 x.1->r.1=zN/\r.2.1=1)/\(D3 x.1->((∃k∈x.2.1,k<0\/(x.1.2.length:Int)<=k)->r.1=zN/\r.2.1=12)/\((∀k∈x.2.1,0<=k/\k<(x.1.2.length:Int))->r.1=(x.1.1,woE x.1.2 x.2.1)/\r.2.1=0)))
def Cm:A6:=sw [.val true qc, .val true qc] qr (fun(x:(Int×(List (Int×(Int×(QQ×QQ)))))×(Int×(List (Int×(Int×(QQ×QQ)))))×Unit)=>GG K1 x.1.2/\GG K1 x.2.1.2) (fun(x:(Int×(List (Int×(Int×(QQ×QQ)))))×(Int×(List (Int×(Int×(QQ×QQ)))))×Unit) (r:W9)=>r.1=true↔x.1=x.2.1/\A6d x.1.2)
def Q9:A6:=mkM [.box 101 qn] qt (fun(x:ty4)=>0<=x.1.2/\x.1.2<=(x.1.1.length:Int)) (fun(x:ty4) (r:C7)=>Vh r.1/\0<rv r.1) (fun(x:ty4) (r:C7) (o:ty4)=>o.1.1=x.1.1/\0<=o.1.2/\o.1.2<=(x.1.1.length:Int))
def Ch:A6:=mkM [.box 101 qn] qt (fun(x:ty4)=>0<=x.1.2/\x.1.2<=(x.1.1.length:Int)) (fun(x:ty4) (r:C7)=>Vh r.1) (fun(x:ty4) (r:C7) (o:ty4)=>o.1.1=x.1.1/\0<=o.1.2/\o.1.2<=(x.1.1.length:Int))
def Ko:A6:=sw rh qr (fun(x:(Int×(List (Int×(Int×(QQ×QQ)))))×Unit)=>GG K1 x.1.2) (fun(x:(Int×(List (Int×(Int×(QQ×QQ)))))×Unit) (r:W9)=>r.1=decide (D3 x.1))
def Gd:A6:=S9 ro se (fun(x:(Int×(List (Int×(Int×(QQ×QQ)))))×(List QQ)×Unit)=>x.1.2.length<=16384/\x.2.1.length=x.1.2.length) (fun(x:(Int×(List (Int×(Int×(QQ×QQ)))))×(List QQ)×Unit) (r:(Int×(List (Int×(Int×(QQ×QQ)))))×Unit)=>r.1=(x.1.1,X1 x.1.2 x.2.1))
abbrev A4k:=(List QQ)×Unit
def Kq:A6:=S9 re [.own tQ 49] (fun(x:C8)=>0<=x.1/\x.1<=16384) (fun(x:C8) (r:A4k)=>r.1=Cb x.1.toNat (λ_=>0))
abbrev C6c:=(List QQ)×Int×Unit
def Kl:A6:=S9 ro rx (fun(x:(Int×(List (Int×(Int×(QQ×QQ)))))×(List QQ)×Unit)=>GG K1 x.1.2/\(D3 x.1->Lb x.1/\He S0 x.2.1)) (fun(x:(Int×(List (Int×(Int×(QQ×QQ)))))×(List QQ)×Unit) (r:C6c)=>(¬D3 x.1->r.1= []/\r.2.1=1)/\(D3 x.1->((x.2.1.length:Int)≠x.1.1->r.1= []/\r.2.1=4)/\((x.2.1.length:Int)=x.1.1->(¬Dl (S4 x.1.1 (Lf x.1.2)) x.2.1->r.1= []/\r.2.1=14)/\(Dl (S4 x.1.1 (Lf x.1.2)) x.2.1->r.2.1=0/\He KF r.1/\∃t:Nat->Rat,(∀b,b<x.1.1.toNat->Pn x.1.2 (Uq x.1.2 t) b=P4 x.2.1 b)/\r.1=Cb x.1.2.length (Uq x.1.2 t)))))
abbrev A4i:=(List (List QQ))×Int×Unit
abbrev Kt:=MM×Unit
def Ie:A6:=S9 ry [.val true tM] (fun(x:A4i)=>(∀l∈x.1,He K1 l/\(l.length:Int)=x.2.1)/\0<=x.2.1/\x.2.1<=16384/\x.1.length<=16384) (fun(x:A4i) (r:Kt)=>Vk x.2.1.toNat x.1.length (λi j=>rv ((x.1.getD j []).getD i zr)) r.1)
def Od:A6:=S9 ry [.val true tM] (fun(x:A4i)=>(∀l∈x.1,He K1 l/\(l.length:Int)=x.2.1)/\0<=x.2.1/\x.2.1<=16384/\x.1.length<=16384) (fun(x:A4i) (r:Kt)=>Vk x.1.length x.2.1.toNat (λi j=>rv ((x.1.getD i []).getD j zr)) r.1)
def Ak:A6:=sw [.val false qg, .val false qg] qr (fun(x:Ey)=>True) (fun(x:Ey) (r:W9)=>r.1=decide (x.1=x.2.1))
def Ic:A6:=S9 ro rx (fun(x:(Int×(List (Int×(Int×(QQ×QQ)))))×(List QQ)×Unit)=>GG K1 x.1.2/\(D3 x.1->Lb x.1/\He S0 x.2.1)) (fun(x:(Int×(List (Int×(Int×(QQ×QQ)))))×(List QQ)×Unit) (r:C6c)=>(¬D3 x.1->r.1= []/\r.2.1=1)/\(D3 x.1->((x.2.1.length:Int)≠x.1.1->r.1= []/\r.2.1=4)/\((x.2.1.length:Int)=x.1.1->(¬Dl (S4 x.1.1 (Lf x.1.2)) x.2.1->r.1= []/\r.2.1=14)/\(Dl (S4 x.1.1 (Lf x.1.2)) x.2.1->r.2.1=0/\(r.1.length:Int)=x.1.1/\(∀e∈r.1,e=rc (rv e))/\He KA r.1/\(∀b,b<x.1.1.toNat->Pn x.1.2 (Uq x.1.2 (P4 r.1)) b=P4 x.2.1 b)/\∀b,b<x.1.1.toNat->J6 x.1 b=b->P4 r.1 b=0))))
def Ai:A6:=sw rh qr (fun(x:(Int×(List (Int×(Int×(QQ×QQ)))))×Unit)=>True) (fun(x:(Int×(List (Int×(Int×(QQ×QQ)))))×Unit) (r:W9)=>r.1=decide (D3 x.1))
abbrev D2r:=Int×(List (Int×Int))×Unit
def Gb:A6:=S9 [.val false qb, .val false (.sl qq)] rt (fun(x:D2r)=>A2z x.1 x.2.1) (fun(x:D2r) (r:Bw)=>r.1=S4 x.1 x.2.1)
def Km:A6:=S9 rh [.val false (.sl qq)] (fun(x:(Int×(List (Int×(Int×(QQ×QQ)))))×Unit)=>x.1.2.length<=100000) (fun(x:(Int×(List (Int×(Int×(QQ×QQ)))))×Unit) (r:(List (Int×Int))×Unit)=>r.1=Lf x.1.2)
abbrev fP:=(List EE)×Int×Unit
def Z8:A6:=S9 rk qt (fun(x:fP)=>PC K1 x.1) (fun(x:fP) (r:C7)=>r.1=rc (B6 x.1 x.2.1))
abbrev ty2:=(Wf×(MM×MM))×Unit
def J2:A6:=sw [.val true qk] qr (fun(x:ty2)=>True) (fun(x:ty2) (r:W9)=>r.1=decide (A8q x.1))
def Ef:A6:=S9 rp [.val false qo] (fun(x:Kt)=>Jv K1 x.1/\D4 x.1) (fun(x:Kt) (r:(List (List QQ))×Unit)=>r.1=iF x.1)
def Ao:A6:=S9 [] se (fun(x:Unit)=>True) (fun(x:Unit) (r:(Int×(List (Int×(Int×(QQ×QQ)))))×Unit)=>r.1=(3,Em))
abbrev ty5:=(Wf×MM)×(List QQ)×Unit
def Ee:A6:=S9 [.val true qp, .val false qj] rx (fun(x:ty5)=>Jv K2 x.1.2/\He K2 x.2.1) (fun(x:ty5) (r:C6c)=>(¬Ra x.1->r.1= []/\r.2.1=1)/\(Ra x.1->((x.2.1.length:Int)≠x.1.2.1->r.1= []/\r.2.1=4)/\((x.2.1.length:Int)=x.1.2.1->r.2.1=0/\r.1=Cb x.2.1.length (B2b x.1 (P4 x.2.1)))))
def Hy:A6:=S9 rr [.val false qj] (fun(x:Bw)=>x.1.length<=1000) (fun(x:Bw) (r:A4k)=>r.1=x.1.map ri)
abbrev Yu:=(List EE)×Unit
def Cw:A6:=S9 rq [.own tE 133] (fun(x:Yu)=>Mz x.1) (fun(x:Yu) (r:Yu)=>XB (B6 x.1) r.1)
abbrev ty1:=(Wf×(Wf×(MM×MM)))×Int×Unit
def O6:A6:=S9 rp [.val true qm, .val false qb] (fun(x:Kt)=>Jv K1 x.1/\(D4 x.1->x.1.1=x.1.2.1->∃T:Nat,1<=T/\8*T+8<=K1/\Zh x.1.1.toNat x.1.1.toNat (el x.1) T)) (fun(x:Kt) (r:ty1)=>(¬D4 x.1->r.1=pO/\r.2.1=1)/\(D4 x.1->(x.1.1≠x.1.2.1->r.1=pO/\r.2.1=4)/\(x.1.1=x.1.2.1->(¬nonsing x.1.1.toNat (el x.1)->r.1=pO/\r.2.1=6)/\(nonsing x.1.1.toNat (el x.1)->Iu r.1 x.1.1/\r.2.1=0/\(∀v∈r.1.2.2.1.2.2,Br v)/\(∀v∈r.1.2.2.2.2.2,Br v)/\(∀T:Nat,1<=T->Zh x.1.1.toNat x.1.1.toNat (el x.1) T->∀i j:Nat,i<x.1.1.toNat->qs (T+T) (el r.1.2.2.1 i j)/\qs (T+T) (el r.1.2.2.2 i j))/\∀i j:Nat,i<x.1.1.toNat->j<x.1.1.toNat->luM r.1 x.1.1.toNat i j=el x.1 (ix r.1.1 i) (ix r.1.2.1 j)))))
def Gc:A6:=S9 ro [.val false qj] (fun(x:(Int×(List (Int×(Int×(QQ×QQ)))))×(List QQ)×Unit)=>D3 x.1/\Lb x.1/\(x.2.1.length:Int)=x.1.1/\He KA x.2.1) (fun(x:(Int×(List (Int×(Int×(QQ×QQ)))))×(List QQ)×Unit) (r:A4k)=>r.1=Cb x.1.2.length (Uq x.1.2 (P4 x.2.1)))
abbrev cM:=MM×Int×Unit
def Cl:A6:=S9 rp su (fun(x:Kt)=>Jv K1 x.1) (fun(x:Kt) (r:cM)=>(¬D4 x.1->r.1=zm/\r.2.1=1)/\(D4 x.1->Vk x.1.2.1.toNat x.1.1.toNat (λi j=>el x.1 j i) r.1/\r.2.1=0))
def Ck:A6:=S9 [.val false qj] rn (fun(x:A4k)=>x.1.length<=100000/\He K1 x.1) (fun(x:A4k) (r:Yu)=>mX x.1.length (λj=>rv (x.1.getD j zr)) r.1)
def Eg:A6:=sw ro qr (fun(x:(Int×(List (Int×(Int×(QQ×QQ)))))×(List QQ)×Unit)=>D3 x.1/\x.1.1<=10/\(x.2.1.length:Int)=x.1.1/\He K0 x.2.1) (fun(x:(Int×(List (Int×(Int×(QQ×QQ)))))×(List QQ)×Unit) (r:W9)=>r.1=decide (Dl (S4 x.1.1 (Lf x.1.2)) x.2.1))
def Cn:A6:=S9 rh [.rows tQ 40 49] (fun(x:(Int×(List (Int×(Int×(QQ×QQ)))))×Unit)=>D3 x.1/\Lb x.1) (fun(x:(Int×(List (Int×(Int×(QQ×QQ)))))×Unit) (r:(List (List QQ))×Unit)=>r.1=BH x.1.1.toNat x.1.1.toNat (fF x.1.2))
def Kp:A6:=Kq
def Kk:A6:=S9 [.val true tM, .val false qj] [.val false qj, .val false .bool] (fun(x:MM×(List QQ)×Unit)=>D4 x.1/\x.1.1=x.1.2.1/\(x.2.1.length:Int)=x.1.1/\x.1.1<=10000/\Jv K1 x.1/\He K1 x.2.1/\∃T:Nat,1<=T/\(x.1.1.toNat+4)*(4*T+4)+8<=K1/\Zh x.1.1.toNat (x.1.1.toNat+1) (Gm x.1.1.toNat (el x.1) (P4 x.2.1)) T) (fun(x:MM×(List QQ)×Unit) (r:(List QQ)×Bool×Unit)=>(nonsing x.1.1.toNat (el x.1)->(r.2.1=true/\(r.1.length:Int)=x.1.1/\(∀e∈r.1,e=rc (rv e))/\∀i,i<x.1.1.toNat->B8 x.1.1.toNat (λj=>el x.1 i j*P4 r.1 j)=P4 x.2.1 i)/\(∀T:Nat,Zh x.1.1.toNat (x.1.1.toNat+1) (Gm x.1.1.toNat (el x.1) (P4 x.2.1)) T->He (T+T) r.1))/\(¬nonsing x.1.1.toNat (el x.1)->r.2.1=false))
def Aq:A6:=sw rp qr (fun(x:Kt)=>True) (fun(x:Kt) (r:W9)=>r.1=decide (D4 x.1))
def Kj:A6:=sw rp qr (fun(x:Kt)=>Jv K1 x.1) (fun(x:Kt) (r:W9)=>r.1=decide (D4 x.1))
def P8:A6:=S9 ry su (fun(x:A4i)=>∀l∈x.1,He K1 l) (fun(x:A4i) (r:cM)=>((¬(0<=x.2.1/\x.2.1<=16384)\/16384<x.1.length)->r.1=zm/\r.2.1=3)/\((0<=x.2.1/\x.2.1<=16384)/\x.1.length<=16384->((∃l∈x.1,(l.length:Int)≠x.2.1)->r.1=zm/\r.2.1=4)/\((∀l∈x.1,(l.length:Int)=x.2.1)->Vk x.1.length x.2.1.toNat (λi j=>rv ((x.1.getD i []).getD j zr)) r.1/\r.2.1=0)))
abbrev ty0:=(Wf×(Wf×(MM×MM)))×(List QQ)×Unit
def X4:A6:=S9 sr rx (fun(x:ty0)=>Iu x.1 1/\x.2.1.length=1/\Jv 8 x.1.2.2.1/\Jv 8 x.1.2.2.2/\He 8 x.2.1) (fun(x:ty0) (r:C6c)=>r.2.1=0/\r.1= [rc (P4 x.2.1 0/el x.1.2.2.2 0 0)])
def M7:A6:=Ck
def Hd:A6:=S9 rk [.own tQ 49, .val false .bool] (fun(x:fP)=>PC K1 x.1/\G6 x.1 x.2.1/\0<=x.2.1/\x.2.1<=16384) (fun(x:fP) (r:(List QQ)×Bool×Unit)=>r.1=dl x.2.1 (B6 x.1)/\r.2.1=true)
def Ci:A6:=sw [.val true qp] qr (fun(x:(Wf×MM)×Unit)=>Jv K1 x.1.2) (fun(x:(Wf×MM)×Unit) (r:W9)=>r.1=decide (Ra x.1))
def Ej:A6:=S9 [.val false qf, .val false qf, .fn [(true,tQ),(true,tQ)] true tQ] [.own tE 133] (fun(x:(List EE)×(List EE)×(((QQ×QQ×Unit)->Prop)×((QQ×QQ×Unit)->QQ))×Unit)=>x.1.length<=100000/\x.2.1.length<=100000/\∀u v,(u=zr\/∃e∈x.1,e.2=u)->(v=zr\/∃e∈x.2.1,e.2=v)->x.2.2.1.1 (u,v,())) (fun(x:(List EE)×(List EE)×(((QQ×QQ×Unit)->Prop)×((QQ×QQ×Unit)->QQ))×Unit) (r:Yu)=>r.1=J1 x.2.2.1.2 x.1 x.2.1)
def Bd:A6:=S9 rq rn (fun(x:Yu)=>gO x.1) (fun(x:Yu) (r:Yu)=>(asc x.1->r.1=x.1)/\(¬asc x.1->asc r.1/\(∀j,B6 r.1 j=B6 x.1 j)/\r.1.length<=20/\TY 16777216 r.1))
def Cq:A6:=S9 qy qt (fun(x:L8)=>F4 x.1) (fun(x:L8) (r:C7)=>r.1=rc (rv x.1))
def U6:A6:=sw re qr (fun(x:C8)=>True) (fun(x:C8) (r:W9)=>r.1=decide (0<=x.1/\x.1<=16384))
abbrev D2g:=(List EE)×Wf×Unit
def U7:A6:=S9 [.val false qf, .val false qg] [.val false qf, .val false .bool] (fun(x:D2g)=>PC K1 x.1/\x.2.1.length<=100000) (fun(x:D2g) (r:(List EE)×Bool×Unit)=>N7 x.2.1 x.2.1.length->(∀j,B6 x.1 j≠0->0<=j/\j<x.2.1.length)->XB (λi=>if 0<=i/\i<x.2.1.length then B6 x.1 (((List.idxOf i x.2.1:Nat)):Int)else 0) r.1/\r.2.1=true)
def Aj:A6:=sw sr qu (fun(x:ty0)=>x.1.1.length<=16384/\Jv K1 x.1.2.2.1/\Jv K1 x.1.2.2.2) (fun(x:ty0) (r:C8)=>(¬Iu x.1 x.1.1.length->r.1=1)/\(Iu x.1 x.1.1.length->(x.2.1.length≠x.1.1.length->r.1=4)/\(x.2.1.length=x.1.1.length->r.1=0)))
abbrev kO:=QQ×QQ×QQ×Unit
def Fl:A6:=S9 [.val true tQ, .val true tQ, .val true tQ] qt (fun(x:kO)=>sz K1 x.1/\sz K1 x.2.1/\sz K1 x.2.2.1) (fun(x:kO) (r:C7)=>(rv x.2.2.1=0->r.1=x.1)/\(rv x.2.2.1≠0->r.1=rc (rv x.1-rv x.2.1*rv x.2.2.1)))
def Oc:A6:=S9 rq rn (fun(x:Yu)=>Mz x.1) (fun(x:Yu) (r:Yu)=>XB (B6 x.1) r.1)
def Cv:A6:=S9 ry [.val false qo, .val false qg, .val false qb] (fun(x:A4i)=>eT x.2.1 x.1) (fun(x:A4i) (r:(List (List QQ))×Wf×Int×Unit)=>D1b x.2.1.toNat x.1 r.1 r.2.1 r.2.2.1)
def Ei:A6:=sw rk qr (fun(x:fP)=>True) (fun(x:fP) (r:W9)=>r.1=decide (G6 x.1 x.2.1))
def Ki:A6:=sw rk qr (fun(x:fP)=>TY K1 x.1) (fun(x:fP) (r:W9)=>r.1=decide (G6 x.1 x.2.1))
def Ts:A6:=S9 rk qt (fun(x:fP)=>Mz x.1) (fun(x:fP) (r:C7)=>r.1=rc (B6 x.1 x.2.1))
abbrev D2h:=(List EE)×QQ×(List EE)×Unit
def P9:A6:=S9 [.val false qf, .val true tQ, .val false qf] rn (fun(x:D2h)=>PC K1 x.1/\sz K1 x.2.1/\PC K1 x.2.2.1) (fun(x:D2h) (r:Yu)=>XB (λi=>B6 x.1 i+rv x.2.1*B6 x.2.2.1 i) r.1)
def W6:A6:=sw rq qr (fun(x:Yu)=>True) (fun(x:Yu) (r:W9)=>r.1=decide (asc x.1))
def F6:A6:=mkM [.row tE 133, .fn [(true,tE),(true,tE)] false (.int .i64)] [] (fun(x:(List EE)×(((EE×EE×Unit)->Prop)×((EE×EE×Unit)->Int))×Unit)=>AJ x.2.1.1 x.2.1.2/\x.1.length<=20) (fun(x:(List EE)×(((EE×EE×Unit)->Prop)×((EE×EE×Unit)->Int))×Unit) (r:Unit)=>True) (fun(x:(List EE)×(((EE×EE×Unit)->Prop)×((EE×EE×Unit)->Int))×Unit) (r:Unit) (o:Yu)=>o.1.Perm x.1/\Ys x.2.1.2 o.1)
abbrev WA:=EE×EE×Unit
def Be:A6:=sw [.val true tE, .val true tE] qu (fun(x:WA)=>True) (fun(x:WA) (r:C8)=>r.1=P6 x.1.1 x.2.1.1)
def O3:A6:=sw rr qr (fun(x:Bw)=>x.1.length<=100000) (fun(x:Bw) (r:W9)=>r.1=decide (N7 x.1 x.1.length))
def T7:A6:=sw [.val true qm, .val false qb] qr (fun(x:ty1)=>0<=x.2.1/\x.2.1<=16384/\Jv K1 x.1.2.2.1/\Jv K1 x.1.2.2.2) (fun(x:ty1) (r:W9)=>r.1=true↔Iu x.1 x.2.1)
def Ga:A6:=S9 [.val false (.sl qf)] rt (fun(x:(List (List EE))×Unit)=>x.1.length<=4/\∀v∈x.1,v.length<=100000) (fun(x:(List (List EE))×Unit) (r:Bw)=>r.1.Pairwise (· < ·)/\∀i,i∈r.1↔∃v∈x.1,∃e∈v,e.1=i)
def R6:A6:=S9 [.val true tQ, .val true tQ, .val false (.ptr tQ)] qt (fun(x:kO)=>sz K1 x.1/\sz K1 x.2.1/\sz K1 x.2.2.1) (fun(x:kO) (r:C7)=>r.1=rc (rv x.1+rv x.2.2.1*rv x.2.1))
def I4:A6:=mkM [.row tE 133, .val false qb, .fn [(true,tE),(true,tE)] false qb] [] (fun(x:(List EE)×Int×(((EE×EE×Unit)->Prop)×((EE×EE×Unit)->Int))×Unit)=>AJ x.2.2.1.1 x.2.2.1.2/\x.2.1=(x.1.length:Int)/\x.1.length<=20) (fun(x:(List EE)×Int×(((EE×EE×Unit)->Prop)×((EE×EE×Unit)->Int))×Unit) (r:Unit)=>True) (fun(x:(List EE)×Int×(((EE×EE×Unit)->Prop)×((EE×EE×Unit)->Int))×Unit) (r:Unit) (o:Yu)=>o.1.Perm x.1/\Ys x.2.2.1.2 o.1)
def F8:A6:=mkM [.row tE 133, .val false qb, .val false qb, .fn [(true,tE),(true,tE)] false qb] [] (fun(x:(List EE)×Int×Int×(((EE×EE×Unit)->Prop)×((EE×EE×Unit)->Int))×Unit)=>AJ x.2.2.2.1.1 x.2.2.2.1.2/\0<=x.2.1/\x.2.1<=x.2.2.1/\x.2.2.1<=(x.1.length:Int)/\x.1.length<=100000) (fun(x:(List EE)×Int×Int×(((EE×EE×Unit)->Prop)×((EE×EE×Unit)->Int))×Unit) (r:Unit)=>True) (fun(x:(List EE)×Int×Int×(((EE×EE×Unit)->Prop)×((EE×EE×Unit)->Int))×Unit) (r:Unit) (o:Yu)=>o.1.Perm x.1/\o.1.take x.2.1.toNat=x.1.take x.2.1.toNat/\o.1.drop x.2.2.1.toNat=x.1.drop x.2.2.1.toNat/\Ys x.2.2.2.1.2 ((o.1.drop x.2.1.toNat).take (x.2.2.1.toNat-x.2.1.toNat)))
def O1:A6:=sw sm qr (fun(x:VZ)=>0<=x.2.1/\x.2.1<=16384) (fun(x:VZ) (r:W9)=>r.1=decide (N7 x.1 x.2.1))
def O9:A6:=sw [.val true tM, .val false (.ptr qb)] qr (fun(x:cM)=>True) (fun(x:cM) (r:W9)=>r.1=decide (sqr x.1 x.2.1))
def Jp:A6:=S9 [.row tE 133, .val false qb, .val false qb, .val false qb, .fn [(true,tE),(true,tE)] false qb] [] (fun(x:(List EE)×Int×Int×Int×(((EE×EE×Unit)->Prop)×((EE×EE×Unit)->Int))×Unit)=>False) (fun(x:(List EE)×Int×Int×Int×(((EE×EE×Unit)->Prop)×((EE×EE×Unit)->Int))×Unit) (r:Unit)=>True)
def pZ9:Nat→Nat→Pl→Pl
 | _,0,k=>k
 |i,n+1,k=> .p i (pZ9 (i+1) n k)
def vI:List Xb:= [.val (.int .i64)]
def vU:List Xb:= [.val (.int .u64)]
def US:An:= {loop:= [(4,⟨[1,20,21],[0],[(22,false,vI)],[],[]⟩)]}
def lI:An:= {loop:= [(3,⟨[7,8],[],[(3,false,[.own qq 83]),(9,false,vI)],[],[]⟩)]}
def lJ:An:= {plan:= [(1,[1,2],[],true, .done)]}
def Fg (P:Int×Unit->Prop):Prop:=∀r:Int×Unit,G5 r.1/\True->P r
abbrev Rj:=(Int×List (Int×Int×QQ×(Bool×Wf)×Wf))×Unit
def Xj(x:Rj):Prop:=let e:=(0:Int);let d:=(G9 (decide (x.1.1<e)) true (decide (16384<x.1.1)));let c:=(x.1.2.length:Int);let g:=(decide ((16384:Int)<c));(iB (G9 d true g) (false=decide (D3 x.1)) (∃(I:C8->Prop),∃(b: _->Nat),I (e,())/\∀(p:C8),let f:=(i64.wrap (p.1+1),());let a:=(gx (e,e,dQ,(false,[]),[]) x.1.2 p.1);let h:=(decide (a.1=a.2.1));let d:=(G9 (G9 (G9 (decide (a.1<e)) true (decide (x.1.1<=a.1))) true (decide (a.2.1<e))) true (decide (x.1.1<=a.2.1)));(Ty.int i64).wf p.1/\True->I p->(iB (decide (p.1<c)) ((e<=p.1/\p.1<c)/\(iB (G9 d true h) (false=decide (D3 x.1)) (True/\Fg λr=>r.1=(rv a.2.2.1).num.sign->(iB (decide (r.1<=e)) (false=decide (D3 x.1)) (I f/\b f<b p))))) (true=decide (D3 x.1)))))
abbrev D3e:=List (Int×Int)×Int×Unit
def OM(x:Rj):Prop:=let e:=(0:Int);let c:=(x.1.2.length:Int);∃(I:D3e->Prop),∃(f: _->Nat),I ([],e,())/\∀(p:D3e),let a:=(gx (e,e,dQ,(false,[]),[]) x.1.2 p.2.1);let d:=(a.1,a.2.1);let b:=(p.1++ [d],i64.wrap (p.2.1+1),());((Ty.int i64).pair (Ty.int i64)).sl.wf p.1/\(Ty.int i64).wf p.2.1/\True->I p->(iB (decide (p.2.1<c)) ((e<=p.2.1/\p.2.1<c)/\((p.1.length+ [d].length)*(16:Nat)<=(140737488355328:Nat)/\p.1.length+ [d].length<=9223372036854775807)/\I b/\f b<f p) (p.1=Lf x.1.2))
def rT1 (P:Wf×Unit->Prop):Prop:=∀r:Wf×Unit,eP r.1/\True->P r
def ON(x:Rj):Prop:=List.length x.1.2<=100000/\∀(r:List (Int×Int)×Unit),(List.length r.1<=9223372036854775807/\∀(x:Int×Int),x∈r.1->G5 x.1/\G5 x.2)/\True->r.1=Lf x.1.2->A2z x.1.1 r.1/\rT1 λa=>a.1=S4 x.1.1 r.1->a.1=S4 x.1.1 (Lf x.1.2)
def KX:An:= {}
def UW:An:= {loop:= [(4,⟨[1,24,25],[0],[(26,false,vI)],[],[]⟩)]}
noncomputable def Wn:H7:= []
def Va:An:= {}
def FE:An:= {loop:= [(4,⟨[0,1,4,21,22],[0],[(23,false,vI)],[],[]⟩),(11,⟨[4,8,37,38],[0,3],[(39,false,vI)],[],[(2, .row qf 88)]⟩)],plan:= [(13,[1],[6],true, .done)]}
noncomputable def GE:H7:= [(157,M7),(173,U6),(174,Df (Xd ⟨prog,tys⟩ [(36,Wn,Va)] f174.results.toList (f174.body.getD .skip) f174.ntmps))]
def Qg(x:C8):Prop:=G9 (decide (0<=x.1)) (decide (x.1<=16384)) false=decide (0<=x.1/\x.1<=16384)
def Lh (P:Bool×Unit->Prop):Prop:=∀r:Bool×Unit,True/\True->P r
def Xn(x:Kt):Prop:=let d:=(0:Int);let a:=(x.1.2.2.length:Int);let f:=(decide (a≠x.1.1));True/\Lh λr=>r.1=decide (d<=x.1.1/\x.1.1<=16384)->((!r.1)=false->True)/\∀(e:W9),((!r.1)=false->(True/\True)/\e.1=decide (d<=x.1.2.1/\x.1.2.1<=16384))->(iB (G9 (G9 (!r.1) true !e.1) true f) (false=decide (D4 x.1)) (∃(I:C8->Prop),∃(c: _->Nat),I (d,())/\∀(p:C8),let b:=(i64.wrap (p.1+1),());(Ty.int i64).wf p.1/\True->I p->(iB (decide (p.1<a)) ((d<=p.1/\p.1<a)/\True/\Lh λr=>r.1=decide (G6 (gx [] x.1.2.2 p.1) x.1.2.1)->(iB ((!r.1)) (false=decide (D4 x.1)) (I b/\c b<c p))) (true=decide (D4 x.1)))))
def oG (P:List EE×Unit->Prop):Prop:=∀r:List EE×Unit,PE r.1/\True->P r
abbrev C6h:=Int×List (List EE)×Unit
abbrev fR:=List (List QQ)×Int×Unit
def Lk(x:fR):Prop:=let t:=(4:Int);let s:=(3:Int);let m:=(16384:Nat);let h:=(0:Int);let g:=(x.1.length:Int);let d:Prop:=(∀(l:List QQ),l∈x.1->(↑l.length:Int)=x.2.1);let c:Prop:=(∃(l:List QQ),l∈x.1/\(↑l.length:Int)≠x.2.1);let a:Prop:=(h<=x.2.1/\x.2.1<=16384);True/\Lh λr=>r.1=decide a->((!r.1)=false->True)/\∀(u:W9),((!r.1)=false->(True/\True)/\u.1=decide (h<=g/\g<=(16384:Int)))->(iB ((G9 (!r.1) true !u.1)) ((¬a\/m<x.1.length->(h,h,[])=zm/\s=s)/\(a/\x.1.length<=m->(c->(h,h,[])=zm/\s=t)/\(d->Vk x.1.length x.2.1.toNat (fun(i j:Nat)=>rv ((x.1.getD i []).getD j zr)) (h,h,[])/\s=h))) (∃(I:C8->Prop),∃(b: _->Nat),I (h,())/\∀(p:C8),let q:=(i64.wrap (p.1+1),());let k:Prop:=((↑(gx [] x.1 p.1).length:Int)≠x.2.1);let f:Prop:=(p.1<g);(Ty.int i64).wf p.1/\True->I p->(iB (decide f) ((h<=p.1/\f)/\(iB (decide k) ((¬a\/m<x.1.length->(h,h,[])=zm/\t=s)/\(a/\x.1.length<=m->(c->(h,h,[])=zm/\t=t)/\(d->Vk x.1.length x.2.1.toNat (fun(i j:Nat)=>rv ((x.1.getD i []).getD j zr)) (h,h,[])/\t=h))) (I q/\b q<b p))) ((h<=g/\g<=g/\(↑(24:Nat):Int)*g<=(281474976710656:Int)/\g<=(9223372036854775807:Int))/\∃(I:C6h->Prop),∃(b: _->Nat),I (h,List.replicate g.toNat [],())/\∀(p:C6h),let o:=(g,x.2.1,p.2.1);let n:=(gx [] x.1 p.1);let e:Prop:=(p.1<g);(Ty.int i64).wf p.1/\Ye p.2.1/\True->I p->(iB (decide e) ((h<=p.1/\e)/\(n.length<=(100000:Nat)/\He K1 n)/\oG λr=>let k:=(i64.wrap (p.1+1),List.set p.2.1 p.1.toNat r.1,());mX n.length (fun(j:Nat)=>rv (n.getD j zr)) r.1->(h<=p.1/\p.1<(p.2.1.length:Int))/\I k/\b k<b p) ((¬a\/m<x.1.length->o=zm/\h=s)/\(a/\x.1.length<=m->(c->o=zm/\h=t)/\(d->Vk x.1.length x.2.1.toNat (fun(i j:Nat)=>rv ((x.1.getD i []).getD j zr)) o/\h=h))))))))
def A5u:An:= {join:= [(4,⟨[0,1,4,5,6],[0],[],[(1,49,[.val .bool, .val qa, .val qa])],[]⟩)],loop:= [(3,⟨[0,1,4,5],[0],[(6,false,vI)],[(1,49,[.val .bool, .val qa, .val qa])],[]⟩)],plan:= [(6,[0,5],[7],true, .done)]}
def YI:An:= {join:= [(7,⟨[5,6,9,10,11],[],[(3,false,[.own qb 3])],[],[]⟩)],loop:= [(9,⟨[3,5,6,9,10,11],[1],[(7,false,vI)],[],[]⟩),(6,⟨[5,9,10,11],[],[(3,false,[.own qb 3]),(6,false,vI)],[],[]⟩),(3,⟨[9,10],[],[(3,false,[.own qb 3]),(11,false,vI)],[],[]⟩)],plan:= [(9,[8,13],[],true, .done),(11,[8,13],[],true, .done)]}
def A0k:An:= {join:= [(8,⟨[0,9,10,11],[],[(3,false,[.own tE 133])],[],[]⟩)],loop:= [(3,⟨[0,9,10],[],[(3,false,[.own tE 133]),(11,false,vI)],[],[]⟩)]}
def lE:An:= {loop:= [(2,⟨[0,1],[],[(5,false,vI)],[],[]⟩)],plan:= [(4,[4,11,23,29,38],[],true, .done)]}
def PN:An:= {loop:= [(3,⟨[0],[],[(3,false,[.own tE 133]),(4,false,vI)],[],[]⟩)]}
def lC:An:= {loop:= [(5,⟨[0,1,6],[],[(7,false,vI)],[],[(0, .row tQ 49)]⟩)]}
def A0h:An:= {loop:= [(4,⟨[0,1],[],[(5,false,vI)],[],[]⟩)],plan:= [(6,[3,10,18,22],[],false, .done)]}
def I9 (P:QQ×Unit->Prop):Prop:=∀r:QQ×Unit,Zk r.1/\True->P r
abbrev B5i:=Bool×Wf×Wf×Unit
abbrev A4l:=Int×Bool×Wf×Wf×Unit
abbrev cN:=List EE×Int×Unit
def eG(x:cN):Prop:=let b:=(x.1.length:Int);True/\I9 λr=>r.1=rc (0:Rat)->∃(I:A4l->Prop),∃(g: _->Nat),I ((0:Int),r.1.1.1,r.1.1.2,r.1.2,())/\∀(p:A4l),let e:Prop:=(0<=p.1/\p.1<b);let d:=(gx G4 x.1 p.1);let a:=((p.2.1,p.2.2.1),p.2.2.2.1);(Ty.int i64).wf p.1/\Ty.bool.wf p.2.1/\(Ty.int u32).sl.wf p.2.2.1/\(Ty.int u32).sl.wf p.2.2.2.1/\True->I p->(iB (decide (p.1<b)) (∃(J:B5i->Prop),(e/\(iB (decide (d.1=x.2.1)) (e/\(F4 a/\F4 d.2)/\I9 λr=>r.1=rc (rv a+rv d.2)->J (r.1.1.1,r.1.1.2,r.1.2,())) (J (p.2.1,p.2.2.1,p.2.2.2.1,()))))/\∀(f:B5i),let c:=(i64.wrap (p.1+1),f.1,f.2.1,f.2.2.1,());Ty.bool.wf f.1/\(Ty.int u32).sl.wf f.2.1/\(Ty.int u32).sl.wf f.2.2.1/\True->J f->I c/\g c<g p) (a=rc (B6 x.1 x.2.1)))
abbrev D0h:=List (List EE)×Unit
abbrev fS:=Wf×Int×Unit
abbrev Ua:=Wf×Unit
def CR(x:D0h):Prop:=let s:=(140737488355328:Nat);let m:=(0:Int);let n:=m.toNat;∃(I:fS->Prop),∃(a: _->Nat),I ([],m,())/\∀(p:fS),let r:=(gx [] x.1 p.2.1);let f:Prop:=(p.2.1<(x.1.length:Int));(Ty.int i64).sl.wf p.1/\(Ty.int i64).wf p.2.1/\True->I p->(iB (decide f) ((m<=p.2.1/\f)/\∃(I_1:fS->Prop),∃(d: _->Nat),I_1 (p.1,m,())/\∀(w:fS),let q:=(w.1,i64.wrap (p.2.1+1),());let l:=(↑w.1.length:Int);let j:=(gx G4 r w.2.1);let h:Prop:=(w.2.1<(↑r.length:Int));let c:Prop:=(m<=w.2.1/\w.2.1<(↑r.length:Int));(Ty.int i64).sl.wf w.1/\(Ty.int i64).wf w.2.1/\True->I_1 w->(iB (decide h) (∃(J:Ua->Prop),(∃(I:C8->Prop),∃(a: _->Nat),I (m,())/\∀(y:C8),let t:=(i64.wrap (y.1+1),());let k:=y.1.toNat;let h:Prop:=(w.1.getD k m=j.1);let f:Prop:=(w.1.getD k m<j.1);let b:Prop:=(y.1<l);let u:=(decide b);let g:Prop:=(decide b=true->m<=y.1/\y.1<l);(Ty.int i64).wf y.1/\True->I y->g/\(decide b=true->c)/\(iB (G9 u (decide f) false) (I t/\a t<a y) (g/\(decide b=true->c)/\(iB (G9 u (decide h) false) (J (w.1,())) ((m<=m/\m<=y.1/\y.1<=l)/\(((0:Nat)+(List.drop n (List.take k w.1)).length)*(8:Nat)<=s/\(0:Nat)+(List.drop n (List.take k w.1)).length<=9223372036854775807)/\c/\(((List.drop n (List.take k w.1)).length+ [j.1].length)*(8:Nat)<=s/\(List.drop n (List.take k w.1)).length+ [j.1].length<=9223372036854775807)/\(m<=y.1/\y.1<=l/\l<=l)/\(((List.drop n (List.take k w.1)++ [j.1]).length+(List.drop k (List.take l.toNat w.1)).length)*(8:Nat)<=s/\(List.drop n (List.take k w.1)++ [j.1]).length+(List.drop k (List.take l.toNat w.1)).length<=9223372036854775807)/\J (List.drop n (List.take k w.1)++ [j.1]++List.drop k (List.take l.toNat w.1),()))))))/\∀(p:Ua),let o:=(p.1,i64.wrap (w.2.1+1),());(Ty.int i64).sl.wf p.1/\True->J p->I_1 o/\d o<d w) (I q/\a q<a p))) (List.Pairwise (fun(b c:Int)=>b<c) p.1/\∀(i:Int),i∈p.1↔∃(v:List EE),v∈x.1/\∃(e:EE),e∈v/\e.1=i))
abbrev Yv:=List EE×Unit
def UN(x:Yv):Prop:=let d:=(0:Int);([x.1].length<=(4:Nat)/\∀(v:List EE),v∈ [x.1]->v.length<=(100000:Nat))/\rT1 λr=>let b:=(r.1.length:Int);(List.Pairwise (fun(a c:Int)=>a<c) r.1/\∀(i:Int),i∈r.1↔∃(v:List EE),v∈ [x.1]/\∃(e:EE),e∈v/\e.1=i)->∃(I:cN->Prop),∃(j: _->Nat),I ([],d,())/\∀(p:cN),tE.sl.wf p.1/\(Ty.int i64).wf p.2.1/\True->I p->(iB (decide (p.2.1<b)) (∃(J:Yv->Prop),((d<=p.2.1/\p.2.1<b)/\Mz x.1/\I9 λf=>let a:=(gx d r.1 p.2.1,f.1);f.1=rc (B6 x.1 (gx d r.1 p.2.1))->F4 f.1/\Fg λh=>h.1=(rv f.1).num.sign->(iB (decide (h.1≠d)) (((p.1.length+ [a].length)*(64:Nat)<=(140737488355328:Nat)/\p.1.length+ [a].length<=9223372036854775807)/\J (p.1++ [a],())) (J (p.1,()))))/\∀(g:Yv),let c:=(g.1,i64.wrap (p.2.1+1),());tE.sl.wf g.1/\True->J g->I c/\j c<j p) (Br p.1/\∀(i:Int),B6 p.1 i=B6 x.1 i))
def OF(x:cN):Prop:=let i:=(1:Int);let e:=(0:Int);let c:=(x.1.length:Int);∃(I:C8->Prop),∃(j: _->Nat),I (e,())/\∀(p:C8),let g:=(i64.wrap (p.1+i),());let d:=(gx G4 x.1 p.1);let h:=(decide (d.1<e));let f:=(decide (x.2.1<=d.1));let b:=(G9 h true f);let a:=(G9 (decide (e<p.1)) (decide (d.1<=(gx G4 x.1 (i64.wrap (p.1-i))).1)) false);(Ty.int i64).wf p.1/\True->I p->(iB (decide (p.1<c)) ((e<=p.1/\p.1<c)/\(decide (d.1<e)=false->e<=p.1/\p.1<c)/\(decide (e<p.1)=true/\G9 h true f=false->e<=p.1/\p.1<c)/\(decide (e<p.1)=true/\G9 h true f=false->e<=i64.wrap (p.1-i)/\i64.wrap (p.1-i)<c)/\(G9 b true a=false->e<=p.1/\p.1<c)/\(G9 b true a=false->F4 d.2)/\∀(r:C8),(G9 b true a=false->(G5 r.1/\True)/\r.1=(rv d.2).num.sign)->(iB (G9 (G9 b true a) true (decide (r.1=e))) (false=decide (G6 x.1 x.2.1)) (I g/\j g<j p))) (true=decide (G6 x.1 x.2.1)))
abbrev kM:=List QQ×Unit
def Uh(x:kM):Prop:=let c:=(x.1.length:Int);∃(I:cN->Prop),∃(d: _->Nat),I ([],(0:Int),())/\∀(p:cN),let a:=(p.2.1,gx dQ x.1 p.2.1);let b:=(p.1++ [a],i64.wrap (p.2.1+1),());tE.sl.wf p.1/\(Ty.int i64).wf p.2.1/\True->I p->(iB (decide (p.2.1<c)) ((0<=p.2.1/\p.2.1<c)/\((p.1.length+ [a].length)*(64:Nat)<=(140737488355328:Nat)/\p.1.length+ [a].length<=9223372036854775807)/\I b/\d b<d p) (Mz p.1/\oG λr=>XB (B6 p.1) r.1->Br r.1/\(∀(e:D9),e∈r.1->0<=e.1/\e.1<(↑x.1.length:Int))/\∀(j:Nat),j<x.1.length->B6 r.1 (↑j:Int)=rv (x.1.getD j zr)))
abbrev Ku:=Int×List QQ×Unit
def OD(x:cN):Prop:=let d:=(0:Int);let b:=(decide (x.2.1<d));let a:=(decide (16384<x.2.1));(G9 b true a=false->Mz x.1)/\∀(r:Yv),(G9 b true a=false->(PE r.1/\True)/\XB (B6 x.1) r.1)->(G9 b true a=false->TY K1 r.1)/\∀(e:W9),(G9 b true a=false->(True/\True)/\e.1=decide (G6 r.1 x.2.1))->(iB ((G9 (G9 b true a) true !e.1)) (Bh QQ=dl x.2.1 (B6 x.1)/\false=true) ((d<=x.2.1/\x.2.1<=x.2.1/\(↑(56:Nat):Int)*x.2.1<=281474976710656/\x.2.1<=9223372036854775807)/\∃(I:Ku->Prop),∃(f: _->Nat),I (d,List.replicate x.2.1.toNat dQ,())/\∀(p:Ku),(Ty.int i64).wf p.1/\OZ p.2.1/\True->I p->(iB (decide (p.1<x.2.1)) (Mz x.1/\I9 λr=>let c:=(i64.wrap (p.1+1),List.set p.2.1 p.1.toNat r.1,());r.1=rc (B6 x.1 p.1)->(d<=p.1/\p.1<(p.2.1.length:Int))/\I c/\f c<f p) (p.2.1=dl x.2.1 (B6 x.1)/\true=true))))
def UK(x:List QQ×List QQ×Unit):Prop:=let f:=(0:Int);let c:=(x.2.1.length:Int);let b:Prop:=(x.1=x.2.1/\∀(e:QQ),e∈x.1->e=rc (rv e));let a:=(x.1.length:Int);(iB (decide (a≠c)) (false=decide b) (∃(I:C8->Prop),∃(j: _->Nat),I (f,())/\∀(p:C8),let g:=(gx dQ x.2.1 p.1);let d:=(i64.wrap (p.1+1),());(Ty.int i64).wf p.1/\True->I p->(iB (decide (p.1<a)) ((f<=p.1/\p.1<a)/\F4 (gx dQ x.1 p.1)/\Lh λr=>r.1=decide (gx dQ x.1 p.1=rc (rv (gx dQ x.1 p.1)))->((!r.1)=false->f<=p.1/\p.1<c)/\((!r.1)=false->F4 g)/\∀(h:W9),((!r.1)=false->(True/\True)/\h.1=decide (gx dQ x.2.1 p.1=rc (rv g)))->((G9 (!r.1) true !h.1)=false->f<=p.1/\p.1<a)/\((G9 (!r.1) true !h.1)=false->f<=p.1/\p.1<c)/\((G9 (!r.1) true !h.1)=false->True)/\∀(i:W9),((G9 (!r.1) true !h.1)=false->(True/\True)/\i.1=decide (gx dQ x.1 p.1=gx dQ x.2.1 p.1))->(iB ((G9 (G9 (!r.1) true !h.1) true !i.1)) (false=decide b) (I d/\j d<j p))) (true=decide b))))
def FN:An:= {loop:= [(2,⟨[0],[],[(3,false,vI)],[],[]⟩)],plan:= [(4,[5,10],[],true, .done)]}
def VM:An:= {join:= [(13,⟨[2,7,9,10],[1],[(0,false,[.val qf]),(1,false,[.val qf]),(8,false,vI)],[(2,49,[.val .bool, .val qa, .val qa]),(3,49,[.val .bool, .val qa, .val qa])],[]⟩)],loop:= [(2,⟨[2],[],[(0,false,[.val qf]),(1,false,[.val qf]),(7,false,[.own tE 133])],[],[]⟩)],plan:= [(5,[11,15],[],true, .done),(6,[3,7],[9],true, .done),(11,[3,7],[9],true, .done)]}
def VL:An:= {loop:= [(4,⟨[1,10,11],[],[(12,false,vI)],[],[]⟩)]}
def PT:An:= {}
def YO:An:= {}
def fB:An:= {join:= [(7,⟨[1,4,5,9,10,11],[0],[],[(1,49,[.val .bool, .val qa, .val qa])],[]⟩)],loop:= [(3,⟨[1,4,5,9,10],[0],[(11,false,vI)],[(1,49,[.val .bool, .val qa, .val qa])],[]⟩)]}
def FM:An:= {join:= [(7,⟨[6,7,8],[],[(3,false,[.own tE 133])],[],[]⟩)],loop:= [(3,⟨[6,7],[],[(3,false,[.own tE 133]),(8,false,vI)],[],[]⟩)]}
def Yj:An:= {plan:= [(3,[0,1,2],[5],true, .done)]}
def FL:An:= {}
def Rz:An:= {loop:= [(3,⟨[0,3,9,10],[],[(11,false,vI)],[],[(0, .row .bool 4)]⟩)]}
def Lt(x:Yv):Prop:=let d:=(1:Int);let a:=(x.1.length:Int);∃(I:C8->Prop),∃(b: _->Nat),I (d,())/\∀(p:C8),let c:=(i64.wrap (p.1+d),());let f:Prop:=((gx G4 x.1 p.1).1<=(gx G4 x.1 (i64.wrap (p.1-d))).1);(Ty.int i64).wf p.1/\True->I p->(iB (decide (p.1<a)) (((0:Int)<=i64.wrap (p.1-d)/\i64.wrap (p.1-d)<a)/\(0<=p.1/\p.1<a)/\(iB (decide f) (false=decide (asc x.1)) (I c/\b c<b p))) (true=decide (asc x.1)))
abbrev D3h:=List EE×List EE×Int×Bool×Wf×Wf×Bool×Wf×Wf×Unit
abbrev D3i:=List EE×List EE×List EE×Unit
def Ya:A2 Ej.args->Prop:=fun(x:List EE×List EE×((QQ×QQ×Unit->Prop)×(QQ×QQ×Unit->(Bool×Wf)×Wf))×Unit)=>let w:=(1:Int);let t:=(x.1.length:Int);let s:=w.toNat;let q:=(x.2.1.length:Int);let j:=(0:Int);(j<=j/\j<=Max.max t q/\(↑(64:Nat):Int)*Max.max t q<=(281474976710656:Int)/\Max.max t q<=(9223372036854775807:Int))/\∃(I:D3i->Prop),∃(a: _->Nat),I (x.1,x.2.1,List.replicate j.toNat G4,())/\∀(p:D3i),let n:=(gx G4 p.1 j);let m:=(gx G4 p.2.1 j);let l:=(p.1.length:Int);let k:=(p.2.1.length:Int);let g:Prop:=(m.1=n.1);let c:Prop:=(n.1<=m.1);let e:Prop:=(j<=j/\j<k);let d:Prop:=(k=j);let f:Prop:=(j<=w/\w<=k/\k<=k);let b:Prop:=(j<l);let y:=(G9 (decide b) (decide c) false);let c:Prop:=(j<k);let z:=(decide c);let h:Prop:=(j<=j/\c);tE.sl.wf p.1/\tE.sl.wf p.2.1/\tE.sl.wf p.2.2.1/\True->I p->(iB (G9 (decide b) true z) (∃(J:D3h->Prop),((decide b=true/\decide d=false->j<=j/\j<l)/\(decide b=true/\decide d=false->e)/\(iB (G9 (decide d) true y) ((j<=j/\b)/\(j<=j/\b)/\(j<=w/\w<=l/\l<=l)/\(decide c=true->e)/\(iB (G9 z (decide g) false) (h/\f/\J (List.drop s (List.take l.toNat p.1),List.drop s (List.take k.toNat p.2.1),n.1,n.2.1.1,n.2.1.2,n.2.2,m.2.1.1,m.2.1.2,m.2.2,())) (J (List.drop s (List.take l.toNat p.1),p.2.1,n.1,n.2.1.1,n.2.1.2,n.2.2,false,[],[],())))) (h/\h/\f/\J (p.1,List.drop s (List.take k.toNat p.2.1),m.1,false,[],[],m.2.1.1,m.2.1.2,m.2.2,()))))/\∀(A:D3h),let v:=(A.1,A.2.1,p.2.2.1,());let i:=(((A.2.2.2.1,A.2.2.2.2.1),A.2.2.2.2.2.1),((A.2.2.2.2.2.2.1,A.2.2.2.2.2.2.2.1),A.2.2.2.2.2.2.2.2.1),());let o:=(A.2.2.1,x.2.2.1.2 i);let u:=(A.1,A.2.1,p.2.2.1++ [o],());tE.sl.wf A.1/\tE.sl.wf A.2.1/\(Ty.int i64).wf A.2.2.1/\Ty.bool.wf A.2.2.2.1/\(Ty.int u32).sl.wf A.2.2.2.2.1/\(Ty.int u32).sl.wf A.2.2.2.2.2.1/\Ty.bool.wf A.2.2.2.2.2.2.1/\(Ty.int u32).sl.wf A.2.2.2.2.2.2.2.1/\(Ty.int u32).sl.wf A.2.2.2.2.2.2.2.2.1/\True->J A->Go.Proofs.Tryz.prog=Go.Proofs.Tryz.prog/\x.2.2.1.1 i/\(tQ.wf (x.2.2.1.2 i)->True/\Fg λr=>r.1=(rv (x.2.2.1.2 i)).num.sign->(iB (decide (r.1≠j)) (((p.2.2.1.length+ [o].length)*(64:Nat)<=(140737488355328:Nat)/\p.2.2.1.length+ [o].length<=9223372036854775807)/\I u/\a u<a p) (I v/\a v<a p)))) (p.2.2.1=J1 x.2.2.1.2 x.1 x.2.1))
def Xz(x:cN):Prop:=let f:=(0:Int);let d:=(x.1.length:Int);True/\Lh λr=>r.1=decide (asc x.1)->(iB ((!r.1)) (false=decide (G6 x.1 x.2.1)) (∃(I:C8->Prop),∃(g: _->Nat),I (f,())/\∀(p:C8),let e:=(i64.wrap (p.1+1),());let a:=(gx G4 x.1 p.1);let c:=(decide (a.1<f));let b:=(decide (x.2.1<=a.1));(Ty.int i64).wf p.1/\True->I p->(iB (decide (p.1<d)) ((f<=p.1/\p.1<d)/\(G9 c true b=false->True)/\∀(r:C8),(G9 c true b=false->(G5 r.1/\True)/\r.1=(rv a.2).num.sign)->(iB (G9 (G9 c true b) true (decide (r.1=f))) (false=decide (G6 x.1 x.2.1)) (I e/\g e<g p))) (true=decide (G6 x.1 x.2.1)))))
def Uo(x:L8):Prop:=F4 x.1/\I9 λr=>r.1=rc (rv x.1)->r.1=rc (rv x.1)
def DC(x:Yv):Prop:=gO x.1/\oG λr=>(asc x.1->r.1=x.1)/\(¬asc x.1->asc r.1/\(∀(j:Int),B6 r.1 j=B6 x.1 j)/\r.1.length<=(20:Nat)/\TY (16777216:Nat) r.1)->∃(c:L8->Prop),∃(b:L8->(Bool×Wf)×Wf),(∀(y:L8),tQ.wf y.1/\tQ.wf y.2.1/\True->c y->F4 y.1/\I9 λz=>z.1=rc (rv y.1)->true=true/\z.1=b y)/\(List.length r.1<=100000/\(0:Nat)<=(100000:Nat)/\∀(u v:B7),(u=zr\/∃(e:EE),e∈r.1/\e.2=u)->(v=zr\/∃(e:EE),e∈ []/\e.2=v)->(c,b).1 (u,v,()))/\oG λa=>a.1=J1 b r.1 []->Br a.1/\∀(i:Int),B6 a.1 i=B6 x.1 i
def HQ(x:cN):Prop:=let c:=(x.1.length:Int);True/\I9 λr=>r.1=ri (0:Int)->∃(I:A4l->Prop),∃(f: _->Nat),I ((0:Int),r.1.1.1,r.1.1.2,r.1.2,())/\∀(p:A4l),let d:=(gx G4 x.1 p.1);let a:=((p.2.1,p.2.2.1),p.2.2.2.1);(Ty.int i64).wf p.1/\Ty.bool.wf p.2.1/\(Ty.int u32).sl.wf p.2.2.1/\(Ty.int u32).sl.wf p.2.2.2.1/\True->I p->(iB (decide (p.1<c)) (∃(J:B5i->Prop),((0<=p.1/\p.1<c)/\(iB (decide (d.1=x.2.1)) ((F4 a/\F4 d.2)/\I9 λr=>r.1=rc (rv a+rv d.2)->J (r.1.1.1,r.1.1.2,r.1.2,())) (J (p.2.1,p.2.2.1,p.2.2.2.1,()))))/\∀(e:B5i),let b:=(i64.wrap (p.1+1),e.1,e.2.1,e.2.2.1,());Ty.bool.wf e.1/\(Ty.int u32).sl.wf e.2.1/\(Ty.int u32).sl.wf e.2.2.1/\True->J e->I b/\f b<f p) (a=rc (B6 x.1 x.2.1)))
def Ls(x:kM):Prop:=let f:=(0:Int);let a:=(x.1.length:Int);∃(I:cN->Prop),∃(h: _->Nat),I ([],f,())/\∀(p:cN),let c:=(gx dQ x.1 p.2.1);tE.sl.wf p.1/\(Ty.int i64).wf p.2.1/\True->I p->(iB (decide (p.2.1<a)) (∃(J:Yv->Prop),((f<=p.2.1/\p.2.1<a)/\True/\Fg λr=>r.1=(rv c).num.sign->(iB (decide (r.1≠f)) (F4 c/\I9 λr=>let d:=(p.2.1,r.1);r.1=rc (rv c)->((p.1.length+ [d].length)*(64:Nat)<=(140737488355328:Nat)/\p.1.length+ [d].length<=9223372036854775807)/\J (p.1++ [d],())) (J (p.1,()))))/\∀(g:Yv),let b:=(g.1,i64.wrap (p.2.1+1),());tE.sl.wf g.1/\True->J g->I b/\h b<h p) (Br p.1/\(∀(e:D9),e∈p.1->f<=e.1/\e.1<(↑x.1.length:Int))/\∀(j:Nat),j<x.1.length->B6 p.1 (↑j:Int)=rv (x.1.getD j zr)))
def Je(x:kO):Prop:=let a:=(rv x.1+rv x.2.2.1*rv x.2.1);True/\Fg λr=>r.1=(rv x.2.1).num.sign->(iB (decide (r.1=0)) (F4 x.1/\I9 λr=>r.1=rc (rv x.1)->r.1=rc a) ((F4 x.2.2.1/\F4 x.2.1)/\I9 λr=>r.1=rc (rv x.2.2.1*rv x.2.1)->(F4 x.1/\F4 r.1)/\I9 λb=>b.1=rc (rv x.1+rv r.1)->b.1=rc a))
def Lr(x:List EE×QQ×List EE×Unit):Prop:=gO x.1/\oG λr=>(asc x.1->r.1=x.1)/\(¬asc x.1->asc r.1/\(∀(j:Int),B6 r.1 j=B6 x.1 j)/\r.1.length<=(20:Nat)/\TY (16777216:Nat) r.1)->gO x.2.2.1/\oG λa=>(asc x.2.2.1->a.1=x.2.2.1)/\(¬asc x.2.2.1->asc a.1/\(∀(j:Int),B6 a.1 j=B6 x.2.2.1 j)/\a.1.length<=(20:Nat)/\TY (16777216:Nat) a.1)->∃(d:L8->Prop),∃(c:L8->(Bool×Wf)×Wf),(∀(y:L8),tQ.wf y.1/\tQ.wf y.2.1/\True->d y->(sz K1 y.1/\sz K1 y.2.1/\sz K1 x.2.1)/\I9 λz=>z.1=rc (rv y.1+rv x.2.1*rv y.2.1)->true=true/\z.1=c y)/\(List.length r.1<=100000/\List.length a.1<=100000/\∀(u v:B7),(u=zr\/∃(e:EE),e∈r.1/\e.2=u)->(v=zr\/∃(e:EE),e∈a.1/\e.2=v)->(d,c).1 (u,v,()))/\oG λb=>b.1=J1 c r.1 a.1->Br b.1/\∀(i:Int),B6 b.1 i=B6 x.1 i+rv x.2.1*B6 x.2.2.1 i
abbrev B5n:=Int×List Bool×Unit
def Hh(x:Ua):Prop:=let i:=(↑x.1.length:Int);let b:=(0:Int);let a:=(x.1.length:Int);(b<=a/\a<=a/\(↑(1:Nat):Int)*a<=(281474976710656:Int)/\a<=(9223372036854775807:Int))/\∃(I:B5n->Prop),∃(d: _->Nat),I (b,List.replicate a.toNat false,())/\∀(p:B5n),let h:=(decide (gx b x.1 p.1<b));let g:=(decide (a<=gx b x.1 p.1));let f:=(p.2.1.length:Int);let e:=(List.getD p.2.1 (gx b x.1 p.1).toNat false);let j:=(G9 h true g);let c:=(i64.wrap (p.1+1),List.set p.2.1 (gx b x.1 p.1).toNat true,());(Ty.int i64).wf p.1/\(List.length p.2.1<=9223372036854775807/\∀(x:Bool),x∈p.2.1->True)/\True->I p->(iB (decide (p.1<a)) ((b<=p.1/\p.1<a)/\(G9 h true g=false->b<=gx b x.1 p.1/\gx b x.1 p.1<f)/\(iB (G9 j true e) (false=decide (N7 x.1 i)) ((b<=gx b x.1 p.1/\gx b x.1 p.1<f)/\I c/\d c<d p))) (true=decide (N7 x.1 i)))
def VF:An:= {plan:= [(13,[0,4],[10],true, .done),(14,[0],[5],true, .done)]}
def VK:An:= {}
def VI:An:= {}
def VJ:An:= {}
def FJ:An:= {plan:= [(1,[0,2],[],true, .done),(10,[0,4],[],true, .done)]}
def VH:An:= {}
def VG:An:= {}
def V7 (P:(Bool×Wf)×Unit->Prop):Prop:=∀r:(Bool×Wf)×Unit,pL r.1/\True->P r
def Q4 (P:Wf×Unit->Prop):Prop:=∀r:Wf×Unit,Ir r.1/\True->P r
abbrev oY:=(Bool×Wf)×Wf×Unit
abbrev Yt:=(Bool×Wf)×Unit
def Xt(x:L8):Prop:=let h:=(0:Nat);let g:=(0:Int);let e:=(rv x.1+rv x.2.1);True/\Fg λr=>r.1=(rv x.1).num.sign->(iB (decide (r.1=g)) (F4 x.2.1/\I9 λr=>r.1=rc (rv x.2.1)->r.1=rc e) (True/\Fg λr=>r.1=(rv x.2.1).num.sign->(iB (decide (r.1=g)) (F4 x.1/\I9 λr=>r.1=rc (rv x.1)->r.1=rc e) (True/\∀(r:A4m),G5 r.1/\G5 r.2.1/\True/\True->(J9 x.1->r.1=Sl x.1/\r.2.1=Pa x.1/\r.2.2.1=true)/\(¬J9 x.1->r.2.2.1=false)->True/\∀(m:A4m),G5 m.1/\G5 m.2.1/\True/\True->(J9 x.2.1->m.1=Sl x.2.1/\m.2.1=Pa x.2.1/\m.2.2.1=true)/\(¬J9 x.2.1->m.2.2.1=false)->(iB (G9 r.2.2.1 m.2.2.1 false) (g<i64.wrap (r.2.1*m.2.1)/\I9 λj=>j.1=rc (mkRat (i64.wrap (i64.wrap (r.1*m.2.1)+i64.wrap (m.1*r.2.1))) (i64.wrap (r.2.1*m.2.1)).toNat)->j.1=rc e) (True/\∀(r:oY),pL r.1/\Ir r.2.1/\True->(nv x.1.2=h->r.1=zi/\r.2.1= [(1:Int)])/\(nv x.1.2≠h->r.1=x.1.1/\r.2.1=x.1.2)->True/\∀(j:oY),let i:=(iv r.1*iv (false,j.2.1));let f:=(iv j.1*iv (false,r.2.1));let d:Prop:=(L3 r.1.2/\L3 j.2.1);let c:Prop:=(L3 j.1.2/\L3 r.2.1);let a:(Yt)->(Yt)->(Yt)->Prop:=(λl k n=>pL n.1/\True->n.1=ic (iv l.1+iv k.1)->(L3 r.2.1/\L3 j.2.1)/\Q4 λo=>o.1=nc (nv r.2.1*nv j.2.1)->(nv o.1≠h/\Gl n.1.2/\Gl o.1)/\I9 λr=>r.1=rc (mkRat (iv n.1) (nv o.1))->r.1=rc e);let b:(Yt)->(Yt)->Prop:=(λl k=>(L3 l.1.2/\L3 k.1.2)/\∀(n:Yt),a l k n);pL j.1/\Ir j.2.1/\True->(nv x.2.1.2=h->j.1=zi/\j.2.1= [(1:Int)])/\(nv x.2.1.2≠h->j.1=x.2.1.1/\j.2.1=x.2.1.2)->True/\Fg λp=>p.1=Dt (nv r.2.1) (nv j.2.1)->(iB (decide (p.1=g)) ((L3 r.1.2/\L3 j.1.2)/\V7 λl=>l.1=ic (iv r.1+iv j.1)->(nv r.2.1≠h/\Gl l.1.2/\Gl r.2.1)/\I9 λk=>k.1=rc (mkRat (iv l.1) (nv r.2.1))->k.1=rc e) ((d/\V7 λl=>l.1=ic i->(c/\V7 λk=>k.1=ic f->(b l k)/\(L3 l.1.2/\L3 k.1.2)/\∀(n:Yt),a l k n)/\c/\V7 λk=>k.1=ic f->b l k)/\d/\V7 λl=>l.1=ic i->c/\V7 λk=>k.1=ic f->b l k))))))))
def Xy(x:L8):Prop:=let a:=((!x.2.1.1.1,x.2.1.1.2),x.2.1.2);(F4 x.1/\F4 a)/\I9 λr=>r.1=rc (rv x.1+rv a)->r.1=rc (rv x.1-rv x.2.1)
def Xw(x:L8):Prop:=let b:=(rv x.1*rv x.2.1);let a:=(0:Nat);True/\∀(r:A4m),G5 r.1/\G5 r.2.1/\True/\True->(J9 x.1->r.1=Sl x.1/\r.2.1=Pa x.1/\r.2.2.1=true)/\(¬J9 x.1->r.2.2.1=false)->True/\∀(d:A4m),G5 d.1/\G5 d.2.1/\True/\True->(J9 x.2.1->d.1=Sl x.2.1/\d.2.1=Pa x.2.1/\d.2.2.1=true)/\(¬J9 x.2.1->d.2.2.1=false)->(iB (G9 r.2.2.1 d.2.2.1 false) ((0:Int)<i64.wrap (r.2.1*d.2.1)/\I9 λc=>c.1=rc (mkRat (i64.wrap (r.1*d.1)) (i64.wrap (r.2.1*d.2.1)).toNat)->c.1=rc b) (True/\∀(r:oY),pL r.1/\Ir r.2.1/\True->(nv x.1.2=a->r.1=zi/\r.2.1= [(1:Int)])/\(nv x.1.2≠a->r.1=x.1.1/\r.2.1=x.1.2)->True/\∀(c:oY),pL c.1/\Ir c.2.1/\True->(nv x.2.1.2=a->c.1=zi/\c.2.1= [(1:Int)])/\(nv x.2.1.2≠a->c.1=x.2.1.1/\c.2.1=x.2.1.2)->(L3 r.1.2/\L3 c.1.2)/\V7 λf=>f.1=ic (iv r.1*iv c.1)->(L3 r.2.1/\L3 c.2.1)/\Q4 λe=>e.1=nc (nv r.2.1*nv c.2.1)->(nv e.1≠a/\Gl f.1.2/\Gl e.1)/\I9 λr=>r.1=rc (mkRat (iv f.1) (nv e.1))->r.1=rc b))
def Xx(x:C7):Prop:=F4 x.1/\I9 λr=>r.1=rc (rv x.1)->Im r.1.1.2/\V7 λa=>a.1=ic (-iv r.1.1)->(a.1,r.1.2)=rc (-rv x.1)
def Lp(x:L8):Prop:=let c:=(0:Nat);let b:=(rv x.1);let a:=(rv x.2.1);True/\Fg λr=>r.1=b.num.sign->True/\Fg λf=>f.1=a.num.sign->(iB (decide (r.1≠f.1)) (True/\Fg λe=>e.1=P6 r.1 f.1->e.1=YU b a) (True/\∀(r:A4m),G5 r.1/\G5 r.2.1/\True/\True->(J9 x.1->r.1=Sl x.1/\r.2.1=Pa x.1/\r.2.2.1=true)/\(¬J9 x.1->r.2.2.1=false)->True/\∀(e:A4m),G5 e.1/\G5 e.2.1/\True/\True->(J9 x.2.1->e.1=Sl x.2.1/\e.2.1=Pa x.2.1/\e.2.2.1=true)/\(¬J9 x.2.1->e.2.2.1=false)->(iB (G9 r.2.2.1 e.2.2.1 false) (True/\Fg λd=>d.1=P6 (i64.wrap (r.1*e.2.1)) (i64.wrap (e.1*r.2.1))->d.1=YU b a) (True/\∀(r:oY),pL r.1/\Ir r.2.1/\True->(nv x.1.2=c->r.1=zi/\r.2.1= [(1:Int)])/\(nv x.1.2≠c->r.1=x.1.1/\r.2.1=x.1.2)->True/\∀(d:oY),pL d.1/\Ir d.2.1/\True->(nv x.2.1.2=c->d.1=zi/\d.2.1= [(1:Int)])/\(nv x.2.1.2≠c->d.1=x.2.1.1/\d.2.1=x.2.1.2)->(L3 r.1.2/\L3 d.2.1)/\V7 λg=>g.1=ic (iv r.1*iv (false,d.2.1))->(L3 d.1.2/\L3 r.2.1)/\V7 λh=>h.1=ic (iv d.1*iv (false,r.2.1))->True/\Fg λr=>r.1=P6 (iv g.1) (iv h.1)->r.1=YU b a))))
def Xv(x:C7):Prop:=let a:=(rv x.1);True/\Fg λr=>r.1=a.num.sign->(iB (decide (r.1=0)) ((rv x.1=(0:Rat)->false=false)/\(rv x.1≠(0:Rat)->dQ=rc a⁻¹/\false=true)) (F4 x.1/\I9 λr=>r.1=rc a->(rv x.1=(0:Rat)->true=false)/\(rv x.1≠(0:Rat)->((r.1.1.1,r.1.2),r.1.1.2)=rc a⁻¹/\true=true)))
def Xu(x:L8):Prop:=let b:=(rv x.1/rv x.2.1);let a:=((x.2.1.1.1,x.2.1.2),x.2.1.1.2);True/\Fg λr=>r.1=(rv x.2.1).num.sign->(iB (decide (r.1=0)) ((rv x.2.1=(0:Rat)->false=false)/\(rv x.2.1≠(0:Rat)->dQ=rc b/\false=true)) ((F4 x.1/\F4 a)/\I9 λr=>r.1=rc (rv x.1*rv a)->(rv x.2.1=(0:Rat)->true=false)/\(rv x.2.1≠(0:Rat)->r.1=rc b/\true=true)))
def FK:An:= {}
def LE:An:= {plan:= [(3,[1],[4],false, .done)]}
def PS:An:= {}
def LF:An:= {}
def Zo:An:= {join:= [(4,⟨[0,1,4],[0],[(5,false,vU)],[],[]⟩)],loop:= [(5,⟨[0,1,4,5],[0],[(6,false,vU),(7,false,vU)],[],[]⟩)],plan:= [(6,[],[],true, .done),(7,[],[13],true, .done)]}
def IB:An:= {join:= [(8,⟨[2,4],[1],[(1,false,[.val qa])],[(0,47,[.val .bool, .val qa])],[]⟩)]}
def PR:An:= {}
def Lq(x:C8):Prop:=True/\V7 λr=>r.1=ic x.1->(r.1,[(1:Int)])=ri x.1
def Qm(x:C7):Prop:=let d:=(1:Int);let c:=(0:Nat);let b:Prop:=(nv x.1.2=c->x.1.1=zi/\x.1.2= [d]);let a:Prop:=(nv x.1.2≠c->x.1.1=x.1.1/\x.1.2=x.1.2);True/\Fg λr=>r.1=Dt (nv x.1.2) (nv [])->(iB (decide (r.1=0)) ((nv x.1.2=c->(false,[])=zi/\ [d]= [d])/\(nv x.1.2≠c->(false,[])=x.1.1/\ [d]=x.1.2)) ((b/\a)/\b/\a))
def Um(x:C7):Prop:=True/\∀(r:oY),pL r.1/\Ir r.2.1/\True->(nv x.1.2=0->r.1=zi/\r.2.1= [(1:Int)])/\(nv x.1.2≠0->r.1=x.1.1/\r.2.1=x.1.2)->True/\Fg λa=>a.1=(iv r.1).sign->a.1=(rv x.1).num.sign
def Qn(x:C7):Prop:=let e:=(0:Int);let c:Prop:=(¬J9 x.1->true=false);let b:=(18446744073709551616:Nat);True/\∀(r:B5j),KO r.1/\True/\True->(nv x.1.1.2<b->r.1=(↑(nv x.1.1.2):Int)/\r.2.1=true)/\(b<=nv x.1.1.2->r.2.1=false)->True/\∀(f:B5j),let d:=(decide (2147483648<=f.1));let a:=(G9 (G9 (!r.2.1) true !f.2.1) true (decide (2147483648<=r.1)));KO f.1/\True/\True->(nv x.1.2<b->f.1=(↑(nv x.1.2):Int)/\f.2.1=true)/\(b<=nv x.1.2->f.2.1=false)->(iB (G9 a true d) ((J9 x.1->e=Sl x.1/\e=Pa x.1/\false=true)/\(¬J9 x.1->false=false)) ((iB (decide (f.1=e)) ((J9 x.1->e=Sl x.1/\(1:Int)=Pa x.1/\true=true)/\c) ((iB x.1.1.1 ((J9 x.1->i64.wrap (-i64.wrap r.1)=Sl x.1/\i64.wrap f.1=Pa x.1/\true=true)/\c) ((J9 x.1->i64.wrap r.1=Sl x.1/\i64.wrap f.1=Pa x.1/\true=true)/\c))))))
def Kx(x:En):Prop:=let a:=(0:Int);∃(J:C8->Prop),((iB (decide (x.1<a)) (J (u64.wrap (-u64.wrap x.1),())) (J (u64.wrap x.1,()))))/\∀(p:C8),(Ty.int u64).wf p.1/\True->J p->∃(I:En->Prop),∃(d: _->Nat),I (u64.wrap x.2.1,p)/\∀(c:En),let b:=(c.2.1,Int.tmod c.1 c.2.1,());(Ty.int u64).wf c.1/\(Ty.int u64).wf c.2.1/\True->I c->(iB (decide (c.2.1≠a)) (c.2.1≠a/\I b/\d b<d c) (c.1≠a/\c.1≠a/\True/\Q4 λr=>r.1=nc (u64.wrap (Int.tdiv p.1 c.1)).toNat->True/\Q4 λd=>d.1=nc (u64.wrap ((u64.wrap x.2.1).tdiv c.1)).toNat->((decide (x.1<a),r.1),d.1)=rc (mkRat x.1 x.2.1.toNat)))
abbrev D3l:=Wf×Bool×Wf×Unit
abbrev C2f:=Wf×Wf×Bool×Unit
def Ox(x:oY):Prop:=let g:=(0:Nat);let f:=(nv x.2.1);let c:=(1:Int);let b:=(0:Int);Im x.1.2/\V7 λr=>let d:=(r.1.2.length:Int);r.1=ic (iv x.1)->Im x.2.1/\Q4 λk=>k.1=nc f->(iB (decide (d=b)) (((false,[]),[c])=rc (mkRat (iv x.1) f)) ((Gl r.1.2/\Gl k.1)/\Q4 λh=>let e:=(decide (gx b h.1 b≠c));let a:=(h.1.length:Int);h.1=nc ((nv r.1.2).gcd (nv k.1))->∃(J:D3l->Prop),((decide (a≠c)=false->b<=b/\b<a)/\(iB (G9 (decide (a≠c)) true e) (L3 r.1.2/\∀(i:C2f),Ir i.1/\Ir i.2.1/\True/\True->(nv h.1=g->i.1= []/\i.2.1= []/\i.2.2.1=false)/\(nv h.1≠g->i.1=nc (nv r.1.2/nv h.1)/\i.2.1=nc (nv r.1.2%nv h.1)/\i.2.2.1=true)->L3 k.1/\∀(j:C2f),Ir j.1/\Ir j.2.1/\True/\True->(nv h.1=g->j.1= []/\j.2.1= []/\j.2.2.1=false)/\(nv h.1≠g->j.1=nc (nv k.1/nv h.1)/\j.2.1=nc (nv k.1%nv h.1)/\j.2.2.1=true)->J (j.1,r.1.1,i.1,())) (J (k.1,r.1.1,r.1.2,()))))/\∀(p:D3l),(Ty.int u32).sl.wf p.1/\Ty.bool.wf p.2.1/\(Ty.int u32).sl.wf p.2.2.1/\True->J p->((p.2.1,p.2.2.1),p.1)=rc (mkRat (iv x.1) f)))
def Ul(x:C7):Prop:=True/\∀(r:A4m),G5 r.1/\G5 r.2.1/\True/\True->(J9 x.1->r.1=Sl x.1/\r.2.1=Pa x.1/\r.2.2.1=true)/\(¬J9 x.1->r.2.2.1=false)->(iB r.2.2.1 (0<r.2.1/\I9 λa=>a.1=rc (mkRat r.1 r.2.1.toNat)->a.1=rc (rv x.1)) (True/\∀(r:oY),pL r.1/\Ir r.2.1/\True->(nv x.1.2=0->r.1=zi/\r.2.1= [(1:Int)])/\(nv x.1.2≠0->r.1=x.1.1/\r.2.1=x.1.2)->(nv r.2.1≠0/\Gl r.1.2/\Gl r.2.1)/\I9 λa=>a.1=rc (mkRat (iv r.1) (nv r.2.1))->a.1=rc (rv x.1)))
def Wx:sx M6 Lq:=λx b _=>by
 obtain⟨v,_⟩:=x;simp only[Lq,V7];refine⟨trivial,?_⟩;rintro⟨r,_⟩ _ a;simp only at a|-;rw[a];rfl
def CY:sx Bb Qm:=λx d _=>by
 obtain⟨⟨c,(l:Wf)⟩,_⟩:=x;simp only[Qm,iB,Fg];refine⟨trivial,?_⟩;rintro⟨r,_⟩ _ b;simp only at b|-;rw[nR]at b;refine⟨λh=>?_,λh=>?_⟩
 . have a:nv l=0:=aQ.1 (b▸qA h);exact⟨λ_=>⟨rfl,by trivial⟩,λh=>absurd a h⟩
 . have a:nv l≠0:=λe=>(qB h) (by rw[b,e];rfl)
   exact⟨⟨λh=>absurd h a,λ_=>⟨by trivial,by trivial⟩⟩,λh=>absurd h a,λ_=>⟨by trivial,by trivial⟩⟩
def GU:sx Cp Um:=λx g _=>by
 obtain⟨⟨d,(l:Wf)⟩,_⟩:=x;simp only[Um,Fg];refine⟨trivial,?_⟩;rintro⟨r,f,_⟩ _ ⟨a,b⟩;refine⟨trivial,?_⟩;rintro⟨s,_⟩ _ c;simp only at a b c|-;rw[c, <-C5m];unfold C9s;split
 . rename_i h;rw[(a h).1];rfl
 . rename_i h;rw[(b h).1]
def CZ:sx Bc Qn:=λx O _=>by
 obtain⟨⟨⟨(g:Bool),(a:Wf)⟩,(l:Wf)⟩,_⟩:=x;simp only[Qn,iB];refine⟨trivial,?_⟩;rintro⟨u,f,_⟩ _ ⟨k,y⟩;refine⟨trivial,?_⟩;rintro⟨v,d,_⟩ _ ⟨n,z⟩;change Int at u v;change Bool at f d;simp only at k y n z|-;have r:G9 (G9 (G9 (!f) true !d) true (decide (2147483648<=u))) true (decide (2147483648<=v))=(!f|| !d||decide (2147483648<=u) ||decide (2147483648<=v)):=by simp only[F2]
 rw[r];have G:(!f|| !d||decide (2147483648<=u) ||decide (2147483648<=v))=false->J9 ((g,a),l)/\u=(nv a:Int)/\v=(nv l:Int):=λh=>by
  simp only[rA,zY,rG]at h;obtain⟨⟨⟨t,w⟩,M⟩,N⟩:=h;have D:nv a<18446744073709551616:=by
   rcases sD (nv a) 18446744073709551616 with h|h
   . exact h
   . rw[y h]at t;cases t
  have E:nv l<18446744073709551616:=by
   rcases sD (nv l) 18446744073709551616 with h|h
   . exact h
   . rw[z h]at w;cases w
  have I:=(k D).1;have J:=(n E).1;exact⟨⟨by show nv a< _;omega,by show nv l< _;omega⟩,I,J⟩
 have H:J9 ((g,a),l)->(!f|| !d||decide (2147483648<=u) ||decide (2147483648<=v))=false:=λh=>by
  obtain⟨(i:nv a< _),(j:nv l< _)⟩:=h;obtain⟨D,t⟩:=k ω;obtain⟨E,w⟩:=n ω;simp only[rA,zY,rG];exact⟨⟨⟨t,w⟩,ω⟩,ω⟩
 refine⟨λh=>⟨λr=>?_,λ_=>trivial⟩,λh=>?_⟩
 . rw[H r]at h;cases h
 . obtain⟨A,F,B⟩:=G h;have s:=A;obtain⟨(i:nv a< _),(j:nv l< _)⟩:=A;refine⟨λc=>?_,λc=>⟨λo=>?_,λo=>?_⟩⟩
   . have c:=qA c;have b:nv l=0:=ω
     exact⟨λ_=>⟨by unfold Sl;rw[qN b],by unfold Pa;rw[qN b],trivial⟩,λh=>absurd s h⟩
   . have c:=qB c;have b:nv l≠0:=ω
     refine⟨λ_=>⟨?_,?_,trivial⟩,λh=>absurd s h⟩
     . unfold Sl;rw[qG b,wv (a:=u) ω,wv ω];unfold iv;simp only[o,wN];omega
     . unfold Pa;rw[qG b,wv ω];exact B
   . have c:=qB c;have b:nv l≠0:=ω
     refine⟨λ_=>⟨?_,?_,trivial⟩,λh=>absurd s h⟩
     . unfold Sl;rw[qG b,wv (a:=u) ω];unfold iv;simp only[o];simpa using F
     . unfold Pa;rw[qG b,wv ω];exact B
def Un:sx T8 Kx:=λx A F=>by
 obtain⟨(n:Int),(d:Int),_⟩:=x;have I:0<d:=F;have c:=(show i64.min<=n/\n<=i64.max from A.1);have r:=(show i64.min<=d/\d<=i64.max from A.2.1);rw[Vi,EG]at c r;obtain⟨P,Q⟩:=c;have J:=r.2;have O:i64.min= -9223372036854775808:=Vi;simp only[Kx,iB,Q4];refine⟨λp=>p.1=(n.natAbs:Int),⟨λh=>?_,λh=>?_⟩,?_⟩
 . have h:=qA h;show u64.wrap (-u64.wrap n)= _;rw[Dk,Dk];omega
 . have h:=qB h;show u64.wrap n= _;rw[Dk];omega
 rintro⟨T,_⟩ _ z;simp only at z|-;subst z;have o:u64.wrap d=d:=Z9 ω ω;refine⟨λp=>0<=p.1/\0<=p.2.1/\(p.1≠0\/p.2.1≠0)/\p.1.toNat.gcd p.2.1.toNat=d.toNat.gcd n.natAbs,λp=>p.2.1.toNat,?_,?_⟩
 . refine⟨ω,by show(0:Int)<=(n.natAbs:Int);omega, .inl ω,?_⟩;rw[o];rfl
 rintro⟨(g:Int),(t:Int),_⟩ _ ⟨j,a,D,k⟩;simp only at j a D k|-;refine⟨λh=>?_,λh=>?_⟩
 . have h:=qA h;have e:Int.tmod g t=g%t:=uG j;have i:=g2v g h;have M:=zZ g (b:=t) ω;rw[e];refine⟨h,⟨a,i, .inl h,?_⟩,ω⟩;rw[<-k,Int.toNat_emod j a,xD t.toNat, <-g3u,xD]
 . have h:t=0:=by simpa using h
   subst h;have u:g≠0:=ω
   refine⟨u,u,trivial,?_⟩;rintro⟨R,_⟩ _ y;refine⟨trivial,?_⟩;rintro⟨q,_⟩ _ w;simp only at y w|-;have hG:g.toNat=d.toNat.gcd n.natAbs:=by rw[<-k];simp
   have N:0<g:=ω
   have v:g=((d.toNat.gcd n.natAbs:Nat):Int):=ω
   obtain⟨c,E⟩:=Pq (x:=n) (d:=d.toNat) ω;have B:(u64.wrap (Int.tdiv (n.natAbs:Int) g)).toNat=n.natAbs/d.toNat.gcd n.natAbs:=by
    rw[IntWalk.u64_quo _ _ ⟨ω,ω,ω⟩,v, <-g5b,qJ]
   have i:(u64.wrap (Int.tdiv d g)).toNat=d.toNat/d.toNat.gcd n.natAbs:=by
    rw[IntWalk.u64_quo _ _ ⟨ω,ω,ω⟩,v]
    conv=>lhs;rw[(ω:d=((d.toNat:Nat):Int))]
    rw[<-g5b,qJ];simp only[qJ]
   rw[y,w,o,B,i];unfold rc;rw[c,E];unfold ic;have s:((d.toNat.gcd n.natAbs:Nat):Int)∣n:=yI.2 (yW ..);have l:0<d.toNat.gcd n.natAbs:=ω
   generalize d.toNat.gcd n.natAbs=G at s l;obtain⟨f,rfl⟩:=s;rw[xY _ ω];have H:(G:Int)*f<0↔f<0:=by
    constructor
    . intro h;rcases g4y f 0 with a|a
      . exact a
      . have:=tU (xC (vO.2 l)) a;omega
    . intro h;exact zE ω h
   rw[vE,uA,yD _ l];simp only[H]
def Vr (x:B7):mkRat (Sl x) (Pa x).toNat=rv x:=by
 unfold Sl Pa rv;split
 . rename_i h;rw[h,zC];rfl
 . rename_i h;rw[qJ]
def C0c (x:B7):0<Pa x:=by
 unfold Pa;split
 . decide
 . omega
def Zf:sx Z7 Ox:=λx w H=>by
 obtain⟨⟨b,l⟩,k,_⟩:=x;have G:A7 l:=A3 w.1.2.2;have F:A7 k:=A3 w.2.1.2;change Bool at b;change Wf at l k;obtain⟨j,V,U⟩:nv k≠0/\l.length<=8796093022208/\k.length<=8796093022208:=H;simp only[Ox,iB,Q4,V7];have N:=D2 G;have M:=D2 F;refine⟨by show l.length<=35184372088832;omega,?_⟩;rintro⟨⟨y,r⟩,_⟩ _ f;refine⟨by show k.length<=35184372088832;omega,?_⟩;rintro⟨d,_⟩ _ c;simp only at f c|-;have I:y=decide (iv (b,l)<0):=sA (·.1) f;have v:r=nc (iv (b,l)).natAbs:=sA (·.2) f;have A:(iv (b,l)).natAbs=nv l:=J5 _;have i:nv r=(iv (b,l)).natAbs:=by rw[v,F7]
 have o:nv d=nv k:=by rw[c,F7]
 have T:r.length<=l.length:=by rw[v,A];exact N
 have Q:d.length<=k.length:=by rw[c];exact M
 refine⟨λh=>?_,λh=>?_⟩
 . have h:=qA h;have B:r= []:=qT ω;rw[B,nR]at i;have:iv (b,l)=0:=Int.natAbs_eq_zero.1 i.symm;rw[this,Rat.zero_mkRat,B1e]
 have h:=qB h;refine⟨⟨ω,ω⟩,?_⟩;rintro⟨g,_⟩ _ n;simp only at n|-;rw[i,o]at n;have R:Nat.gcd (iv (b,l)).natAbs (nv k)≠0:=Nat.ne_of_gt (g1z _ (sX j));have s:nv g=Nat.gcd (iv (b,l)).natAbs (nv k):=by rw[n,F7]
 refine⟨λp=>((p.2.1,p.2.2.1),p.1)=rc (mkRat (iv (b,l)) (nv k)),⟨λa=>?_,λa=>?_,λa=>?_⟩,?_⟩
 . have a:=qB a;exact⟨qH _,ω⟩
 . refine⟨by show r.length<= _;omega,?_⟩;rintro⟨q,m,X,_⟩ _ t;refine⟨by show d.length<= _;omega,?_⟩;rintro⟨Z,W,Y,_⟩ _ u;simp only at t u|-;rw[oI j,(t.2 ω).1,(u.2 ω).1,i,o,s,I]
 . have a:g.length=1/\gx 0 g 0=1:=by
    rw[F2]at a;simp only[rA,rG]at a;omega
   obtain⟨z,rfl⟩:∃z,g= [z]:=g2r.1 a.1;have J:z=1:=a.2;subst J;have D:Nat.gcd (iv (b,l)).natAbs (nv k)=1:=by rw[<-s];rfl
   rw[C5j j D];show((y,r),d)= _;rw[c, <-f]
 . rintro⟨O,a0,P,_⟩ _ E;exact E
def GT:sx Co Ul:=λx v n=>by
 obtain⟨(q:B7),_⟩:=x;obtain⟨i,j⟩:q.1.2.length<=2199023255552/\q.2.length<=2199023255552:=n;simp only[Ul,iB,I9];refine⟨trivial,?_⟩;rintro⟨(s:Int),(f:Int),z,_⟩ _ ⟨c,d⟩;simp only at c d|-;refine⟨λh=>?_,λh=>⟨trivial,?_⟩⟩
 . have o:J9 q:=qR λhn=>by rw[d hn]at h;cases h
   obtain⟨rfl,rfl,_⟩:=c o;refine⟨C0c q,?_⟩;rintro⟨u,_⟩ _ a;simp only at a|-;rw[a,Vr]
 . rintro⟨t,g,_⟩ _ b;simp only at b|-;obtain⟨l,r⟩:=Ni b;obtain⟨w,y⟩:=Jj (k:=2199023255552) b i j δ;refine⟨⟨l,by show t.2.length<= _;omega,by show g.length<= _;omega⟩,?_⟩;rintro⟨u,_⟩ _ a;simp only at a|-;rw[a,r]
def BE {q:Rat} (h:q.num.sign=0):q=0:=zX.1 (xQ.1 h)
def Mn {x:B7} (h:J9 x): -2147483647<=Sl x/\Sl x<=2147483647/\0<Pa x/\Pa x<=2147483647:=by
 obtain⟨a,b⟩:=h;have:=J5 x.1;unfold Sl Pa;split
 . omega
 . omega
def Sj {a b M N:Int} (f: -M<=a) (d:a<=M) (c:0<=b) (g:b<=N): -(M*N)<=a*b/\a*b<=M*N:=by
 have h:0<=M:=ω
 have i:M*b<=M*N:=uF g h;have g:a*b<=M*b:=sM d c;have d: -M*b<=a*b:=sM f c;rw[Int.neg_mul]at d;omega
def B4x {a b c d:Int} (h: -2147483647<=a/\a<=2147483647) (i: -2147483647<=b/\b<=2147483647) (g:0<c/\c<=2147483647) (f:0<d/\d<=2147483647):
 i64.wrap (c*d)=c*d/\0<c*d/\i64.wrap (i64.wrap (a*d)+i64.wrap (b*c))=a*d+b*c:=by
 have k:=Sj h.1 h.2 (xC f.1) f.2;have l:=Sj i.1 i.2 (xC g.1) g.2;have n:=Sj (a:=c) (b:=d) (M:=2147483647) ω g.2 (xC f.1) f.2;have j:0<c*d:=Int.mul_pos g.1 f.1;rw[wv (a:=c*d) ω,wv (a:=a*d) ω,wv (a:=b*c) ω,wv ω];exact⟨rfl,j,rfl⟩
def KC:sx Ay Xt:=λx o a8=>by
 obtain⟨p,q,_⟩:=x;have ax:A7 p.1.2:=A3 o.1.1.2.2;have ay:A7 p.2:=A3 o.1.2.2;have az:A7 q.1.2:=A3 o.2.1.1.2.2;have b0:A7 q.2:=A3 o.2.1.2.2;change B7 at p q;obtain⟨a9,aa⟩:F4 p/\F4 q:=a8;obtain⟨N,O⟩:=a9;obtain⟨P,Q⟩:=aa;simp only[Xt,iB,Fg,I9,Q4,V7];refine⟨trivial,?_⟩;rintro⟨b1,_⟩ _ R;simp only at R|-;refine⟨λh=>⟨⟨P,Q⟩,?_⟩,λh=>⟨trivial,?_⟩⟩
 . rintro⟨r,_⟩ _ f;simp only at f|-;rw[R]at h;rw[f,BE (qA h),sR]
 rintro⟨b2,_⟩ _ T;simp only at T|-;refine⟨λh=>⟨⟨N,O⟩,?_⟩,λh=>⟨trivial,?_⟩⟩
 . rintro⟨r,_⟩ _ f;simp only at f|-;rw[T]at h;rw[f,BE (qA h),rL]
 rintro⟨F,E,aq,_⟩ _ ⟨B,D⟩;refine⟨trivial,?_⟩;rintro⟨I,bd,ar,_⟩ _ ⟨G,H⟩;change Int at F E I bd;simp only at B D G H|-;refine⟨λh=>?_,λ_=>⟨trivial,?_⟩⟩
 . rw[I5,qC]at h;have X:J9 p:=qR λhn=>by have:=D hn;rw[this]at h;exact absurd h.1 δ
   have Y:J9 q:=qR λhn=>by have:=H hn;rw[this]at h;exact absurd h.2 δ
   obtain⟨a1,a3,_⟩:=B X;obtain⟨a2,a4,_⟩:=G Y;obtain⟨Z,a0,b3,b4⟩:=Mn X;obtain⟨b5,b6,b7,b8⟩:=Mn Y;obtain⟨am,an,ao⟩:=B4x (a:=F) (b:=I) (c:=E) (d:=bd) ω ω ω ω;rw[am,ao];refine⟨an,?_⟩;rintro⟨r,_⟩ _ f;simp only at f|-;rw[f, <-Vr p, <-Vr q, <-a1, <-a3, <-a2, <-a4,QL ω ω,sB ω,sB ω,g4h ω ω]
 . rintro⟨n,d,_⟩ ⟨ae,ab,_⟩ w;refine⟨trivial,?_⟩;rintro⟨m,e,_⟩ ⟨ad,ac,_⟩ z;have W:A7 n.2:=A3 ae.2.2;have U:A7 d:=A3 ab.2;have V:A7 m.2:=A3 ad.2.2;have le:A7 e:=A3 ac.2;refine⟨trivial,?_⟩;rintro⟨c,_⟩ _ M;change Lu at n m;change Wf at d e;simp only at w z M|-;obtain⟨j,a5⟩:=Ni w;obtain⟨J,a6⟩:=Ni z;obtain⟨aj,au⟩:=Jj (k:=2199023255552) w N O δ;obtain⟨ai,av⟩:=Jj (k:=2199023255552) z P Q δ;rw[a5,a6];refine⟨λh=>?_,λh=>?_⟩
   . have h:=qA h;have a7:nv d=nv e:=aQ.1 (M▸h);refine⟨⟨by show n.2.length<= _;omega,by show m.2.length<= _;omega⟩,?_⟩;rintro⟨u,_⟩ _ g;simp only at g|-;have af:=ZU (x:=n) (y:=m) W V aj ai;refine⟨⟨j,by show u.2.length<= _;rw[g];omega,by show d.length<= _;omega⟩,?_⟩;rintro⟨r,_⟩ _ f;simp only at f|-;rw[f,g,K7, <-a7,A7g j]
   . --the general case:the same four times
     have Z:=II (x:=n) (y:=(false,e)) W le;have a0:=II (x:=m) (y:=(false,d)) V U;have t:L3 n.2/\L3 e:=⟨by show n.2.length<= _;omega,by show e.length<= _;omega⟩;have l:L3 m.2/\L3 d:=⟨by show m.2.length<= _;omega,by show d.length<= _;omega⟩;have fin:∀u v:Lu,u=ic (iv n*iv (false,e))->v=ic (iv m*iv (false,d))->(L3 u.2/\L3 v.2)/\∀(r_6:(Bool×Wf)×Unit),pL r_6.1/\True->r_6.1=ic (iv u+iv v)->(L3 d/\L3 e)/\∀(r_7:Wf×Unit),Ir r_7.1/\True->r_7.1=nc (nv d*nv e)->(nv r_7.1≠(0:Nat)/\Gl r_6.1.2/\Gl r_7.1)/\∀(r:QQ×Unit),Zk r.1/\True->r.1=rc (mkRat (iv r_6.1) (nv r_7.1))->r.1=rc (mkRat (iv n) (nv d)+mkRat (iv m) (nv e)):=by
      intro u v g i;have ag:u.2.length<=4398046511104:=by
       rw[g];refine qY Z ?_;show n.2.length+e.length<= _;omega
      have ah:v.2.length<=4398046511104:=by
       rw[i];refine qY a0 ?_;show m.2.length+d.length<= _;omega
      refine⟨⟨by show u.2.length<= _;omega,by show v.2.length<= _;omega⟩,?_⟩;rintro⟨ak,_⟩ _ A;refine⟨⟨l.2,t.2⟩,?_⟩;rintro⟨ap,_⟩ _ s;simp only at A s|-;have af:=ZU (x:=u) (y:=v) (by rw[g];exact A2c _) (by rw[i];exact A2c _) ag ah;have aw:=IM U le;refine⟨⟨by rw[s,F7];exact zV j J,by show ak.2.length<= _;rw[A];omega,by show ap.length<= _;rw[s];omega⟩,?_⟩;rintro⟨r,_⟩ _ f;simp only at f|-;rw[f,A,s,F7,K7,g,i,K7,K7,Kz,Kz,QL j J]
     exact⟨⟨t,λu _ g=>⟨⟨l,λv _ i=>⟨fin _ _ g i,fin _ _ g i⟩⟩,l,λv _ i=>fin _ _ g i⟩⟩,t,λu _ g=>⟨l,λv _ i=>fin _ _ g i⟩⟩
def A5o:An:= {plan:= [(1,[0,2],[6,7],true, .done),(2,[1,2,6,7,11,13],[17],true, .done)]}
def A5s:An:= {plan:= [(1,[0,1],[4],true, .done)]}
def A5q:An:= {plan:= [(1,[0,3,7,9],[13],true, .done)]}
def dM(x:L8):Prop:=let f:=(rv x.1);let e:=(rv x.2.1);let a:(C7)->(C7)->(Yt)->Prop:=(λr g h=>pL h.1/\True->h.1=ic (↑e.den:Int)->(L3 r.1.1.2/\L3 h.1.2)/\V7 λi=>i.1=ic (iv r.1.1*iv h.1)->F4 x.1/\V7 λr=>r.1=ic (↑f.den:Int)->(L3 g.1.1.2/\L3 r.1.2)/\V7 λj=>j.1=ic (iv g.1.1*iv r.1)->(L3 i.1.2/\L3 j.1.2)/\V7 λr=>r.1=ic (iv i.1+iv j.1)->F4 x.1/\V7 λk=>k.1=ic (↑f.den:Int)->F4 x.2.1/\V7 λl=>l.1=ic (↑e.den:Int)->(L3 k.1.2/\L3 l.1.2)/\V7 λm=>m.1=ic (iv k.1*iv l.1)->(Gl r.1.2/\Gl m.1.2)/\I9 λn=>n.1=rc (Lx r.1 m.1)->n.1=rc (rv x.1+rv x.2.1));let b:(C7)->(C7)->Prop:=(λr g=>Zk g.1/\True->g.1=rc e->F4 x.2.1/\∀(h:Yt),a r g h);let d:(C7)->Prop:=(λr=>F4 x.2.1/\∀(g:C7),b r g);let c:Prop:=((F4 x.1/\I9 λr=>r.1=rc f->(d r)/\F4 x.2.1/\∀(g:C7),b r g)/\F4 x.1/\I9 λr=>r.1=rc f->F4 x.2.1/\∀(g:C7),b r g);(F4 x.1/\I9 λr=>r.1=rc f->(F4 x.2.1/\I9 λg=>g.1=rc e->(F4 x.2.1/\∀(h:Yt),a r g h)/\F4 x.2.1/\∀(h:Yt),a r g h)/\((d r)/\d r)/\(d r)/\F4 x.2.1/\∀(g:C7),b r g)/\c/\c
def dY(x:L8):Prop:=F4 x.2.1/\I9 λr=>r.1=rc (-rv x.2.1)->(F4 x.1/\F4 r.1)/\I9 λa=>a.1=rc (rv x.1+rv r.1)->a.1=rc (rv x.1-rv x.2.1)
def dR(x:L8):Prop:=F4 x.1/\I9 λr=>r.1=rc (rv x.1)->F4 x.2.1/\I9 λa=>a.1=rc (rv x.2.1)->(L3 r.1.1.2/\L3 a.1.1.2)/\V7 λb=>b.1=ic (iv r.1.1*iv a.1.1)->F4 x.1/\V7 λr=>r.1=ic (↑(rv x.1).den:Int)->F4 x.2.1/\V7 λc=>c.1=ic (↑(rv x.2.1).den:Int)->(L3 r.1.2/\L3 c.1.2)/\V7 λd=>d.1=ic (iv r.1*iv c.1)->(Gl b.1.2/\Gl d.1.2)/\I9 λr=>r.1=rc (Lx b.1 d.1)->r.1=rc (rv x.1*rv x.2.1)
def JH {p:B7} (a:A7 p.1.2) (b:A7 p.2) (h:F4 p):(ic (rv p).num).2.length<=2199023255552/\(ic ((rv p).den:Int)).2.length<=2199023255552:=by
 have:=Nl a b h.1 h.2 δ;exact⟨this.1,by rw[Af,uA];exact this.2⟩
def icm {x y:Int} {k:Nat} (a:(ic x).2.length<=k) (b:(ic y).2.length<=k):(ic (x*y)).2.length<=2*k:=by
 rw[Af]at*;rw[vE];have:=Qy x.natAbs y.natAbs;omega
def ica {x y:Int} {k:Nat} (b:(ic x).2.length<=k) (c:(ic y).2.length<=k):(ic (x+y)).2.length<=k+1:=by
 rw[Af]at*;have a:=J7 (g0g x y);have:=QR x.natAbs y.natAbs;omega
def gF:sx Tn dM:=λx a j=>by
 obtain⟨p,q,_⟩:=x;have n:A7 p.1.2:=A3 a.1.1.2.2;have o:A7 p.2:=A3 a.1.2.2;have r:A7 q.1.2:=A3 a.2.1.1.2.2;have s:A7 q.2:=A3 a.2.1.2.2;change B7 at p q;obtain⟨k,l⟩:F4 p/\F4 q:=j;obtain⟨d,b⟩:=JH n o k;obtain⟨f,c⟩:=JH r s l;have g:=icm d c;have i:=icm f b;have t:=icm b c;have u:=ica g i;have fin:rc (Lx (ic ((rv p).num*((rv q).den:Int)+(rv q).num*((rv p).den:Int))) (ic (((rv p).den:Int)*((rv q).den:Int))))=rc (rv p+rv q):=by
  unfold Lx;rw[K7,K7,A6i]
 have P1:L3 (ic (rv p).num).2:=by show _ <= _;omega
 have P2:L3 (ic ((rv p).den:Int)).2:=by show _ <= _;omega
 have Q1:L3 (ic (rv q).num).2:=by show _ <= _;omega
 have Q2:L3 (ic ((rv q).den:Int)).2:=by show _ <= _;omega
 have M1:L3 (ic ((rv p).num*((rv q).den:Int))).2:=by show _ <= _;omega
 have M2:L3 (ic ((rv q).num*((rv p).den:Int))).2:=by show _ <= _;omega
 have M3:Gl (ic (((rv p).den:Int)*((rv q).den:Int))).2:=by show _ <= _;omega
 have M4:Gl (ic ((rv p).num*((rv q).den:Int)+(rv q).num*((rv p).den:Int))).2:=by show _ <= _;omega
 clear g i t u d b f c;have v:(rc (rv p)).1=ic (rv p).num:=rfl;have w:(rc (rv q)).1=ic (rv q).num:=rfl;simp only[dM,I9,V7]
 repeat' first
  |assumption
  |apply And.intro
  | (rintro⟨y,_⟩ _ h;simp only at h|-;subst h;try simp only[v,w,K7])
def gJ:sx Mm dY:=λx f h=>by
 obtain⟨p,q,_⟩:=x;have j:A7 q.1.2:=A3 f.2.1.1.2.2;have k:A7 q.2:=A3 f.2.1.2.2;change B7 at p q;obtain⟨i,c⟩:F4 p/\F4 q:=h;obtain⟨g,b⟩:=JH j k c;simp only[dY,I9];refine⟨c,?_⟩;rintro⟨r,_⟩ _ a;simp only at a|-;refine⟨⟨i,?_⟩,?_⟩
 . rw[a];refine⟨?_,?_⟩
   . show(ic (-(rv q)).num).2.length<= _;rw[g1y,Af,xK, <-Af];exact g
   . show(nc (-(rv q)).den).length<= _;rw[g3z];rw[Af,uA]at b;exact b
 rintro⟨s,_⟩ _ d;simp only at d|-;rw[d,a,C9,tC]
def KU:An:= {}
def HV:An:= {}
def UU:An:= {}
def UT:An:= {plan:= [(1,[1,3],[6],true, .done)]}
def XY:An:= {plan:= [(1,[1,4],[7],true, .done)]}
def XW:An:= {plan:= [(2,[1,3,5],[8],true, .done)]}
def XX:An:= {plan:= [(1,[1,3,6,8],[11],true, .done)]}
def HU:An:= {plan:= [(1,[0,2],[],true, .done)]}
abbrev C6f:=Bool×Wf×Unit
def Qd(x:C6f):Prop:=(G9 x.1 (decide ((0:Int)<(x.2.1.length:Int))) false,x.2.1)=(x.1&&decide (x.2.1≠ []),x.2.1)
def Oo(x:C8):Prop:=(iB (decide (x.1<0)) (True/\Q4 λr=>r.1=nc (u64.wrap (-u64.wrap x.1)).toNat->True/\V7 λa=>a.1=(true&&decide (r.1≠ []),r.1)->a.1=ic x.1) (True/\Q4 λr=>r.1=nc (u64.wrap x.1).toNat->True/\V7 λa=>a.1=(false&&decide (r.1≠ []),r.1)->a.1=ic x.1))
def Xl(x:Yt):Prop:=True/\Fg λr=>r.1=Dt (nv x.1.2) (nv [])->(iB (decide (r.1=0)) ((0:Int)=(iv x.1).sign) ((iB x.1.1 ((-1:Int)=(iv x.1).sign) ((1:Int)=(iv x.1).sign))))
def Xk(x:Yt):Prop:=Im x.1.2/\Q4 λr=>r.1=nc (nv x.1.2)->True/\V7 λa=>a.1=(x.1.1&&decide (r.1≠ []),r.1)->a.1=ic (iv x.1)
def BS(x:Yt):Prop:=Im x.1.2/\Q4 λr=>r.1=nc (nv x.1.2)->True/\V7 λa=>a.1=(!x.1.1&&decide (r.1≠ []),r.1)->a.1=ic (-iv x.1)
abbrev fO:=(Bool×Wf)×(Bool×Wf)×Unit
abbrev A8u:=Wf×Bool×Unit
def BQ(x:fO):Prop:=let b:Prop:=(L3 x.1.2/\L3 x.2.1.2);let a:=(iv x.1+iv x.2.1);(iB ((x.1.1==x.2.1.1)) (b/\Q4 λr=>r.1=nc (nv x.1.2+nv x.2.1.2)->True/\V7 λc=>c.1=(x.1.1&&decide (r.1≠ []),r.1)->c.1=ic a) (b/\∀(r:A8u),Ir r.1/\True/\True->(nv x.1.2<nv x.2.1.2->r.1= []/\r.2.1=false)/\(nv x.2.1.2<=nv x.1.2->r.1=nc (nv x.1.2-nv x.2.1.2)/\r.2.1=true)->(iB r.2.1 (True/\V7 λc=>c.1=(x.1.1&&decide (r.1≠ []),r.1)->c.1=ic a) ((L3 x.2.1.2/\L3 x.1.2)/\∀(r:A8u),Ir r.1/\True/\True->(nv x.2.1.2<nv x.1.2->r.1= []/\r.2.1=false)/\(nv x.1.2<=nv x.2.1.2->r.1=nc (nv x.2.1.2-nv x.1.2)/\r.2.1=true)->True/\V7 λc=>c.1=(x.2.1.1&&decide (r.1≠ []),r.1)->c.1=ic a))))
def BR(x:fO):Prop:=(L3 x.1.2/\L3 x.2.1.2)/\Q4 λr=>r.1=nc (nv x.1.2*nv x.2.1.2)->True/\V7 λa=>a.1=(x.1.1 !=x.2.1.1&&decide (r.1≠ []),r.1)->a.1=ic (iv x.1*iv x.2.1)
def Om(x:fO):Prop:=let b:=(iv x.1);let a:=(iv x.2.1);True/\Fg λr=>r.1=b.sign->True/\Fg λc=>c.1=a.sign->(iB (decide (r.1<c.1)) ((-1:Int)=P6 b a) ((iB (decide (c.1<r.1)) ((1:Int)=P6 b a) ((iB (decide (r.1<0)) (True/\Fg λr=>r.1=Dt (nv x.2.1.2) (nv x.1.2)->r.1=P6 b a) (True/\Fg λr=>r.1=Dt (nv x.1.2) (nv x.2.1.2)->r.1=P6 b a))))))
def A0e:An:= {join:= [(11,⟨[4,7,10],[2],[],[(5,47,[.val .bool, .val qa]),(7,47,[.val .bool, .val qa])],[]⟩)],plan:= [(5,[0,3],[5],true, .done),(10,[0,2],[4,5],true, .done)]}
def A0j:An:= {}
def A0f:An:= {}
def lA:An:= {}
def PM:An:= {plan:= [(1,[0,1],[],true, .done)]}
def A5t:An:= {}
def YH:An:= {}
def B2f:An:= {}
def A0i:An:= {}
def A5r:An:= {plan:= [(1,[0,4],[7],true, .done)]}
def A5p:An:= {plan:= [(3,[0,3,6,8],[13],true, .done)]}
def A0g:An:= {}
abbrev ty9:=(Bool×Wf)×(Bool×Wf)×Bool×Unit
abbrev C6e:=Bool×Wf×Bool×Wf×Unit
def UH(x:fO):Prop:=let a:=(0:Int);Im x.2.1.2/\Fg λr=>r.1=(iv x.2.1).sign->(iB (decide (r.1=a)) (True/\I9 λr=>r.1=rc (0:Rat)->r.1=rc (Lx x.1 x.2.1)) (Im x.2.1.2/\V7 λr=>r.1=ic (iv x.2.1)->((!r.1.1)=true->True)/\∀(e:W9),((!r.1.1)=true->(True/\True)/\e.1=decide (r.1.2= [(1:Int)]))->(iB (G9 (!r.1.1) e.1 false) (Im x.1.2/\V7 λb=>b.1=ic (iv x.1)->(b.1,r.1.2)=rc (Lx x.1 x.2.1)) ((Gl x.1.2/\Gl x.2.1.2)/\V7 λr=>r.1=ic (↑((nv x.1.2).gcd (nv x.2.1.2)):Int)->(Gl x.1.2/\Gl r.1.2)/\∀(b:ty9),pL b.1/\pL b.2.1/\True/\True->(iv r.1≠a->b.1=ic (iv x.1/iv r.1)/\b.2.1=ic (iv x.1%iv r.1)/\b.2.2.1=true)->(Gl x.2.1.2/\Gl r.1.2)/\∀(c:ty9),pL c.1/\pL c.2.1/\True/\True->(iv r.1≠a->c.1=ic (iv x.2.1/iv r.1)/\c.2.1=ic (iv x.2.1%iv r.1)/\c.2.2.1=true)->∃(J:C6e->Prop),((iB c.1.1 (Im b.1.2/\V7 λr=>r.1=ic (-iv b.1)->Im c.1.2/\V7 λd=>d.1=ic (-iv c.1)->J (r.1.1,r.1.2,d.1.1,d.1.2,())) (J (b.1.1,b.1.2,c.1.1,c.1.2,()))))/\∀(p:C6e),Ty.bool.wf p.1/\(Ty.int u32).sl.wf p.2.1/\Ty.bool.wf p.2.2.1/\(Ty.int u32).sl.wf p.2.2.2.1/\True->J p->((p.1,p.2.1),p.2.2.2.1)=rc (Lx x.1 x.2.1)))))
def UM(x:Unit):Prop:=((false,[]),[(1:Int)])=rc (0:Rat)
def UI(x:C7):Prop:=(Gl x.1.1.2/\Gl x.1.2)/\I9 λr=>r.1=rc (Lx x.1.1 (false,x.1.2))->r.1=rc (rv x.1)
def OB(x:L8):Prop:=True/\Lh λr=>r.1=decide (x.1.1=x.2.1.1)->(r.1=true->True)/\∀(a:W9),(r.1=true->(True/\True)/\a.1=decide (x.1.2=x.2.1.2))->G9 r.1 a.1 false=decide (x.1=x.2.1)
def Ug(x:C7):Prop:=F4 x.1/\I9 λr=>r.1=rc (rv x.1)->True/\Lh λa=>a.1=decide (x.1=r.1)->a.1=decide (x.1=rc (rv x.1))
def eF(x:C7):Prop:=F4 x.1/\I9 λr=>r.1=rc (rv x.1)->(false,r.1.2)=ic (↑(rv x.1).den:Int)
def CQ(x:C8):Prop:=True/\V7 λr=>r.1=ic x.1->True/\V7 λa=>a.1=ic (1:Int)->(Gl r.1.2/\Gl a.1.2)/\I9 λb=>b.1=rc (Lx r.1 a.1)->b.1=ri x.1
def kQ(x:En):Prop:=True/\V7 λr=>r.1=ic x.1->True/\V7 λa=>a.1=ic x.2.1->(Gl r.1.2/\Gl a.1.2)/\I9 λb=>b.1=rc (Lx r.1 a.1)->b.1=rc (Rat.divInt x.1 x.2.1)
def UL(x:C7):Prop:=F4 x.1/\I9 λr=>r.1=rc (rv x.1)->Im r.1.1.2/\Fg λa=>a.1=(iv r.1.1).sign->a.1=(rv x.1).num.sign
def dS(x:C7):Prop:=F4 x.1/\I9 λr=>r.1=rc (rv x.1)->Im r.1.1.2/\V7 λa=>a.1=ic (-iv r.1.1)->F4 x.1/\V7 λr=>r.1=ic (↑(rv x.1).den:Int)->(Gl a.1.2/\Gl r.1.2)/\I9 λb=>b.1=rc (Lx a.1 r.1)->b.1=rc (-rv x.1)
def dN(x:L8):Prop:=let b:=(rv x.1/rv x.2.1);let a:=(rv x.2.1);F4 x.2.1/\Fg λr=>r.1=a.num.sign->(iB (decide (r.1=0)) ((rv x.2.1=(0:Rat)->false=false)/\(rv x.2.1≠(0:Rat)->dQ=rc b/\false=true)) (F4 x.1/\I9 λr=>r.1=rc (rv x.1)->F4 x.2.1/\V7 λc=>c.1=ic (↑a.den:Int)->(L3 r.1.1.2/\L3 c.1.2)/\V7 λd=>d.1=ic (iv r.1.1*iv c.1)->F4 x.1/\V7 λr=>r.1=ic (↑(rv x.1).den:Int)->F4 x.2.1/\I9 λe=>e.1=rc a->(L3 r.1.2/\L3 e.1.1.2)/\V7 λf=>f.1=ic (iv r.1*iv e.1.1)->(Gl d.1.2/\Gl f.1.2)/\I9 λr=>r.1=rc (Lx d.1 f.1)->(rv x.2.1=(0:Rat)->true=false)/\(rv x.2.1≠(0:Rat)->r.1=rc b/\true=true)))
def UJ(x:L8):Prop:=let a:=(rv x.1/rv x.2.1);(F4 x.1/\F4 x.2.1)/\∀(r:kN),Zk r.1/\True/\True->(rv x.2.1=(0:Rat)->r.2.1=false)/\(rv x.2.1≠(0:Rat)->r.1=rc a/\r.2.1=true)->rv x.2.1≠(0:Rat)->r.1=rc a
def NO:sx Fq BS:=λx d c=>by
 obtain⟨(p:Lu),_⟩:=x;simp only[BS,Q4,V7];refine⟨c,?_⟩;rintro⟨r,_⟩ _ a;simp only at a|-;refine⟨trivial,?_⟩;rintro⟨s,_⟩ _ b;simp only at b|-;rw[b,a];have h:=B8m (neg:= !p.1) (m:=nv p.2);have e:iv (!p.1,nc (nv p.2))= -iv p:=by
  rw[B8w];congr 1;unfold iv;simp only[F7]
 rw[<-e,h];have:decide (nc (nv p.2)≠ [])=decide (nv p.2≠0):=xJ.2 (g5q AF);rw[this]
def aP {a b:Int} (c: -2147483647<=a/\a<=2147483647) (d: -2147483647<=b/\b<=2147483647): -4611686014132420609<=a*b/\a*b<=4611686014132420609:=by
 have h:(a*b).natAbs<=2147483647*2147483647:=by
  rw[vE];exact uM ω ω
 omega
def KG:sx Ba Xw:=λx j N=>by
 obtain⟨p,q,_⟩:=x;have ab:A7 p.1.2:=A3 j.1.1.2.2;have ac:A7 p.2:=A3 j.1.2.2;have ad:A7 q.1.2:=A3 j.2.1.1.2.2;have ae:A7 q.2:=A3 j.2.1.2.2;change B7 at p q;obtain⟨Q,U⟩:F4 p/\F4 q:=N;obtain⟨O,P⟩:=Q;obtain⟨R,T⟩:=U;simp only[Xw,iB,I9,Q4,V7];refine⟨trivial,?_⟩;rintro⟨l,d,a7,_⟩ _ ⟨t,u⟩;refine⟨trivial,?_⟩;rintro⟨o,bd,a8,_⟩ _ ⟨v,w⟩;change Int at l d o bd;simp only at t u v w|-;refine⟨λh=>?_,λ_=>⟨trivial,?_⟩⟩
 . rw[I5,qC]at h;have z:J9 p:=qR λhn=>by have:=u hn;rw[this]at h;exact absurd h.1 δ
   have A:J9 q:=qR λhn=>by have:=w hn;rw[this]at h;exact absurd h.2 δ
   obtain⟨E,G,_⟩:=t z;obtain⟨F,H,_⟩:=v A;obtain⟨a5,a6,ah,ai⟩:=Mn z;obtain⟨aj,ak,am,an⟩:=Mn A;have f:=aP (a:=l) (b:=o) ω ω;have g:=aP (a:=d) (b:=bd) ω ω;have I:0<d*bd:=Int.mul_pos ω ω;rw[wv (a:=d*bd) ω,wv (a:=l*o) ω];refine⟨I,?_⟩;rintro⟨a2,_⟩ _ c;simp only at c|-;rw[c, <-Vr p, <-Vr q, <-E, <-G, <-F, <-H,g1h,g4h ω ω]
 . rintro⟨n,r,_⟩ ⟨Y,V,_⟩ f;refine⟨trivial,?_⟩;rintro⟨m,e,_⟩ ⟨X,W,_⟩ g;have a1:A7 n.2:=A3 Y.2.2;have Z:A7 r:=A3 V.2;have a0:A7 m.2:=A3 X.2.2;have le:A7 e:=A3 W.2;change Lu at n m;change Wf at r e;simp only at f g|-;obtain⟨B,J⟩:=Ni f;obtain⟨D,M⟩:=Ni g;obtain⟨ag,a9⟩:=Jj (k:=2199023255552) f O P δ;obtain⟨af,aa⟩:=Jj (k:=2199023255552) g R T δ;have a5:=II (x:=n) (y:=m) a1 a0;have a6:=IM Z le;rw[J,M];refine⟨⟨by show n.2.length<= _;omega,by show m.2.length<= _;omega⟩,?_⟩;rintro⟨a3,_⟩ _ s;refine⟨⟨by show r.length<= _;omega,by show e.length<= _;omega⟩,?_⟩;rintro⟨a4,_⟩ _ i;simp only at s i|-;refine⟨⟨by rw[i,F7];exact zV B D,by show a3.2.length<= _;rw[s];omega,by show a4.length<= _;rw[i];omega⟩,?_⟩;rintro⟨a2,_⟩ _ c;simp only at c|-;rw[c,s,i,K7,F7,g1h]
def KH:sx W4 Xx:=λx d f=>by
 obtain⟨p,_⟩:=x;have g:A7 p.1.2:=A3 d.1.1.2.2;have h:A7 p.2:=A3 d.1.2.2;change B7 at p;have a:F4 p:=f;obtain⟨i,j⟩:=Nl (k:=2199023255552) g h a.1 a.2 δ;simp only[Xx,I9,V7];refine⟨a,?_⟩;rintro⟨r,_⟩ _ b;simp only at b|-;subst b;refine⟨by show(ic (rv p).num).2.length<= _;omega,?_⟩;rintro⟨s,_⟩ _ c;simp only at c|-;rw[c];show(ic (-iv (ic (rv p).num)),nc (rv p).den)=(ic (-(rv p)).num,nc (-(rv p)).den);rw[K7,g1y,g3z]
def C9p {q:Rat} (h:q≠0):(((ic q.num).1,nc q.den),(ic q.num).2)=rc q⁻¹:=by
 have a:q.num≠0:=λe=>h (zX.1 e)
 unfold rc ic;rw[Rat.num_inv,Rat.den_inv,qG a,vE,uA,g1o a,xH];have b:(0:Int)<(q.den:Int):=by have:=q.den_pos;omega
 have:(q.num.sign*(q.den:Int)<0)↔q.num<0:=by
  rcases g0f q.num 0 with h1|h1|h1
  . rw[xL h1];omega
  . exact absurd h1 a
  . rw[uZ h1];omega
 simp only[this]
def KE:sx Az Xv:=λx i f=>by
 obtain⟨(p:B7),_⟩:=x;have g:F4 p:=f;simp only[Xv,iB,Fg,I9];refine⟨trivial,?_⟩;rintro⟨s,_⟩ _ b;simp only at b|-;refine⟨λh=>?_,λh=>⟨g,?_⟩⟩
 . have a:=BE (b▸qA h);exact⟨λ_=>by trivial,λd=>absurd a d⟩
 . rintro⟨r,_⟩ _ c;simp only at c|-;refine⟨λa=>?_,λa=>⟨by rw[c];exact C9p a,by trivial⟩⟩;have h:=qB h;rw[b,a]at h;exact absurd rfl h
def A2b {a:Int} (h:i64.min<=a/\a<=i64.max):(ic a).2.length<=2:=by
 have b: -9223372036854775808<=a/\a<=9223372036854775807:=h;exact Ds (by show a.natAbs<4294967296^2;omega)
def pE:sx BB kQ:=λx g _=>by
 obtain⟨a,b,_⟩:=x;have h:(ic a).2.length<=2:=A2b g.1;have i:(ic b).2.length<=2:=A2b g.2.1;change Int at a b;simp only[kQ,I9,V7];refine⟨trivial,?_⟩;rintro⟨r,_⟩ _ c;refine⟨trivial,?_⟩;rintro⟨s,_⟩ _ d;simp only at c d|-;subst c d;refine⟨⟨by show(ic a).2.length<= _;omega,by show(ic b).2.length<= _;omega⟩,?_⟩;rintro⟨t,_⟩ _ f;simp only at f|-;rw[f];unfold Lx;rw[K7,K7]
def gH:sx Ml dR:=λx a u=>by
 obtain⟨p,q,_⟩:=x;have v:A7 p.1.2:=A3 a.1.1.2.2;have w:A7 p.2:=A3 a.1.2.2;have y:A7 q.1.2:=A3 a.2.1.1.2.2;have z:A7 q.2:=A3 a.2.1.2.2;change B7 at p q;obtain⟨b,c⟩:F4 p/\F4 q:=u;obtain⟨l,n⟩:=JH v w b;obtain⟨o,r⟩:=JH y z c;have B:=icm l o;have D:=icm n r;simp only[dR,I9,V7];refine⟨b,?_⟩;rintro⟨E,_⟩ _ g;refine⟨c,?_⟩;rintro⟨F,_⟩ _ h;simp only at g h|-;subst g h;refine⟨⟨by show(ic (rv p).num).2.length<= _;omega,by show(ic (rv q).num).2.length<= _;omega⟩,?_⟩;rintro⟨H,_⟩ _ j;refine⟨b,?_⟩;rintro⟨A,_⟩ _ d;refine⟨c,?_⟩;rintro⟨e,_⟩ _ f;simp only at j d f|-;subst j d f;refine⟨⟨by show(ic ((rv p).den:Int)).2.length<= _;omega,by show(ic ((rv q).den:Int)).2.length<= _;omega⟩,?_⟩;rintro⟨I,_⟩ _ k;simp only at k|-;subst k;have s:(rc (rv p)).1=ic (rv p).num:=rfl;have t:(rc (rv q)).1=ic (rv q).num:=rfl;rw[s,t,K7,K7,K7,K7];refine⟨⟨by show(ic _).2.length<= _;omega,by show(ic _).2.length<= _;omega⟩,?_⟩;rintro⟨G,_⟩ _ i;simp only at i|-;rw[i];unfold Lx;rw[K7,K7,A1c]
def A1d (p q:Rat):Rat.divInt (p.num*(q.den:Int)) ((p.den:Int)*q.num)=p/q:=by
 rw[tZ,Rat.inv_def, <-g3j,xO]
def gG:sx Tp dN:=λx c A=>by
 obtain⟨p,q,_⟩:=x;have B:A7 p.1.2:=A3 c.1.1.2.2;have D:A7 p.2:=A3 c.1.2.2;have E:A7 q.1.2:=A3 c.2.1.1.2.2;have F:A7 q.2:=A3 c.2.1.2.2;change B7 at p q;obtain⟨d,b⟩:F4 p/\F4 q:=A;obtain⟨r,s⟩:=JH B D d;obtain⟨t,u⟩:=JH E F b;have H:=icm r u;have I:=icm s t;simp only[dN,iB,Fg,I9,V7];refine⟨b,?_⟩;rintro⟨Q,_⟩ _ f;simp only at f|-;refine⟨λh=>?_,λh=>⟨d,?_⟩⟩
 . have a:=BE (f▸qA h);exact⟨λ_=>by trivial,λy=>absurd a y⟩
 have z:rv q≠0:=λa=>by
  have h:=qB h;rw[f,a]at h;exact absurd rfl h
 rintro⟨J,_⟩ _ j;refine⟨b,?_⟩;rintro⟨M,_⟩ _ k;simp only at j k|-;subst j k;refine⟨⟨by show(ic (rv p).num).2.length<= _;omega,by show(ic ((rv q).den:Int)).2.length<= _;omega⟩,?_⟩;rintro⟨O,_⟩ _ n;refine⟨d,?_⟩;rintro⟨G,_⟩ _ g;refine⟨b,?_⟩;rintro⟨e,_⟩ _ i;simp only at n g i|-;subst n g i;refine⟨⟨by show(ic ((rv p).den:Int)).2.length<= _;omega,by show(ic (rv q).num).2.length<= _;omega⟩,?_⟩;rintro⟨P,_⟩ _ o;simp only at o|-;subst o;have v:(rc (rv p)).1=ic (rv p).num:=rfl;have w:(rc (rv q)).1=ic (rv q).num:=rfl;rw[v,w,K7,K7,K7,K7];refine⟨⟨by show(ic _).2.length<= _;omega,by show(ic _).2.length<= _;omega⟩,?_⟩;rintro⟨N,_⟩ _ l;simp only at l|-;refine⟨λa=>absurd a z,λ_=>⟨?_,by trivial⟩⟩;rw[l];unfold Lx;rw[K7,K7,A1d]
def dV:sx Jo UJ:=λx d b=>by
 obtain⟨p,q,_⟩:=x;simp only[UJ];refine⟨b,?_⟩;rintro⟨r,c,_⟩ _ ⟨_,h⟩ a;exact(h a).1
def EL {l:List D9} (h:∀x∈l,WfE x):LX l:=λe a=>⟨A3 (h e a).2.1.2.2,A3 (h e a).2.2.2⟩
def S5 {q:B7} (h:Zk q):Dm q:=⟨A3 h.1.2.2,A3 h.2.2⟩
def Xa:sx W6 Lt:=λx A _=>by
 obtain⟨l,_⟩:=x;have E:l.length<=9223372036854775807:=A.1.1;change List D9 at l;simp only[Lt,iB];refine⟨λp=>1<=p.1/\∀s t:Nat,s<t->t<p.1.toNat->t<l.length->(l.getD s G4).1<(l.getD t G4).1,λp=>((l.length:Int)-p.1).toNat,⟨qH _,λs t c f=>by simp at f;omega⟩,?_⟩;rintro⟨(k:Int),_⟩ _ ⟨u,c⟩;simp only at u c|-;refine⟨λh=>?_,λh=>?_⟩
 . have h:=qA h;rw[wv (a:=k-1) ω];refine⟨⟨ω,ω⟩,⟨ω,h⟩,λb=>?_,λb=>?_⟩
   . have b:=qA b;refine(rC λg=>?_).symm;unfold asc at g;rw[uK]at g;have:=g (k-1).toNat k.toNat ω ω ω;have j:=L9 (d:=G4) (l:=l) (i:=k) ω h;have n:=L9 (d:=G4) (l:=l) (i:=k-1) ω ω;rw[qL ω]at j n;rw[xU j,xU n]at this;omega
   . have b:=qB b;rw[wv (a:=k+1) ω];rw[E5 ω h,E5 ω ω]at b;refine⟨⟨ω,λs t f D v=>?_⟩,ω⟩;by_cases r:t=k.toNat
     . by_cases z:s=(k-1).toNat
       . rw[r,z];omega
       . have:=c s (k-1).toNat ω ω ω;rw[r];omega
     . exact c s t f ω v
 . have h:=qB h;refine(rE ?_).symm;unfold asc;rw[uK];intro i B w o y;have:=c i B y ω o;rw[qD,qL w,qD,qL o]at this;exact this
def B7n {α:Type} (e:α) (a:List α):List.drop (Int.toNat 1) (List.take (((e::a).length:Int)).toNat (e::a))=a:=by
 rw[qJ,vK];rfl
def KL:sx Ej Ya:=λx a7 V=>by
 obtain⟨(A:List D9),(B:List D9),⟨W,c⟩,_⟩:=x;obtain⟨a5,a6,U⟩:A.length<=100000/\B.length<=100000/\∀u v:B7,(u=zr\/∃e∈A,e.2=u)->(v=zr\/∃e∈B,e.2=v)->W (u,v,()):=V;simp only[Ya,iB,Fg];have M:List.replicate (Int.toNat 0) G4= []:=rfl;rw[M];refine⟨⟨qH _,ω,ω,ω⟩,?_⟩;refine⟨λp=>(∀e∈p.1,e∈A)/\(∀e∈p.2.1,e∈B)/\p.2.2.1++J1 c p.1 p.2.1=J1 c A B/\p.2.2.1.length+(p.1.length+p.2.1.length)<=A.length+B.length,λp=>p.1.length+p.2.1.length,⟨λ_ h=>h,λ_ h=>h,rfl,by simp⟩,?_⟩;rintro⟨(a:List D9),(b:List D9),(J:List D9),_⟩ _ ⟨k,i,j,Q⟩;simp only at k i j Q|-;refine⟨λn=>?_,λn=>?_⟩
 . refine⟨λq=>(q.1.length+q.2.1.length<a.length+b.length)/\(∀e∈q.1,e∈A)/\(∀e∈q.2.1,e∈B)/\(((q.2.2.2.1,q.2.2.2.2.1),q.2.2.2.2.2.1)=zr\/∃e∈A,e.2=((q.2.2.2.1,q.2.2.2.2.1),q.2.2.2.2.2.1))/\(((q.2.2.2.2.2.2.1,q.2.2.2.2.2.2.2.1),q.2.2.2.2.2.2.2.2.1)=zr\/∃e∈B,e.2=((q.2.2.2.2.2.2.1,q.2.2.2.2.2.2.2.1),q.2.2.2.2.2.2.2.2.1))/\J1 c a b=put q.2.2.1 (c (((q.2.2.2.1,q.2.2.2.2.1),q.2.2.2.2.2.1),((q.2.2.2.2.2.2.1,q.2.2.2.2.2.2.2.1),q.2.2.2.2.2.2.2.2.1),())) (J1 c q.1 q.2.1),⟨λh=>⟨qH _,qA h.1⟩,λh=>⟨qH _,by have:=qB h.2;omega⟩,λh=>?_,λh=>?_⟩,?_⟩
   . cases a with
     |nil=>
      cases b with
      |nil=>simp[G9]at n
      |cons f b=>simp[G9]at h;omega
     |cons e a=>
      have E:e∈A:=k e (rH ..);have D:∀z∈a,z∈A:=λz d=>k z (qO _ d)
      have F:(0:Int)<((e::a).length:Int):=by simp only[rI];omega
      rw[B7n];refine⟨⟨qH _,F⟩,⟨qH _,F⟩,⟨ω,by simp only[rI];omega,qH _⟩,λh=>⟨qH _,qA h⟩,λg=>?_,λg=>?_⟩
      . cases b with
        |nil=>simp[G9]at g
        |cons f b=>
         rw[B7n];have R:(0:Int)<((f::b).length:Int):=by simp only[rI];omega
         refine⟨⟨qH _,R⟩,⟨ω,by simp only[rI];omega,qH _⟩,by simp only[rI];omega,D,λz d=>i z (qO _ d), .inr ⟨e,E,rfl⟩, .inr ⟨f,i f (rH ..),rfl⟩,?_⟩;rw[I5,qC,rS,rS]at g;have O:f.1=e.1:=g.2;show J1 c (e::a) (f::b)=put e.1 (c (e.2,f.2,())) (J1 c a b);rw[J1,qG ω,qN O.symm]
      . refine⟨by simp only[rI];omega,D,i, .inr ⟨e,E,rfl⟩, .inl rfl,?_⟩;show J1 c (e::a) b=put e.1 (c (e.2,zr,())) (J1 c a b);cases b with
        |nil=>rw[J1]
        |cons f b=>
         have O:¬f.1=e.1:=by
          have:decide ((gx G4 (f::b) 0).1=(gx G4 (e::a) 0).1)=false:=by simpa[G9]using g
          exact qB this
         have R:e.1<=f.1:=by
          have:decide ((gx G4 (e::a) 0).1<=(gx G4 (f::b) 0).1)=true:=by
           rw[F2,I5]at h;simp only[rI,tD,qC,rS]at h;rcases h with h|h
           . omega
           . exact rE h.2
          exact qA this
         rw[J1,qN ω]
   . rw[F2,I5]at h;simp only[rA,wR,rG]at h;obtain⟨P,h⟩:=h;cases b with
     |nil=>simp at P
     |cons f b=>
      have D:(0:Int)<((f::b).length:Int):=by simp only[rI];omega
      rw[B7n];refine⟨⟨qH _,D⟩,⟨qH _,D⟩,⟨ω,by simp only[rI];omega,qH _⟩,by simp only[rI];omega,k,λz d=>i z (qO _ d), .inl rfl, .inr ⟨f,i f (rH ..),rfl⟩,?_⟩;show J1 c a (f::b)=put f.1 (c (zr,f.2,())) (J1 c a b);cases a with
      |nil=>rw[J1]
      |cons e a=>
       have E:¬e.1<=f.1:=by
        rcases h with h|h
        . simp at h
        . exact h
       rw[J1,qG ω,qG ω]
   . rintro⟨a3,a4,(G:Int),X,Y,Z,a0,a1,a2,_⟩ _ ⟨r,s,t,H,I,w⟩;simp only at r s t H I w|-;refine⟨by trivial,U _ _ H I,λ_=>⟨trivial,?_⟩⟩;rintro⟨a8,_⟩ _ o;simp only at o|-;generalize c (((X,Y),Z),((a0,a1),a2),())=z at*;have T:∀(α:Type) (l:List α) (y:α),(l++ [y]).length=l.length+1:=fun α l y=>by simp
     refine⟨λh=>⟨⟨by simp only[qU];omega,by simp only[qU];omega⟩,⟨s,t,?_,?_⟩,r⟩,λh=>⟨⟨s,t,?_,ω⟩,r⟩⟩
     . have h:=qA h;have d:¬rv z=0:=λh0=>h (by rw[o,h0];rfl)
       rw[<-j,w,put,qG d,vA];rfl
     . show(J++ [(G,z)]).length+ _ <= _;rw[T];omega
     . have h:=qB h;have d:rv z=0:=BE (by rw[<-o];exact tK.1 h);rw[<-j,w,put,qN d]
 . rw[F2]at n;simp only[rA,rG]at n;have N:a= []:=qT ω;have g:b= []:=qT ω;subst N g;rw[J1,vD]at j;exact j
def KJ:sx Ei Xz:=λx u _=>by
 obtain⟨l,n,_⟩:=x;have v:l.length<=9223372036854775807:=u.1.1;change List D9 at l;change Int at n;simp only[Xz,iB,Lh];refine⟨trivial,?_⟩;rintro⟨w,_⟩ _ j;simp only at j|-;refine⟨λh=>?_,λh=>?_⟩
 . have:¬asc l:=by
    rw[j]at h;simpa using h
   exact(rC λk=>this k.1).symm
 have s:asc l:=by
  rw[j]at h;simpa using h
 refine⟨λp=>0<=p.1/\∀e∈l.take p.1.toNat,0<=e.1/\e.1<n/\rv e.2≠0,λp=>((l.length:Int)-p.1).toNat,⟨qH _,by simp⟩,?_⟩;rintro⟨(o:Int),_⟩ _ ⟨c,f⟩;simp only at c f|-;refine⟨λb=>?_,λb=>?_⟩
 . have b:=qA b;refine⟨⟨c,b⟩,λ_=>trivial,?_⟩;rintro⟨y,_⟩ g;simp only at g|-;simp only[F2]at g|-;have t:gx G4 l o∈l:=I7 c b;refine⟨λa=>?_,λa=>?_⟩
   . refine(rC λk=>?_).symm;have:=k.2 _ t;simp only[tD,rS]at a;rcases a with(a|a) |a
     . omega
     . omega
     . have i:=(g (by simp only[rA,rG];omega)).2;exact this.2.2 (BE (by rw[<-i];exact a))
   . simp only[rA,rG]at a;have i:=(g (by simp only[rA,rG];exact a.1)).2;rw[wv ω];refine⟨⟨ω,Gu (d:=G4) (q:=λe=>0<=e.1/\e.1<n/\rv e.2≠0) c b f ⟨ω,ω,λr=>a.2 (by rw[i,r];rfl)⟩⟩,ω⟩
 . have b:=qB b;rw[E4 ω]at f;exact(rE ⟨s,f⟩).symm
def GV:sx Cq Uo:=λx b a=>by
 simp only[Uo,I9];exact⟨a,λr _ h=>h⟩
def A8d {k:Nat} {v:List D9} (h:TY k v) {u:B7} (b:u=zr\/∃e∈v,e.2=u):sz k u:=by
 rcases b with rfl| ⟨e,a,rfl⟩
 . exact⟨rP _,rP _⟩
 . exact h e a
def OU:sx Cw DC:=λx I a=>by
 obtain⟨(l:List D9),_⟩:=x;have a:Mz l:=a;have v:gO l:=a.elim (λh=> .inl h.1) .inr;simp only[DC,oG,I9];refine⟨v,?_⟩;rintro⟨(r:List D9),_⟩ _ ⟨s,t⟩;simp only at s t|-;have E:asc r/\(∀j,B6 r j=B6 l j)/\TY K1 r/\r.length<=100000:=by
  by_cases h:asc l
  . rw[s h];rcases a with⟨_,i,d⟩ | ⟨i,d⟩
    . exact⟨h,λ_=>rfl,i,d⟩
    . exact⟨h,λ_=>rfl,λe f=>F3 (d e f) δ,ω⟩
  . obtain⟨b,c,H,u⟩:=t h;exact⟨b,c,λe f=>F3 (u e f) δ,ω⟩
 obtain⟨z,A,B,D⟩:=E;refine⟨λy=>sz K1 y.1,λy=>rc (rv y.1),?_,⟨D,ω,λF G g _=>A8d B g⟩,?_⟩
 . rintro⟨F,G,_⟩ _ g;exact⟨G2 (k:=K1) g δ,λJ _ w=>⟨by trivial,w⟩⟩
 . rintro⟨q,_⟩ _ n;simp only at n|-;rw[n];obtain⟨b,c⟩:=B4c z;exact⟨b,λo=>(c o).trans (A o)⟩
def SZ:sx Z8 HQ:=λx n w=>by
 obtain⟨v,k,_⟩:=x;have t:LX v:=EL n.1.2;have H:v.length<=9223372036854775807:=n.1.1;change List D9 at v;change Int at k;obtain⟨s,l,G⟩:PC K1 v:=w;simp only[HQ,iB,I9];refine⟨trivial,?_⟩;rintro⟨D,_⟩ _ g;simp only at g|-;have g:D=rc 0:=by rw[g, <-oH];rfl
 refine⟨λp=>0<=p.1/\p.1<=(v.length:Int)/\((p.2.1,p.2.2.1),p.2.2.2.1)=rc (B6 (v.take p.1.toNat) k),λp=>((v.length:Int)-p.1).toNat,⟨qH _,qF _,by rw[g];rfl⟩,?_⟩;rintro⟨(i:Int),o,m,d,_⟩ _ ⟨f,r,b⟩;simp only at f r b|-;refine⟨λh=>?_,λh=>?_⟩
 . have h:=qA h;have u:gx G4 v i∈v:=I7 f h;have A:v.take (i+1).toNat=v.take i.toNat++ [gx G4 v i]:=by
    rw[(ω:(i+1).toNat=i.toNat+1),rU,L9 (d:=G4) f h];rfl
   have y:=WU (v:=v.take i.toNat) (k:=K1) (s.take) (λe a=>t e (rW a)) (λe a=>l e (rW a)) δ k;have z:=l _ u;have j:B6 (v.take (i+1).toNat) k=B6 (v.take i.toNat) k+if(gx G4 v i).1=k then rv (gx G4 v i).2 else 0:=by
    rw[A,X5];simp only[B6,rL]
   generalize gx G4 v i=e at*;refine⟨λp=>((p.1,p.2.1),p.2.2.1)=rc (B6 (v.take (i+1).toNat) k),⟨⟨f,h⟩,λa=>⟨⟨?_,G2 (k:=K1) z δ⟩,?_⟩,λa=>?_⟩,?_⟩
   . rw[b];exact I1 y δ
   . have a:=qA a;rintro⟨B,_⟩ _ c;simp only at c|-;show B= _;rw[c,b,C9,j,qN a]
   . have a:=qB a;show((o,m),d)= _;rw[b,j,qG a,rL]
   . rintro⟨E,I,F,_⟩ _ c;simp only at c|-;rw[wv ω];exact⟨⟨ω,ω,c⟩,ω⟩
 . have h:=qB h;rw[E4 ω]at b;exact b
def B0g {l:List B7} {i:Int} (a:0<=i) (b:i<(l.length:Int)):gx dQ l i=l.getD i.toNat zr:=E5 (d:=zr) a b
def Wz:sx M7 Ls:=λx s F=>by
 obtain⟨(l:List B7),_⟩:=x;obtain⟨I,G⟩:l.length<=100000/\He K1 l:=F;simp only[Ls,iB,Fg,I9];refine⟨λp=>0<=p.2.1/\p.2.1<=(l.length:Int)/\p.1.length<=p.2.1.toNat/\mX p.2.1.toNat (λj=>rv (l.getD j zr)) p.1,λp=>((l.length:Int)-p.2.1).toNat,⟨qH _,qF _,qV _,LK,λ_ h=>(by cases h),λj k=>by simp at k⟩,?_⟩;rintro⟨(v:List D9),(i:Int),_⟩ _ ⟨c,z,A,b⟩;simp only at c z A b|-;refine⟨λh=>?_,λh=>?_⟩
 . have h:=qA h;have E:gx dQ l i∈l:=I7 c h;have u:=G _ E;have B:=B0g c h;have n:∀e∈v,e.1<i:=λe a=>by have:=(b.2.1 e a).2;omega
   rw[B]at u|-;have r:∀w:List D9,Br w->(∀e∈w,e∈v\/e.1=i)->(∀j:Int,B6 w j=B6 v j+if i=j then rv (l.getD i.toNat zr)else 0)->mX (i+1).toNat (λj=>rv (l.getD j zr)) w:=λw hc s hcm=>by
    refine⟨hc,λe a=>?_,λj k=>?_⟩
    . rcases s e a with a|a
      . have:=b.2.1 e a;omega
      . omega
    . rw[hcm];by_cases D:j<i.toNat
      . rw[b.2.2 j D,qG ω,rL]
      . have:j=i.toNat:=ω
        rw[E7 λe a H=>by have:=n e a;omega,qN ω,sR,this]
   refine⟨λp=>p.1.length<=(i+1).toNat/\mX (i+1).toNat (λj=>rv (l.getD j zr)) p.1,⟨⟨c,h⟩,trivial,?_⟩,?_⟩
   . rintro⟨J,_⟩ _ g;simp only at g|-;refine⟨λd=>⟨G2 u δ,?_⟩,λa=>⟨by show v.length<= _;omega,r v b.1 (λe a=> .inl a) λj=>?_⟩⟩
     . rintro⟨y,_⟩ _ o;simp only at o|-;have d:=qA d;have f:rv (l.getD i.toNat zr)≠0:=λc=>d (by rw[g,c];rfl)
       refine⟨⟨by simp only[qU];omega,by simp only[qU];omega⟩,by show(v++ [(i,y)]).length<= _;simp;omega,?_⟩;show mX _ _ (v++ [(i,y)]);rw[o];exact r _ (Sd b.1 f n) (λe a=>by
        rcases rB.1 a with a|a
        . exact .inl a
        . rw[qK.1 a];exact .inr rfl) λj=>Mf v i _ j
     . have a:=qB a;have f:rv (l.getD i.toNat zr)=0:=BE (by rw[<-g];exact tK.1 a);rw[f,ite_self,rL]
   . rintro⟨w,_⟩ _ t;simp only at t|-;rw[wv ω];exact⟨⟨ω,ω,t⟩,ω⟩
 . have h:=qB h;rw[(ω:i.toNat=l.length)]at b;exact b
def Rp:sx R6 Je:=λx j l=>by
 obtain⟨p,q,f,_⟩:=x;have o:Dm q:=S5 j.2.1;have n:Dm f:=S5 j.2.2.1;change B7 at p q f;obtain⟨c,d,b⟩:sz K1 p/\sz K1 q/\sz K1 f:=l;simp only[Je,iB,Fg,I9];refine⟨trivial,?_⟩;rintro⟨s,_⟩ _ g;simp only at g|-;refine⟨λh=>⟨G2 c δ,?_⟩,λ_=>⟨⟨G2 b δ,G2 d δ⟩,?_⟩⟩
 . rintro⟨r,_⟩ _ a;simp only at a|-;have h:=qA h;rw[g]at h;rw[a,BE h,sH,rL]
 . rintro⟨r,_⟩ _ a;simp only at a|-;have k:=Lg (Bo n b δ) (Bo o d δ);refine⟨⟨G2 c δ,by rw[a];exact I1 k δ⟩,?_⟩;rintro⟨t,_⟩ _ i;simp only at i|-;rw[i,a,C9]
def Wy:sx P9 Lr:=λx D t=>by
 obtain⟨(b:List D9),(f:B7),(d:List D9),_⟩:=x;obtain⟨⟨c,k,l⟩,s,g,n,o⟩:PC K1 b/\sz K1 f/\PC K1 d:=t;simp only[Lr,oG,I9];refine⟨.inl c,?_⟩;rintro⟨r,_⟩ _ ⟨a,_⟩;have a:r=b:=a c;simp only;subst a;refine⟨.inl g,?_⟩;rintro⟨z,_⟩ _ ⟨h,_⟩;have h:z=d:=h g;simp only;subst h;refine⟨λy=>sz K1 y.1/\sz K1 y.2.1,λy=>rc (rv y.1+rv f*rv y.2.1),?_,⟨l,o,λA B i j=>⟨A8d k i,A8d n j⟩⟩,?_⟩
 . rintro⟨A,B,_⟩ _ ⟨i,j⟩;exact⟨⟨i,j,s⟩,λE _ u=>⟨by trivial,u⟩⟩
 . rintro⟨r,_⟩ _ a;simp only at a|-;rw[a];obtain⟨v,_,w⟩:=TL (λy=>rc (rv y.1+rv f*rv y.2.1)) (λp q=>p+rv f*q) (by rw[sH,rL]) _ _ (λ_ _ _ _=>rfl) c g;exact⟨v,w⟩
def fN {l:Wf} {v:Int} {a:Nat} (f:l.Pairwise (· < ·)) (g:∀y∈l.take a,y<v) (i:∀y,l[a]? =some y->v<y):(l.take a++ [v]++l.drop a).Pairwise (· < ·):=by
 have h:∀y∈l.drop a,v<y:=λy b=>by
  rw[<-uS a l,tW]at f;cases d:l.drop a with
  |nil=>rw[d]at b;cases b
  |cons z r=>
   have c:v<z:=i z (by rw[<-List.head?_drop,d];rfl);rw[d]at b;rcases qS.1 b with rfl|b
   . exact c
   . have:=f.2.1;rw[d,g0c]at this;have:=this.1 y b;omega
 rw[tW,tW];refine⟨⟨f.take,vF _ _,λy b z c=>?_⟩,f.drop,λy b z c=>?_⟩
 . rw[qK.1 c];exact g y b
 . rcases rB.1 b with b|b
   . have:=g y b;have:=h z c;omega
   . rw[qK.1 b];exact h z c
def OE:sx Ga CR:=λx a3 T=>by
 obtain⟨c,_⟩:=x;change List (List (Int×(Bool×Wf)×Wf))at c;obtain⟨a0,W⟩:c.length<=4/\∀v∈c,v.length<=100000:=T;simp only[CR,iB];refine⟨λp=>0<=p.2.1/\p.2.1<=(c.length:Int)/\p.1.length<=100000*p.2.1.toNat/\p.1.Pairwise (· < ·)/\∀i,i∈p.1↔∃v∈c.take p.2.1.toNat,∃e∈v,e.1=i,λp=>((c.length:Int)-p.2.1).toNat,⟨qH _,qF _,by simp,List.Pairwise.nil,λi=>by simp⟩,?_⟩;rintro⟨(out:Wf),(j:Int),_⟩ _ ⟨z,u,r,E,A⟩;simp only at z u r E A|-;refine⟨λh=>?_,λh=>?_⟩
 . have h:=qA h;have a2:=W _ (I7 (d:=([]:List (Int×(Bool×Wf)×Wf))) z h);have V:c.take (j+1).toNat=c.take j.toNat++ [gx [] c j]:=by
    rw[(ω:(j+1).toNat=j.toNat+1),rU,L9 (d:=([]:List (Int×(Bool×Wf)×Wf))) z h];rfl
   generalize gx ([]:List (Int×(Bool×Wf)×Wf)) c j=v at*;refine⟨⟨z,h⟩,λp=>0<=p.2.1/\p.2.1<=(v.length:Int)/\p.1.length<=100000*j.toNat+p.2.1.toNat/\p.1.Pairwise (· < ·)/\∀i,i∈p.1↔(∃v∈c.take j.toNat,∃e∈v,e.1=i)\/∃e∈v.take p.2.1.toNat,e.1=i,λp=>((v.length:Int)-p.2.1).toNat,⟨qH _,qF _,by simpa using r,E,λi=>by rw[A];simp⟩,?_⟩;rintro⟨(o:Wf),(k:Int),_⟩ _ ⟨t,P,Q,w,y⟩;simp only at t P Q w y|-;refine⟨λn=>?_,λn=>?_⟩
   . have n:=qA n;have X:v.take (k+1).toNat=v.take k.toNat++ [gx G4 v k]:=by
      rw[(ω:(k+1).toNat=k.toNat+1),rU,L9 (d:=G4) t n];rfl
     have I:∀i,((∃v∈c.take j.toNat,∃e∈v,e.1=i)\/∃e∈v.take (k+1).toNat,e.1=i)↔(i∈o\/(gx G4 v k).1=i):=λi=>by
      rw[y i,X];constructor
      . rintro(h| ⟨e,s,rfl⟩)
        . exact .inl (.inl h)
        . rcases rB.1 s with s|s
          . exact .inl (.inr ⟨e,s,rfl⟩)
          . rw[qK.1 s];exact .inr rfl
      . rintro((h| ⟨e,s,rfl⟩) |rfl)
        . exact .inl h
        . exact .inr ⟨e,rB.2 (.inl s),rfl⟩
        . exact .inr ⟨_,rB.2 (.inr (by simp)),rfl⟩
     generalize gx G4 v k=e at*;refine⟨λp=>p.1.length<=100000*j.toNat+k.toNat+1/\p.1.Pairwise (· < ·)/\∀i,i∈p.1↔(∃v∈c.take j.toNat,∃e∈v,e.1=i)\/∃e∈v.take (k+1).toNat,e.1=i,?_,?_⟩
     . refine⟨λp=>0<=p.1/\p.1<=(o.length:Int)/\∀H∈o.take p.1.toNat,H<e.1,λp=>((o.length:Int)-p.1).toNat,⟨qH _,qF _,by simp⟩,?_⟩;rintro⟨(a:Int),_⟩ _ ⟨f,B,D⟩;simp only at f B D|-;refine⟨λb=>⟨f,qA b⟩,λ_=>⟨t,n⟩,λb=>?_,λb=>⟨λb=>⟨f,qA b⟩,λ_=>⟨t,n⟩,λg=>?_,λg=>?_⟩⟩
       . rw[I5]at b;simp only[qC,rS]at b;rw[wv ω];refine⟨⟨ω,ω,Gu (d:=(0:Int)) f b.1 D ?_⟩,ω⟩;rw[E5 f b.1];exact b.2
       . rw[I5]at g;simp only[qC,rS]at g;refine⟨by show o.length<= _;omega,w,λi=>?_⟩;rw[I i];constructor
         . exact .inl
         . rintro(R|rfl)
           . exact R
           . have:=I7 (d:=(0:Int)) f g.1;rw[E5 f g.1,g.2]at this;exact this
       . rw[I5]at b g;simp only[wR,rG]at b g;have N:(o.take a.toNat).drop (Int.toNat 0)=o.take a.toNat:=rfl;have O:o.take ((o.length:Int)).toNat=o:=by rw[qJ,vK]
         rw[N,O];have a4:(o.take a.toNat).length<=o.length:=by rw[qZ];omega
         have a5:(o.drop a.toNat).length<=o.length:=by rw[sU];omega
         have a6:(o.take a.toNat++ [e.1]++o.drop a.toNat).length=o.length+1:=by
          simp only[rQ,qZ,sU,qU];omega
         refine⟨⟨qH _,f,B⟩,⟨ω,ω⟩,⟨t,n⟩,⟨by simp only[qU];omega,by simp only[qU];omega⟩,⟨f,B,qH _⟩,⟨?_,?_⟩,⟨by show(o.take a.toNat++ [e.1]++o.drop a.toNat).length<= _;omega,?_,λi=>?_⟩⟩
         . simp only[rQ,qU];omega
         . simp only[rQ,qU];omega
         . refine fN w D λH F=>?_
           have a1:a.toNat<o.length:=by
            rcases sD a.toNat o.length with h|h
            . exact h
            . rw[rT h]at F;cases F
           have Y:o.getD a.toNat 0=H:=by rw[qD,F];rfl
           rw[Y]at b g;omega
         . rw[I i];simp only[rB,qK];have U:i∈o↔i∈o.take a.toNat\/i∈o.drop a.toNat:=by
            conv=>lhs;rw[<-uS a.toNat o]
            exact rB
           rw[U];constructor
           . rintro((h|h) |h)
             . exact .inl (.inl h)
             . exact .inr h.symm
             . exact .inl (.inr h)
           . rintro((h|h) |h)
             . exact .inl (.inl h)
             . exact .inr h
             . exact .inl (.inr h.symm)
     . rintro⟨a7,_⟩ _ ⟨Z,J,M⟩;simp only at Z J M|-;rw[wv ω];exact⟨⟨ω,ω,ω,J,M⟩,ω⟩
   . have n:=qB n;rw[wv ω];rw[E4 (l:=v) (i:=k) ω]at y;refine⟨⟨ω,ω,ω,w,λi=>?_⟩,ω⟩;rw[y i,V];simp only[rB,qK];constructor
     . rintro(⟨G,u,r⟩ |h)
       . exact⟨G, .inl u,r⟩
       . exact⟨v, .inr rfl,h⟩
     . rintro⟨G,u|rfl,r⟩
       . exact .inl ⟨G,u,r⟩
       . exact .inr r
 . have h:=qB h;rw[E4 ω]at A;exact⟨E,A⟩
def Vb {l:List D9} {e:D9} :asc (l++ [e])↔asc l/\∀x∈l,x.1<e.1:=by
 unfold asc;rw[tW];simp
def WI:sx Ki OF:=λx N I=>by
 obtain⟨v,o,_⟩:=x;have Y:v.length<=9223372036854775807:=N.1.1;change List (Int×(Bool×Wf)×Wf)at v;change Int at o;have O:∀e∈v,F4 e.2:=λe j=>G2 ((show TY K1 v from I) e j) δ
 simp only[OF,iB];refine⟨λp=>0<=p.1/\p.1<=(v.length:Int)/\G6 (v.take p.1.toNat) o,λp=>((v.length:Int)-p.1).toNat,⟨qH _,qF _,List.Pairwise.nil,by simp⟩,?_⟩;rintro⟨(i:Int),_⟩ _ ⟨a,E,b,r⟩;simp only at a E b r|-;refine⟨λh=>?_,λh=>?_⟩
 . have h:=qA h;have A:=I7 (d:=G4) a h;have D:=L9 (d:=G4) a h;have u:v.take (i+1).toNat=v.take i.toNat++ [gx G4 v i]:=by
    rw[(ω:(i+1).toNat=i.toNat+1),rU,D];rfl
   have J:0<i->((∀x∈v.take i.toNat,x.1<(gx G4 v i).1)↔¬(gx G4 v i).1<=(gx G4 v (i64.wrap (i-1))).1):=λg=>by
    rw[wv ω];have w:=L9 (d:=G4) (l:=v) (i:=i-1) ω ω;have M:v.take i.toNat=v.take (i-1).toNat++ [gx G4 v (i-1)]:=by
     rw[(ω:i.toNat=(i-1).toNat+1),rU,w];rfl
    rw[M]at b|-;constructor
    . intro f;have:=f (gx G4 v (i-1)) (by simp);omega
    . intro f x c;rcases rB.1 c with c|c
      . have:=(Vb.1 b).2 x c;omega
      . rw[qK.1 c];omega
   have P:0<i->i64.wrap (i-1)=i-1:=λ_=>wv ω
   generalize gx G4 v (i64.wrap (i-1))=t at*;generalize gx G4 v i=e at*;refine⟨⟨a,h⟩,λ_=>⟨a,h⟩,λ_=>⟨a,h⟩,λf=>?_,λ_=>⟨a,h⟩,λ_=>O _ A,?_⟩
   . have g:=qA f.1;rw[P g];exact⟨ω,ω⟩
   rintro⟨(B:Int),_⟩ k;simp only at k|-;rw[F2,I5,F2]at k;rw[F2,I5,F2,F2];have z:(decide (e.1<0) ||decide (o<=e.1) || (decide (0<i)&&decide (e.1<=t.1)) ||decide (B=0))=false↔0<=e.1/\e.1<o/\(∀x∈v.take i.toNat,x.1<e.1)/\rv e.2≠0:=by
    have M:(∀x∈v.take i.toNat,x.1<e.1)↔(decide (0<i)&&decide (e.1<=t.1))=false:=by
     by_cases g:0<i
     . rw[J g];simp[g]
     . have:i.toNat=0:=ω
       rw[this];simp[g]
    rw[M];by_cases c:(decide (e.1<0) ||decide (o<=e.1) || (decide (0<i)&&decide (e.1<=t.1)))=false
    . have k:=(k c).2;rw[c,k];simp only[rA,rG]at c;obtain⟨⟨V,W⟩,w⟩:=c;rw[w];simp only[Bool.or_false,wI,rG];exact⟨λh=>⟨ω,ω,by trivial,λa=>h (by rw[a];rfl)⟩,λh a=>h.2.2.2 (BE a)⟩
    . rw[rA];constructor
      . intro f;exact absurd f.1 c
      . rintro⟨V,W,w,_⟩;refine absurd ?_ c;simp only[rA,rG];exact⟨⟨ω,ω⟩,w⟩
   refine⟨λs=>?_,λs=>?_⟩
   . refine(rC λF=>?_).symm;obtain⟨G,H⟩:=F;have j:=H e A;have y:asc (v.take (i+1).toNat):=g4m G;rw[u,Vb]at y;have:=z.2 ⟨j.1,j.2.1,y.2,j.2.2⟩;rw[this]at s;cases s
   . obtain⟨Q,R,T,U⟩:=z.1 s;rw[wv ω];refine⟨⟨ω,ω,?_,?_⟩,ω⟩
     . show asc _;rw[u,Vb];exact⟨b,T⟩
     . rw[u];intro X n;rcases rB.1 n with n|n
       . exact r X n
       . rw[qK.1 n];exact⟨Q,R,U⟩
 . have h:=qB h;rw[E4 ω]at b r;exact(rE ⟨b,r⟩).symm
def A4b {s:Nat} (a:1<=s) (k:Int):∀ {v:List D9},LX v->TY s v->qs ((s+1)*v.length+1) (B6 v k)
 | [],_,_=>J8 (by simp)
 |e::v,b,c=>by
  have f:=A4b a k (λx hx=>b x (qO _ hx)) (λx hx=>c x (qO _ hx));have d:qs s (if e.1=k then rv e.2 else 0):=by
   split
   . exact Bo (b e (rH ..)) (c e (rH ..)) a
   . exact J8 a
  refine G8 (Rf d f) ?_;rw[rI,sY];omega
def C0a {v:List D9} (c:LX v) (a:Mz v) (n:Nat) (k:Int):qs K1 (B6 (v.take n) k):=by
 rcases a with⟨f,b,_⟩ | ⟨d,b⟩
 . exact WU f.take (λe a=>c e (rW a)) (λe a=>b e (rW a)) δ k
 . refine G8 (A4b (s:=65536) δ k (λe a=>c e (rW a)) (λe a=>b e (rW a))) ?_;rw[qZ];have:min n v.length<=20:=qY (Nat.min_le_right ..) d;have:=sC 65537 this;show 65537* _ +1<=549755813888;omega
def B0x {v:List D9} (a:Mz v):v.length<=100000:=by
 rcases a with⟨_,_,h⟩ | ⟨h,_⟩<;>omega
def C0b {v:List D9} (a:Mz v):TY K1 v:=by
 rcases a with⟨_,h,_⟩ | ⟨_,h⟩
 . exact h
 . exact λe a=>F3 (h e a) δ
def gL:sx Ts eG:=λx l f=>by
 obtain⟨v,k,_⟩:=x;have s:LX v:=EL l.1.2;have F:v.length<=9223372036854775807:=l.1.1;change List D9 at v;change Int at k;have f:Mz v:=f;have w:=C0b f;have E:=B0x f;simp only[eG,iB,I9];refine⟨trivial,?_⟩;rintro⟨H,_⟩ _ n;simp only at n|-;refine⟨λp=>0<=p.1/\p.1<=(v.length:Int)/\((p.2.1,p.2.2.1),p.2.2.2.1)=rc (B6 (v.take p.1.toNat) k),λp=>((v.length:Int)-p.1).toNat,⟨qH _,qF _,by rw[n];rfl⟩,?_⟩;rintro⟨(i:Int),o,m,d,_⟩ _ ⟨c,r,b⟩;simp only at c r b|-;refine⟨λh=>?_,λh=>?_⟩
 . have h:=qA h;have t:gx G4 v i∈v:=I7 c h;have z:v.take (i+1).toNat=v.take i.toNat++ [gx G4 v i]:=by
    rw[(ω:(i+1).toNat=i.toNat+1),rU,L9 (d:=G4) c h];rfl
   have u:=C0a s f i.toNat k;have y:=w _ t;have j:B6 (v.take (i+1).toNat) k=B6 (v.take i.toNat) k+if(gx G4 v i).1=k then rv (gx G4 v i).2 else 0:=by
    rw[z,X5];simp only[B6,rL]
   generalize gx G4 v i=e at*;refine⟨λp=>((p.1,p.2.1),p.2.2.1)=rc (B6 (v.take (i+1).toNat) k),⟨⟨c,h⟩,λa=>⟨⟨c,h⟩,⟨?_,G2 (k:=K1) y δ⟩,?_⟩,λa=>?_⟩,?_⟩
   . rw[b];exact I1 u δ
   . have a:=qA a;rintro⟨A,_⟩ _ g;simp only at g|-;show A= _;rw[g,b,C9,j,qN a]
   . have a:=qB a;show((o,m),d)= _;rw[b,j,qG a,rL]
   . rintro⟨B,G,D,_⟩ _ g;simp only at g|-;rw[wv ω];exact⟨⟨ω,ω,g⟩,ω⟩
 . have h:=qB h;rw[E4 ω]at b;exact b
def C7q {r l:Wf} (h:r.Pairwise (· < ·)) (d:∀i∈r,i∈l):r.length<=l.length:=by
 have a:r.Nodup:=h.imp λh e=>ω
 clear h
 induction r generalizing l with
 |nil=>exact rP _
 |cons b r f=>
  rw[sK]at a;have c:=d b (rH ..);have:=f (l:=l.erase b) (λi hi=>by
   refine(g0u λe=>a.1 (by rw[<-e];exact hi)).2 (d i (qO _ hi))) a.2
  have a:=zR c;have a:=g0i c;rw[rI];omega
def eH:sx Oc UN:=λx u g=>by
 obtain⟨v,_⟩:=x;have Q:LX v:=EL u.1.2;change List D9 at v;have g:Mz v:=g;have W:=C0b g;have P:=B0x g;simp only[UN,iB,Fg,rT1,I9];refine⟨⟨by simp,λU u=>by rw[qK.1 u];exact P⟩,?_⟩;rintro⟨(r:Wf),_⟩ ⟨⟨R,_⟩,_⟩ ⟨B,J⟩;simp only at B J R|-;have M:∀i,i∈r↔∃e∈v,e.1=i:=λi=>by
  rw[J i];constructor
  . rintro⟨U,u,a⟩;rw[qK.1 u]at a;exact a
  . intro a;exact⟨v,by simp,a⟩
 have V:r.length<=v.length:=by
  have:=C7q (l:=v.map λe:D9=>e.1) B λi s=>by
   obtain⟨e,a,rfl⟩:=(M i).1 s;exact vL a
  rwa[tJ]at this
 refine⟨λp=>0<=p.2.1/\p.2.1<=(r.length:Int)/\p.1.length<=p.2.1.toNat/\Br p.1/\(∀e∈p.1,e.1∈r.take p.2.1.toNat)/\(∀j∈r.take p.2.1.toNat,B6 p.1 j=B6 v j),λp=>((r.length:Int)-p.2.1).toNat,⟨qH _,qF _,qV _,LK,λ_ h=>(by cases h),by simp⟩,?_⟩;rintro⟨(out:List D9),(j:Int),_⟩ _ ⟨n,N,O,w,f,o⟩;simp only at n N O w f o|-;refine⟨λh=>?_,λh=>?_⟩
 . have h:=qA h;have t:r.take (j+1).toNat=r.take j.toNat++ [gx 0 r j]:=by
    rw[(ω:(j+1).toNat=j.toNat+1),rU,L9 (d:=(0:Int)) n h];rfl
   have D:∀y∈r.take j.toNat,y<gx 0 r j:=λy hy=>by
    have:(r.take (j+1).toNat).Pairwise (· < ·):=B.take;rw[t,tW]at this;exact this.2.2 y hy _ (qK.2 rfl)
   have H:=C0a Q g v.length (gx 0 r j);rw[vK]at H;generalize gx 0 r j=i at*;have G:∀e∈out,e.1<i:=λe a=>D _ (f e a)
   have E:B6 out i=0:=E7 λe a z=>by have:=G e a;omega
   refine⟨λp=>p.1.length<=(j+1).toNat/\Br p.1/\(∀e∈p.1,e.1∈r.take (j+1).toNat)/\∀k∈r.take (j+1).toNat,B6 p.1 k=B6 v k,⟨⟨n,h⟩,g,?_⟩,?_⟩
   . rintro⟨q,_⟩ _ I;simp only at I|-;subst I;refine⟨I1 H δ,?_⟩;rintro⟨Y,_⟩ _ A;simp only at A|-;rw[C9]at A;refine⟨λc=>⟨⟨by simp only[qU];omega,by simp only[qU];omega⟩,by show(out++ [(i,_)]).length<= _;simp;omega,?_,λe a=>?_,λk b=>?_⟩,λc=>⟨by show out.length<= _;omega,w,λe a=>by rw[t];exact rB.2 (.inl (f e a)),λk b=>?_⟩⟩
     . have c:=qA c;exact Sd w (λn=>c (by rw[A,n];rfl)) G
     . rw[t];rcases rB.1 a with a|a
       . exact rB.2 (.inl (f e a))
       . rw[qK.1 a];exact rB.2 (.inr (qK.2 rfl))
     . show B6 (out++ [(i,rc (B6 v i))]) k=B6 v k;rw[Mf];rw[t]at b;rcases rB.1 b with b|b
       . have:=D k b;rw[qG ω,rL,o k b]
       . rw[qK.1 b,qN rfl,E,sR]
     . have c:=qB c;have T:B6 v i=0:=BE (by rw[<-A];exact tK.1 c);rw[t]at b;show B6 out k=B6 v k;rcases rB.1 b with b|b
       . exact o k b
       . rw[qK.1 b,E,T]
   . rintro⟨X,_⟩ _ F;simp only at F|-;rw[wv ω];exact⟨⟨ω,ω,F⟩,ω⟩
 . have h:=qB h;rw[E4 ω]at f o;refine⟨w,λi=>?_⟩;by_cases s:i∈r
   . exact o i s
   . rw[E7 λe a z=>s (by rw[<-z];exact f e a),E7 λe a z=>s ((M i).2 ⟨e,a,z⟩)]
def gY (l:List B7) (j:Int):∀n:Nat,n<=l.length->B6 ((List.range n).map λi:Nat=>((i:Int),l.getD i zr)) j=if 0<=j/\j<(n:Int)then rv (l.getD j.toNat zr)else 0
 |0,_=>by rw[qG ω];rfl
 |n+1,h=>by
  rw[xT,uO,X5,gY l j n ω];simp only[sE,List.map_nil,B6,rL];by_cases b:(n:Int)=j
  . subst b;rw[qG ω,qN rfl,sR,qN ω,qJ]
  . rw[qG b,rL];by_cases a:0<=j/\j<(n:Int)
    . rw[qN a,qN ω]
    . rw[qG a,qG ω]
def GO:sx Ck Uh:=λx u r=>by
 obtain⟨(l:List B7),_⟩:=x;obtain⟨t,s⟩:l.length<=100000/\He K1 l:=r;simp only[Uh,iB,oG];refine⟨λp=>0<=p.2.1/\p.2.1<=(l.length:Int)/\p.1=(List.range p.2.1.toNat).map λi:Nat=>((i:Int),l.getD i zr),λp=>((l.length:Int)-p.2.1).toNat,⟨qH _,qF _,rfl⟩,?_⟩;rintro⟨(v:List D9),(i:Int),_⟩ _ ⟨b,n,a⟩;simp only at b n a|-;have o:v.length=i.toNat:=by rw[a];simp
 refine⟨λh=>?_,λh=>?_⟩
 . have h:=qA h;rw[B0g b h,wv ω];refine⟨⟨b,h⟩,⟨by simp only[qU];omega,by simp only[qU];omega⟩,⟨ω,ω,?_⟩,ω⟩;rw[B9k _ b,a,(ω:((i.toNat:Nat):Int)=i)]
 . have h:=qB h;have d:i.toNat=l.length:=ω
   rw[d]at a o;have c:=λj=>gY l j l.length (qV _)
   rw[<-a]at c;refine⟨.inl ⟨?_,λe g=>?_,ω⟩,?_⟩
   . rw[a];unfold asc;rw[xV];exact List.pairwise_lt_range.imp λh=>by show((_:Nat):Int)<((_:Nat):Int);omega
   . rw[a]at g;obtain⟨j,f,rfl⟩:=sS.1 g;rw[uR]at f;exact s _ (C1 f)
   . rintro⟨w,_⟩ _ k;simp only at k|-;exact C4k k (λi d=>by rw[c,qG d]) λj f=>by rw[c,qN ω,qJ]
def WH:sx Hd OD:=λx E z=>by
 obtain⟨v,n,_⟩:=x;have y:LX v:=EL E.1.2;change List D9 at v;change Int at n;obtain⟨d,D,r,H⟩:PC K1 v/\G6 v n/\0<=n/\n<=16384:=z;simp only[OD,iB,I9];have g:G9 (decide (n<0)) true (decide (16384<n))=false:=by
  rw[F2];simp only[rA,rG];omega
 refine⟨λ_=> .inl d,?_⟩;rintro⟨(f:List D9),_⟩ u;obtain⟨_,a,j⟩:=u g;simp only at a j|-;have A:∀i,qs K1 (B6 f i):=λi=>by rw[j];exact WU d.1 y d.2.1 δ i
 refine⟨λ_=>WT a A,?_⟩;rintro⟨l,_⟩ b;have b:=(b g).2;simp only at b|-;have w:G6 f n:=⟨a.1,λe he=>by
  have:B6 v e.1≠0:=by rw[<-j,T4 a.1 he];exact(a.2 e he).1
  have:=A8w D this;exact⟨this.1,this.2,(a.2 e he).1⟩⟩
 have t:l=true:=by rw[b];exact rE w
 have s:(G9 (G9 (decide (n<0)) true (decide (16384<n))) true !l)=false:=by rw[g,t];rfl
 refine⟨λh=>(by rw[s]at h;cases h),λ_=>⟨⟨r,qH _,ω,ω⟩,?_⟩⟩;have B:(List.replicate n.toNat dQ).length=n.toNat:=rN;refine⟨λp=>0<=p.1/\p.1<=n/\fill n.toNat p.1.toNat (λG:Nat=>rc (B6 v (G:Int))) p.2.1,λp=>(n-p.1).toNat,⟨qH _,r,A9z B⟩,?_⟩;rintro⟨(i:Int),(out:List B7),_⟩ _ ⟨k,F,c⟩;simp only at k F c|-;refine⟨λh=>⟨.inl d,?_⟩,λh=>?_⟩
 . have h:=qA h;have:=c.1;rintro⟨I,_⟩ _ o;simp only at o|-;rw[wv ω];exact⟨⟨k,ω⟩,⟨ω,ω,ZP c k ω (by rw[o,(ω:((i.toNat:Nat):Int)=i)])⟩,ω⟩
 . have h:=qB h;exact⟨LP c ω,by trivial⟩
def dW:sx Nz UK:=λx P N=>by
 obtain⟨a,b,_⟩:=x;have V:a.length<=9223372036854775807:=P.1.1;change List B7 at a b;obtain⟨G,J⟩:(∀e∈a,F4 e)/\∀e∈b,F4 e:=N;simp only[UK,iB,Lh];refine⟨λh=>?_,λh=>?_⟩
 . have h:=qA h;exact(rC λe=>h (by rw[e.1])).symm
 . have W:a.length=b.length:=by have:=qB h;omega
   refine⟨λp=>0<=p.1/\p.1<=(a.length:Int)/\a.take p.1.toNat=b.take p.1.toNat/\∀e∈a.take p.1.toNat,e=rc (rv e),λp=>((a.length:Int)-p.1).toNat,⟨qH _,qF _,by simp,by simp⟩,?_⟩;rintro⟨(i:Int),_⟩ _ ⟨g,F,o,r⟩;simp only at g F o r|-;refine⟨λh=>?_,λh=>?_⟩
   . have h:=qA h;have D:=I7 (d:=dQ) g h;have T:=I7 (d:=dQ) (l:=b) g ω;have z:=L9 (d:=dQ) g h;have w:=L9 (d:=dQ) (l:=b) g ω;have A:a.take (i+1).toNat=a.take i.toNat++ [gx dQ a i]:=by
      rw[(ω:(i+1).toNat=i.toNat+1),rU,z];rfl
     have O:b.take (i+1).toNat=b.take i.toNat++ [gx dQ b i]:=by
      rw[(ω:(i+1).toNat=i.toNat+1),rU,w];rfl
     generalize gx dQ a i=e at*;generalize gx dQ b i=v at*;refine⟨⟨g,h⟩,G _ D,?_⟩;rintro⟨t,_⟩ _ c;refine⟨λ_=>⟨g,ω⟩,λ_=>J _ T,?_⟩;rintro⟨u,_⟩ f;refine⟨λ_=>⟨g,h⟩,λ_=>⟨g,ω⟩,λ_=>trivial,?_⟩;rintro⟨E,_⟩ k;change Bool at t u E;simp only at c f k|-;rw[F2]at k;rw[F2,F2];have B:(!t|| !u|| !E)=false↔e=rc (rv e)/\e=v:=by
      by_cases j:e=rc (rv e)
      . have c:t=true:=by rw[c];exact rE j
        have f:=(f (by simp[c])).2;by_cases y:v=rc (rv v)
        . have f:u=true:=by rw[f];exact rE y
          have k:=(k (by simp[c,f])).2;rw[c,f,k];simp[<-j]
        . have f:u=false:=by rw[f];exact rC y
          rw[c,f];simp only[zP,g1n,g2n,g1i,wI];refine⟨λh=>(by cases h),λh=>absurd ?_ y⟩;rw[<-h.2];exact j
      . have c:t=false:=by rw[c];exact rC j
        rw[c];simp[j]
     refine⟨λs=>?_,λs=>?_⟩
     . refine(rC λI=>?_).symm;obtain⟨H,M⟩:=I;subst H;rw[z]at w;have:=B.2 ⟨M _ D,xU w⟩;rw[this]at s;cases s
     . obtain⟨Q,R⟩:=B.1 s;rw[wv ω];refine⟨⟨ω,ω,?_,?_⟩,ω⟩
       . rw[A,O,o,R]
       . rw[A];intro U n;rcases rB.1 n with n|n
         . exact r U n
         . rw[qK.1 n];exact Q
   . have h:=qB h;rw[E4 ω,E4 ω]at o;rw[E4 ω]at r;exact(rE ⟨o,r⟩).symm
def XD {D:List (List D9)} {R C:Int} (h:∀x∈D,List.length x<=9223372036854775807/\∀y∈x,WfE y):A7d (R,C,D):=λv a=>EL (h v a).2
def mO {D:List (List D9)} {i:Int} (a:0<=i) (b:i<(D.length:Int)):gx [] D i=D.getD i.toNat []:=E5 a b
def CB:sx U6 Qg:=λx a _=>by
 simp only[Qg];rw[I5,Bool.decide_and]
def JV:sx Aq Xn:=λx u _=>by
 obtain⟨⟨R,C,D⟩,_⟩:=x;have y:D.length<=9223372036854775807:=u.1.2.2.1;change Int at R C;change List (List D9)at D;simp only[Xn,iB,Lh];refine⟨trivial,?_⟩;rintro⟨r,_⟩ _ c;simp only at c|-;refine⟨λ_=>trivial,?_⟩;rintro⟨z,_⟩ k;simp only at k|-;rw[F2,F2];by_cases g:0<=R/\R<=16384
 . have c:r=true:=by rw[c];exact rE g
   have k:=(k (by rw[c];rfl)).2;rw[c,k];refine⟨λh=>?_,λh=>?_⟩
   . refine(rC λf=>?_).symm;obtain⟨_,_,o,s,t,_⟩:=f;simp only at o s t;rw[rE (show 0<=C/\C<=16384 from⟨o,s⟩)]at h;simp at h;exact h t
   . simp only[zP,wI,rA,zY,rS,rG,tK]at h;refine⟨λp=>0<=p.1/\∀v∈D.take p.1.toNat,G6 v C,λp=>((D.length:Int)-p.1).toNat,⟨qH _,by simp⟩,?_⟩;rintro⟨(n:Int),_⟩ _ ⟨i,j⟩;simp only at i j|-;refine⟨λb=>?_,λb=>?_⟩
     . have b:=qA b;refine⟨⟨i,b⟩,trivial,?_⟩;rintro⟨w,_⟩ _ l;simp only at l|-;refine⟨λa=>?_,λa=>?_⟩
       . refine(rC λf=>?_).symm;rw[l]at a;have:=f.2.2.2.2.2 _ (I7 (d:=([]:List D9)) i b);rw[rE this]at a;cases a
       . rw[l]at a;have a:decide (G6 (gx [] D n) C)=true:=by simpa using a
         rw[wv ω];exact⟨⟨ω,Gu (d:=([]:List D9)) (q:=λv=>G6 v C) i b j (qA a)⟩,ω⟩
     . have b:=qB b;rw[E4 ω]at j;exact(rE ⟨g.1,g.2,h.1.1,h.1.2,h.2,j⟩).symm
 . have c:r=false:=by rw[c];exact rC g
   rw[c];refine⟨λ_=>(rC λf=>g ⟨f.1,f.2.1⟩).symm,λh=>(by simp at h)⟩
def Wu:sx P8 Lk:=λx A y=>by
 obtain⟨D,C,_⟩:=x;change List (List B7)at D;change Int at C;have z:∀l∈D,He K1 l:=y;have F:D.length<=9223372036854775807:=A.1.1;simp only[Lk,iB,Lh,oG];refine⟨trivial,?_⟩;rintro⟨v,_⟩ _ b;simp only at b|-;refine⟨λ_=>trivial,?_⟩;rintro⟨G,_⟩ r;simp only at r|-;rw[F2];by_cases i:0<=C/\C<=16384
 . have b:v=true:=by rw[b];exact rE i
   have r:=(r (by rw[b];rfl)).2;rw[b,r];refine⟨λh=>?_,λh=>?_⟩
   . have w:16384<D.length:=by
      simp at h;omega
     exact⟨λ_=>⟨rfl,by trivial⟩,λh=>absurd h.2 ω⟩
   . have w:D.length<=16384:=by
      simp at h;omega
     refine⟨λp=>0<=p.1/\∀l∈D.take p.1.toNat,(l.length:Int)=C,λp=>((D.length:Int)-p.1).toNat,⟨qH _,by simp⟩,?_⟩;rintro⟨(k:Int),_⟩ _ ⟨n,g⟩;simp only at n g|-;refine⟨λa=>?_,λa=>?_⟩
     . have a:=qA a;have o:=I7 (d:=([]:List B7)) n a;refine⟨⟨n,a⟩,λc=>?_,λc=>?_⟩
       . have c:=qA c;exact⟨λh=>absurd h (by rintro(h|h);exact h i;omega),λ_=>⟨λ_=>⟨rfl,by trivial⟩,λh=>absurd (h _ o) c⟩⟩
       . have c:=qB c;rw[wv ω];exact⟨⟨ω,Gu (d:=([]:List B7)) (q:=λl=>(l.length:Int)=C) n a g (tK.1 c)⟩,ω⟩
     . have a:=qB a;rw[E4 ω]at g;rw[qJ];refine⟨⟨ω,qH _,ω,ω⟩,λp=>0<=p.1/\p.1<=(D.length:Int)/\B0a D.length p.1.toNat (λk=>mX C.toNat λB=>rv ((D.getD k []).getD B zr)) p.2.1,λp=>((D.length:Int)-p.1).toNat,⟨qH _,qF _,C8m rN⟩,?_⟩;rintro⟨(u:Int),rows,_⟩ _ ⟨f,E,j⟩;change List (List D9)at rows;simp only at f E j|-;have:=j.1;refine⟨λh=>?_,λh=>?_⟩
       . have h:=qA h;have o:=I7 (d:=([]:List B7)) f h;have t:=g _ o;refine⟨⟨f,h⟩,⟨ω,z _ o⟩,?_⟩;rintro⟨H,_⟩ _ s;simp only at s|-;rw[wv ω];refine⟨⟨f,ω⟩,⟨ω,ω,B2z j f ω ?_⟩,ω⟩;rw[(ω:(gx [] D u).length=C.toNat)]at s;rw[E5 f h]at s;exact s
       . have h:=qB h;refine⟨λh=>absurd h (by rintro(h|h);exact h i;omega),λ_=>⟨fun⟨l,t,hne⟩=>absurd (g l t) hne,λ_=>⟨⟨rfl,by show C= _;omega,j.1,λk a=>j.2 k ω⟩,by trivial⟩⟩⟩
 . have b:v=false:=by rw[b];exact rC i
   rw[b];exact⟨λ_=>⟨λ_=>⟨rfl,by trivial⟩,λh=>absurd h.1 i⟩,λh=>(by simp at h)⟩
def C7a {l:List B7} {i:Nat} (h:i<l.length):l.getD i dQ=l.getD i zr:=by
 rw[qD,qD,qL h];rfl
def C1s {j k:Nat} {v:List D9} (h:TY j v) (b:j<=k):TY k v:=λe a=>F3 (h e a) b
def MB {j k:Nat} {m:U8} (h:Jv j m) (a:j<=k):Jv k m:=λv b=>C1s (h v b) a
def Iz (k:Int):ri k=rc (k:Rat):=by
 unfold ri rc;rw[g3e,g3a,Vp]
def Ma (a b:Int):GW (.int .i64) a b=decide (a=b):=rfl
def jE {α:Type} (k i:Int) (v:α):∀l:List (Int×α),V5 (.int .i64) i (Hq (.int .i64) k v l)=if i=k then some v else V5 (.int .i64) i l
 | []=>by
  simp only[Hq,V5,Ma];by_cases h:i=k
  . simp[h]
  . rw[qG h];simp[h]
 | (b,d)::l=>by
  have c:=jE k i v l;simp only[Hq,Ma];by_cases h:k=b
  . subst h;simp only[g5n,qX,V5,Ma];by_cases a:i=k
    . simp[a]
    . simp[a]
  . simp only[h,g2u,rK,V5,Ma,c];by_cases a:i=b
    . subst a;have:¬i=k:=λe=>h e.symm
      simp[this]
    . simp[a]
def QO {α:Type} (k:Int) (v:α):∀l:List (Int×α),(Hq (.int .i64) k v l).map (λe=>e.1)=if k∈l.map (λe=>e.1)then l.map (λe=>e.1)else l.map (λe=>e.1)++ [k]
 | []=>by simp[Hq]
 | (a,c)::l=>by
  have b:=QO k v l;simp only[Hq,Ma];by_cases h:k=a
  . subst h;simp
  . simp only[h,g2u,rK,sE,b,qS,false_or];split<;>simp
def aO {α:Type} (k:Int) (v:α):∀ {l:List (Int×α)} {e:Int×α},e∈Hq (.int .i64) k v l->e=(k,v)\/e∈l
 | [],e,h=>by
  simp only[Hq,qK]at h;exact .inl h
 | (b,c)::l,e,h=>by
  simp only[Hq,Ma]at h;by_cases a:k=b
  . subst a;simp only[g5n,qX,qS]at h;rcases h with h|h
    . exact .inl h
    . exact .inr (qO _ h)
  . simp only[a,g2u,rK,qS]at h;rcases h with h|h
    . exact .inr (h▸rH ..)
    . exact(aO k v h).imp id (qO _)
def aK {α:Type} {k:Int} {v:α} :∀ {l:List (Int×α)},V5 (.int .i64) k l=some v->(k,v)∈l
 | (b,a)::l,h=>by
  simp only[V5,Ma]at h;by_cases a:k=b
  . simp[a]at h;rw[a,h];exact rH ..
  . simp[a]at h;exact qO _ (aK h)
def A2u {α:Type} {k:Int} :∀ {l:List (Int×α)},k∈l.map (λe=>e.1)->∃v,V5 (.int .i64) k l=some v
 | (b,c)::l,h=>by
  simp only[V5,Ma];by_cases a:k=b
  . exact⟨c,by simp[a]⟩
  . simp only[sE,qS,a,false_or]at h;obtain⟨v,b⟩:=A2u h;exact⟨v,by simp[a,b]⟩
def A3a:∀ {r l:Wf},r.Nodup->(∀i∈r,i∈l)->r.length<=l.length
 | [],_,_,_=>rP _
 |a::r,l,b,d=>by
  rw[sK]at b;have c:=d a (rH ..);have:=A3a (l:=l.erase a) b.2 λi hi=>(g0u λe=>b.1 (by rw[<-e];exact hi)).2 (d i (qO _ hi))
  have b:=zR c;have b:=g0i c;rw[rI];omega
def B4b {r:Wf} {n:Int} (h:r.Nodup) (a:∀i∈r,0<=i/\i<n):(r.length:Int)<=max n 0:=by
 have:=A3a (l:=(List.range n.toNat).map λi:Nat=>(i:Int)) h λi hi=>by
  have:=a i hi;exact sS.2 ⟨i.toNat,uR.2 ω,ω⟩
 rw[tJ,yV]at this;omega
structure kW (n:Int) (F:Int->Rat) (es:List D9):Prop where
 nd:(es.map λe=>e.1).Nodup
 rng:∀e∈es,0<=e.1/\e.1<n
 can:∀e∈es,e.2=rc (rv e.2)
 val:∀j,rv ((V5 (.int .i64) j es).getD dQ)=F j
def kW.at {n:Int} {F:Int->Rat} {es:List D9} (h:kW n F es) (j:Int):(V5 (.int .i64) j es).getD dQ=rc (F j)\/((V5 (.int .i64) j es).getD dQ=dQ/\F j=0/\j∉es.map λe=>e.1):=by
 have a:=h.val j;cases b:V5 (.int .i64) j es with
 |none=>
  rw[b]at a;refine .inr ⟨rfl,?_,λd=>?_⟩
  . rw[<-a];exact A3v
  . obtain⟨v,c⟩:=A2u d;rw[b]at c;cases c
 |some v=>
  rw[b]at a;have c:=h.can _ (aK b);have a:rv v=F j:=a;left;show v= _;rw[<-a];exact c
def kW.sh {n:Int} {F:Int->Rat} {es:List D9} (h:kW n F es) (j:Int) (b:qs 2199023255552 (F j)):F4 ((V5 (.int .i64) j es).getD dQ):=by
 rcases h.at j with a| ⟨a,_⟩
 . rw[a];exact b
 . rw[a];exact⟨rP _,rP _⟩
def kW.put {n:Int} {F G:Int->Rat} {es:List D9} (h:kW n F es) {k:Int} {q:Rat} (l:0<=k/\k<n) (d:G k=q) (f:∀j,j≠k->G j=F j):kW n G (Hq (.int .i64) k (rc q) es):=by
 refine⟨?_,λe a=>?_,λe a=>?_,λj=>?_⟩
 . have:=QO k (rc q) es;rw[this];split
   . exact h.nd
   . rename_i o;rw[tV];refine⟨h.nd,by simp,λr g s c i=>?_⟩;rw[qK]at c;subst c i;exact o g
 . rcases aO k (rc q) a with rfl|a
   . exact l
   . exact h.rng e a
 . rcases aO k (rc q) a with rfl|a
   . show rc q=rc (rv (rc q));rw[C9]
   . exact h.can e a
 . rw[jE];by_cases b:j=k
   . rw[qN b];show rv (rc q)= _;rw[C9,b,d]
   . rw[qG b,h.val,f j b]
def kW.len {n:Int} {F:Int->Rat} {es:List D9} (h:kW n F es):(es.length:Int)<=max n 0:=by
 have:=B4b h.nd (n:=n) λi hi=>by
  obtain⟨e,a,rfl⟩:=sS.1 hi;exact h.rng e a
 rwa[tJ]at this
abbrev T0:=List (Int×Bool)
def R9 (es:T0):Wf:=es.map λe=>e.1
def iU (k:Int) (v:Bool) (es:T0):(R9 es).Nodup->(R9 (Hq (.int .i64) k v es)).Nodup/\∀i,i∈R9 (Hq (.int .i64) k v es)↔i=k\/i∈R9 es:=by
 intro h;unfold R9 at*;rw[QO];by_cases a:k∈es.map λe=>e.1
 . rw[qN a];exact⟨h,λi=>⟨.inr,λf=>f.elim (λe=>e▸a) id⟩⟩
 . rw[qG a];refine⟨tV.2 ⟨h,by simp,λg c j b d=>?_⟩,λi=>?_⟩
   . rw[qK]at b;exact a (b▸d▸c)
   . rw[rB,qK];exact Or.comm
def iT (k:Int):∀(es:T0),(R9 es).Nodup->(R9 (Qx (.int .i64) k es)).Nodup/\∀i,i∈R9 (Qx (.int .i64) k es)↔i≠k/\i∈R9 es
 | [],h=>⟨h,λi=>⟨λa=>(by cases a),λa=>(by cases a.2)⟩⟩
 |x::r,h=>by
  have d:=sK.1 (show(x.1::R9 r).Nodup from h);have e:Qx (.int .i64) k (x::r)=if k=x.1 then r else x::Qx (.int .i64) k r:=by
   rw[Qx,Ma];by_cases b:k=x.1
   . rw[qN b,rE b];rfl
   . rw[qG b,rC b];rfl
  rw[e];by_cases b:k=x.1
  . rw[qN b];refine⟨d.2,λi=>⟨λa=>⟨λe=>d.1 (by rw[<-b, <-e];exact a),qO _ a⟩,λa=>?_⟩⟩;exact(qS.1 (show i∈x.1::R9 r from a.2)).resolve_left λe=>a.1 (by rw[e,b])
  . rw[qG b];obtain⟨g,c⟩:=iT k r d.2;refine⟨sK.2 ⟨λl=>d.1 ((c _).1 l).2,g⟩,λi=>?_⟩;constructor
    . intro a;rcases qS.1 (show i∈x.1::R9 (Qx (.int .i64) k r)from a)with rfl|a
      . exact⟨λe=>b e.symm,rH⟩
      . exact⟨((c i).1 a).1,qO _ ((c i).1 a).2⟩
    . rintro⟨j,f⟩;rcases qS.1 (show i∈x.1::R9 r from f)with rfl|f
      . exact rH
      . exact qO _ ((c i).2 ⟨j,f⟩)
def X0 (rows:List (List D9)) (i j:Nat):Rat:=B6 (rows.getD i []) (j:Int)
def C6x (n k:Nat) (p:Nat->Nat) (R:Nat->Nat->Rat) (j:Nat) (es:T0):Prop:=(R9 es).Nodup/\∀i:Int,i∈R9 es↔0<=i/\i<(n:Int)/\(∀a,a<k->i.toNat≠p a)/\R i.toNat j≠0
structure EI (n k:Nat) (S:Nat->Nat) (A:Nat->Nat->Rat) (rest P Q place:Wf) (rows lower:List (List D9)) (cols:List T0):Prop where
 elim:Yb n k A (ix P) (ix Q) (X0 rows) (X0 lower)
 lP:P.length=n
 lQ:Q.length=n
 lpl:place.length=n
 lrows:rows.length=n
 llow:lower.length=n
 lcols:cols.length=n
 P0:∀a,a<k->P.getD a 0=(ix P a:Int)
 Q0:∀a,a<k->Q.getD a 0=(ix Q a:Int)
 pl:∀a,a<k->place.getD (ix Q a) 0=(a:Int)
 rnd:rest.Nodup
 rmem:∀c:Int,c∈rest↔0<=c/\c<(n:Int)/\∀a,a<k->c.toNat≠ix Q a
 can:∀i,i<n->Br (rows.getD i [])/\(∀e∈rows.getD i [],0<=e.1/\e.1<(n:Int))/\∀j,qs (S k) (B6 (rows.getD i []) j)
 lcan:∀i,i<n->Br (lower.getD i [])/\(∀e∈lower.getD i [],0<=e.1/\e.1<(k:Int))
 lq:∀i,i<n->∀j,qs (S k) (B6 (lower.getD i []) j)
 fin:∀a,a<k->∀j,qs (S a) (B6 (rows.getD (ix P a) []) j)
 col:∀j:Int,j∈rest->C6x n k (ix P) (X0 rows) j.toNat (cols.getD j.toNat [])
def Ct {P:Wf} {k m:Nat} {v:Int} (h:m≠k):ix (P.set k v) m=ix P m:=by
 unfold ix;rw[qD,sV (Ne.symm h), <-qD]
def D1 {α:Type} {l:List α} {d v:α} {k m:Nat} (h:m≠k):(l.set k v).getD m d=l.getD m d:=by
 rw[qD,sV (Ne.symm h), <-qD]
def A8 {α:Type} {l:List α} {d v:α} {k:Nat} (h:k<l.length):(l.set k v).getD k d=v:=by
 rw[qD,sJ h];rfl
def Qw {P:Wf} {k:Nat} {v:Int} (h:k<P.length):ix (P.set k v) k=v.toNat:=by
 unfold ix;rw[A8 h]
variable {n k:Nat} {S:Nat->Nat} {A:Nat->Nat->Rat} {rest P Q place:Wf} {rows lower:List (List D9)} {cols:List T0}
def Ym (k:Nat) (p:Nat->Nat) (R:Nat->Nat->Rat) (r c i:Nat):Rat:=if i=r\/∃a,a<k/\i=p a then 0 else R i c/R r c
def B7v {p:Nat->Nat} {R:Nat->Nat->Rat} {r c:Nat} :Ym k p R r c r=0:=qN (.inl rfl)
def B7u {p:Nat->Nat} {R:Nat->Nat->Rat} {r c a:Nat} (h:a<k):Ym k p R r c (p a)=0:=qN (.inr ⟨a,h,rfl⟩)
def ZN {p:Nat->Nat} {R:Nat->Nat->Rat} {r c i:Nat} (b:i≠r) (d:∀a,a<k->i≠p a):Ym k p R r c i=R i c/R r c:=qG λf=>f.elim b fun⟨a,ha,e⟩=>d a ha e
def EI.step (h:EI n k S A rest P Q place rows lower cols) {r c:Int} (M:c∈rest) (Y:r∈R9 (cols.getD c.toNat [])) {z:Wf} {t v:List (List D9)} {E:List T0}
 (a4:z.Nodup) (a5:∀x,x∈z↔x∈rest/\x≠c) (a0:t.length=n) (a1:v.length=n) (a2:E.length=n)
 (w:∀i,i<n->Br (t.getD i [])/\(∀e∈t.getD i [],0<=e.1/\e.1<(n:Int))/\(∀j,qs (S (k+1)) (B6 (t.getD i []) j))/\∀j,B6 (t.getD i []) j=B6 (rows.getD i []) j-Ym k (ix P) (X0 rows) r.toNat c.toNat i*B6 (rows.getD r.toNat []) j)
 (G:∀i,i<n->v.getD i []=if Ym k (ix P) (X0 rows) r.toNat c.toNat i=0 then lower.getD i []else lower.getD i []++ [((k:Int),rc (Ym k (ix P) (X0 rows) r.toNat c.toNat i))])
 (Z:S k<=S (k+1)) (a9:∀i,i<n->qs (S (k+1)) (Ym k (ix P) (X0 rows) r.toNat c.toNat i))
 (a8:∀j:Int,j∈z->C6x n (k+1) (ix (P.set k r)) (X0 t) j.toNat (E.getD j.toNat [])):
 EI n (k+1) S A z (P.set k r) (Q.set k c) (place.set c.toNat k) t v E:=by
 obtain⟨aa,c1,D⟩:=(h.rmem c).1 M;obtain⟨ab,X⟩:=h.col c M;obtain⟨ac,ad,a6,a7⟩:=(X r).1 Y;have o:k<n:=by
  rcases sD k n with N|N
  . exact N
  . obtain⟨a,l,e⟩:=Mv (n:=n) (q:=ix Q) (λa l=>h.elim.qlt a ω) (λa b l hb=>h.elim.qinj a b ω ω) (ω:c.toNat<n);exact absurd e.symm (D a ω)
 have y:∀m,m<k->m≠k:=λm s=>uD s
 have R:∀i,i<n->∀m:Nat,X0 v i m=X0 lower i m+if m=k then Ym k (ix P) (X0 rows) r.toNat c.toNat i else 0:=λi d m=>by
  show B6 (v.getD i []) (m:Int)=B6 (lower.getD i []) (m:Int)+ _;rw[G i d];by_cases u:Ym k (ix P) (X0 rows) r.toNat c.toNat i=0
  . rw[qN u,u];split<;>rw[rL]
  . rw[qG u,Mf];congr 1;by_cases s:m=k
    . subst s;rw[qN rfl,qN rfl]
    . rw[qG s,qG ω]
 have a3:∀i,i<n->X0 lower i k=0:=λi d=>E7 λe f W=>by
  have:=(h.lcan i d).2 e f;omega
 refine⟨h.elim.step (r:=r.toNat) (c:=c.toNat) (fac:=Ym k (ix P) (X0 rows) r.toNat c.toNat) o ω ω a6 D a7 (λm s=>Ct (y m s)) (Qw (by rw[h.lP];exact o)) (λm s=>Ct (y m s)) (Qw (by rw[h.lQ];exact o)) (λi _ U V=>ZN U V) B7v (λa l=>B7u l) (λi j d _=>(w i d).2.2.2 j) (λi m d s=>?_) (λi d=>?_),?_,?_,?_,a0,a1,a2,λa l=>?_,λa l=>?_,λa l=>?_,a4,λx=>?_,λi d=>⟨(w i d).1,(w i d).2.1,(w i d).2.2.1⟩,λi d=>?_,λi d j=>?_,λa l j=>?_,a8⟩
 . rw[R i d,qG (y m s),rL]
 . rw[R i d,qN rfl,a3 i d,sR]
 . rw[qM];exact h.lP
 . rw[qM];exact h.lQ
 . rw[qM];exact h.lpl
 . by_cases g:a=k
   . subst g;rw[A8 (by rw[h.lP];exact o),Qw (by rw[h.lP];exact o)];omega
   . rw[D1 g,Ct g];exact h.P0 a ω
 . by_cases g:a=k
   . subst g;rw[A8 (by rw[h.lQ];exact o),Qw (by rw[h.lQ];exact o)];omega
   . rw[D1 g,Ct g];exact h.Q0 a ω
 . by_cases g:a=k
   . subst g;rw[Qw (by rw[h.lQ];exact o),A8 (by rw[h.lpl];omega)]
   . rw[Ct g,D1 (λe=>D a ω e.symm)];exact h.pl a ω
 . rw[a5,h.rmem];constructor
   . rintro⟨⟨H,I,B⟩,ae⟩;refine⟨H,I,λa l=>?_⟩;by_cases g:a=k
     . subst g;rw[Qw (by rw[h.lQ];exact o)];omega
     . rw[Ct g];exact B a ω
   . rintro⟨H,I,B⟩;refine⟨⟨H,I,λa l=>by have:=B a ω;rwa[Ct (y a l)]at this⟩,λe=>?_⟩;have:=B k (rM _);rw[Qw (by rw[h.lQ];exact o),e]at this;exact this rfl
 . rw[G i d];obtain⟨J,F⟩:=h.lcan i d;split
   . exact⟨J,λe f=>by have:=F e f;omega⟩
   . rename_i u;refine⟨Sd J u λe f=>(F e f).2,λe f=>?_⟩;rcases rB.1 f with f|f
     . have:=F e f;omega
     . rw[qK]at f;subst f;simp only;omega
 . rw[G i d];have T:=G8 (h.lq i d j) Z;split
   . exact T
   . rw[Mf];by_cases O:(k:Int)=j
     . rw[qN O,E7 λe f W=>by have:=(h.lcan i d).2 e f;omega,sR];exact a9 i d
     . rw[qG O,rL];exact T
 . have f:∀i,i<n->Ym k (ix P) (X0 rows) r.toNat c.toNat i=0->B6 (t.getD i []) j=B6 (rows.getD i []) j:=λi d h0=>by
    rw[(w i d).2.2.2 j,h0,rZ,tC,wM,rL]
   by_cases g:a=k
   . subst g;rw[Qw (by rw[h.lP];exact o),f _ ω B7v];exact(h.can r.toNat ω).2.2 j
   . rw[Ct g,f _ (h.elim.plt a ω) (B7u ω)];exact h.fin a ω j
def EI.stuck (h:EI n k S A rest P Q place rows lower cols) {c:Int} (a:c∈rest) (f:cols.getD c.toNat []= []):¬nonsing n A:=by
 obtain⟨l,c1,b⟩:=(h.rmem c).1 a;obtain⟨_,g⟩:=h.col c a;refine h.elim.stuck (c:=c.toNat) ω b λj o d=>qR λi=>?_
 have:=(g (j:Int)).2 ⟨qF _,ω,d,i⟩;rw[f]at this;cases this
end Go.Proofs.YtknoakmaeleclaaGreat
