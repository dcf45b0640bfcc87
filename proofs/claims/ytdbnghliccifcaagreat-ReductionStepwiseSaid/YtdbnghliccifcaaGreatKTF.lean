/- Part. -/
import Derived.Test.YtdbnghliccifcaaGreatRows
import Derived.Test.YtdbnghliccifcaaGreatKTE
set_option linter.all false
namespace Go.Proofs.YtdbnghliccifcaaGreat
open Go.Proofs.Tryz
open Go.Vc Go.Gw
open Go.IntKind (i64 u64 u32)
abbrev N8 (a:Int):Prop:=i64.min<=a/\a<=i64.max
abbrev IW (a:Int):Prop:=u64.min<=a/\a<=u64.max
abbrev Hi (l:Wf):Prop:=List.length l<=(9223372036854775807:Nat)/\∀(x:Int),x∈l->u32.min<=x/\x<=u32.max
abbrev aD (l:Wf):Prop:=List.length l<=(9223372036854775807:Nat)/\∀(x:Int),x∈l->i64.min<=x/\x<=i64.max
abbrev jO (z:Bool×Wf):Prop:=True/\Hi z.2
abbrev UE (q:(Bool×Wf)×Wf):Prop:=jO q.1/\Hi q.2
abbrev WfE (e:Int×(Bool×Wf)×Wf):Prop:=N8 e.1/\jO e.2.1/\Hi e.2.2
abbrev IY (l:List (Int×(Bool×Wf)×Wf)):Prop:=List.length l<=(9223372036854775807:Nat)/\∀(x:Int×(Bool×Wf)×Wf),x∈l->WfE x
abbrev QQ:=(Bool×Wf)×Wf
abbrev EE:=Int×(Bool×Wf)×Wf
abbrev dQ:QQ:=((false,[]),[])
abbrev D7:EE:=((0:Int),(false,[]),[])
abbrev MM:=Int×Int×List (List EE)
abbrev WfL (l:List QQ):Prop:=List.length l<=9223372036854775807/\∀(x:QQ),x∈l->UE x
abbrev C2o (l:List (List QQ)):Prop:=List.length l<=9223372036854775807/\∀(x:List QQ),x∈l->x.length<=9223372036854775807/\∀(y:QQ),y∈x->UE y
abbrev Kj (l:List (List EE)):Prop:=List.length l<=9223372036854775807/\∀(x:List EE),x∈l->x.length<=9223372036854775807/\∀(y:EE),y∈x->WfE y
abbrev jN (m:MM):Prop:=N8 m.1/\N8 m.2.1/\Kj m.2.2
abbrev tQ:Ty:=(.pair (.pair .bool (.sl (.int .u32))) (.sl (.int .u32)))
abbrev tE:Ty:=(.pair (.int .i64) tQ)
abbrev tM:Ty:=(.pair (.int .i64) (.pair (.int .i64) (.sl (.sl tE))))
def tys:List (Nat×TI):= [(2,{ty:=(.int .i64),agg:=false}),
 (3,{ty:=(.int .i64),agg:=false}),
 (4,{ty:= .bool,agg:=false}),
 (5,{ty:=(.int .u8),agg:=false}),
 (9,{ty:= .str,agg:=false}),
 (22,{ty:=(.sl (.sl tE)),agg:=false,elem:=49,bytes:=24}),
 (24,{ty:=tM,agg:=true,fields:= [(0,1,false),(1,1,false),(2,1,false)]}),
 (25,{ty:=(.sl (.int .i64)),agg:=false,elem:=3,bytes:=8}),
 (38,{ty:=(.pair (.sl (.int .i64)) (.pair tM tM)),agg:=true,fields:= [(0,1,false),(1,3,true),(4,3,true)]}),
 (44,{ty:=(.sl (.pair (.int .i64) (.pair (.int .i64) (.pair tQ tQ)))),agg:=false,elem:=72,bytes:=128}),
 (46,{ty:=(.pair (.int .i64) (.sl (.pair (.int .i64) (.pair (.int .i64) (.pair tQ tQ))))),agg:=true,fields:= [(0,1,false),(1,1,false)]}),
 (49,{ty:=(.sl tE),agg:=false,elem:=105,bytes:=64}),
 (52,{ty:=(.sl (.sl tQ)),agg:=false,elem:=63,bytes:=24}),
 (54,{ty:=(.sl (.int .u32)),agg:=false,elem:=108,bytes:=4}),
 (56,{ty:=(.pair .bool (.sl (.int .u32))),agg:=true,fields:= [(0,1,false),(1,1,false)]}),
 (58,{ty:=tQ,agg:=true,fields:= [(0,2,true),(2,1,false)]}),
 (63,{ty:=(.sl tQ),agg:=false,elem:=58,bytes:=56}),
 (72,{ty:=(.pair (.int .i64) (.pair (.int .i64) (.pair tQ tQ))),agg:=true,fields:= [(0,1,false),(1,1,false),(2,3,true),(5,3,true)]}),
 (83,{ty:=(.pair (.sl (.int .i64)) (.int .i64)),agg:=true,fields:= [(0,1,false),(1,1,false)]}),
 (89,{ty:=(.int .u64),agg:=false}),
 (91,{ty:=(.sl .bool),agg:=false,elem:=4,bytes:=1}),
 (94,{ty:=(.pair tM (.pair tM (.pair tM tM))),agg:=true,elem:=24,arr:=4}),
 (95,{ty:=(.pair (.sl (.int .i64)) (.sl (.int .i64))),agg:=true,elem:=25,arr:=2}),
 (96,{ty:=(.pair (.pair (.sl (.int .i64)) (.sl (.int .i64))) (.pair (.pair (.sl (.int .i64)) (.sl (.int .i64))) (.pair (.pair (.sl (.int .i64)) (.sl (.int .i64))) (.pair (.sl (.int .i64)) (.sl (.int .i64)))))),agg:=true,elem:=95,arr:=4}),
 (101,{ty:=(.sl (.pair (.int .i64) (.int .i64))),agg:=false,elem:=144,bytes:=16}),
 (105,{ty:=tE,agg:=true,fields:= [(0,1,false),(1,3,true)]}),
 (108,{ty:=(.int .u32),agg:=false}),
 (132,{ty:=(.mp false (.int .i64) false (.sl (.int .i64))),agg:=false,elem:=25,key:=3}),
 (136,{ty:=(.pair (.sl (.int .i64)) (.pair (.sl (.int .i64)) (.pair tM tM))),agg:=true,fields:= [(0,1,false),(1,1,false),(2,3,true),(5,3,true)]}),
 (144,{ty:=(.pair (.int .i64) (.int .i64)),agg:=true,elem:=3,arr:=2}),
 (168,{ty:=(.int .u64),agg:=false}),
 (169,{ty:=(.ptr (.pair (.sl (.sl tE)) (.pair (.sl (.sl tE)) (.pair (.sl (.mp false (.int .i64) false .bool)) (.sl (.int .i64)))))),agg:=false}),
 (174,{ty:=(.sl (.mp false (.int .i64) false .bool)),agg:=false,elem:=204,bytes:=8}),
 (176,{ty:=(.pair (.sl (.sl tE)) (.pair (.sl (.sl tE)) (.pair (.sl (.mp false (.int .i64) false .bool)) (.sl (.int .i64))))),agg:=true,fields:= [(0,1,false),(1,1,false),(2,1,false),(3,1,false)]}),
 (183,{ty:=(.mp false (.int .i64) true tQ),agg:=false,elem:=58,key:=3}),
 (204,{ty:=(.mp false (.int .i64) false .bool),agg:=false,elem:=4,key:=3}),
 (214,{ty:=(.pair (.int .u64) (.pair (.int .u64) (.pair (.int .u64) (.pair (.int .u64) .bool)))),agg:=true,fields:= [(0,1,false),(1,1,false),(2,1,false),(3,1,false),(4,1,false)]})]
def A6:G8 prog tys=true:=by kernel_rfl
def YU:List (Nat×TI):= [(2,{ty:=(.int .i64),agg:=false}),
 (3,{ty:=(.int .i64),agg:=false}),
 (4,{ty:= .bool,agg:=false}),
 (5,{ty:=(.int .u8),agg:=false}),
 (9,{ty:= .str,agg:=false}),
 (22,{ty:=(.sl (.sl tE)),agg:=false,elem:=49,bytes:=24,rows:=true}),
 (24,{ty:=tM,agg:=true,fields:= [(0,1,false),(1,1,false),(2,1,false)]}),
 (25,{ty:=(.sl (.int .i64)),agg:=false,elem:=3,bytes:=8}),
 (38,{ty:=(.pair (.sl (.int .i64)) (.pair tM tM)),agg:=true,fields:= [(0,1,false),(1,3,true),(4,3,true)]}),
 (44,{ty:=(.sl (.pair (.int .i64) (.pair (.int .i64) (.pair tQ tQ)))),agg:=false,elem:=72,bytes:=128}),
 (46,{ty:=(.pair (.int .i64) (.sl (.pair (.int .i64) (.pair (.int .i64) (.pair tQ tQ))))),agg:=true,fields:= [(0,1,false),(1,1,false)]}),
 (49,{ty:=(.sl tE),agg:=false,elem:=105,bytes:=64}),
 (52,{ty:=(.sl (.sl tQ)),agg:=false,elem:=63,bytes:=24,rows:=true}),
 (54,{ty:=(.sl (.int .u32)),agg:=false,elem:=108,bytes:=4}),
 (56,{ty:=(.pair .bool (.sl (.int .u32))),agg:=true,fields:= [(0,1,false),(1,1,false)]}),
 (58,{ty:=tQ,agg:=true,fields:= [(0,2,true),(2,1,false)]}),
 (63,{ty:=(.sl tQ),agg:=false,elem:=58,bytes:=56}),
 (72,{ty:=(.pair (.int .i64) (.pair (.int .i64) (.pair tQ tQ))),agg:=true,fields:= [(0,1,false),(1,1,false),(2,3,true),(5,3,true)]}),
 (83,{ty:=(.pair (.sl (.int .i64)) (.int .i64)),agg:=true,fields:= [(0,1,false),(1,1,false)]}),
 (89,{ty:=(.int .u64),agg:=false}),
 (91,{ty:=(.sl .bool),agg:=false,elem:=4,bytes:=1}),
 (94,{ty:=(.pair tM (.pair tM (.pair tM tM))),agg:=true,elem:=24,arr:=4}),
 (95,{ty:=(.pair (.sl (.int .i64)) (.sl (.int .i64))),agg:=true,elem:=25,arr:=2}),
 (96,{ty:=(.pair (.pair (.sl (.int .i64)) (.sl (.int .i64))) (.pair (.pair (.sl (.int .i64)) (.sl (.int .i64))) (.pair (.pair (.sl (.int .i64)) (.sl (.int .i64))) (.pair (.sl (.int .i64)) (.sl (.int .i64)))))),agg:=true,elem:=95,arr:=4}),
 (101,{ty:=(.sl (.pair (.int .i64) (.int .i64))),agg:=false,elem:=144,bytes:=16}),
 (105,{ty:=tE,agg:=true,fields:= [(0,1,false),(1,3,true)]}),
 (108,{ty:=(.int .u32),agg:=false}),
 (132,{ty:=(.mp false (.int .i64) false (.sl (.int .i64))),agg:=false,elem:=25,key:=3,rows:=true}),
 (136,{ty:=(.pair (.sl (.int .i64)) (.pair (.sl (.int .i64)) (.pair tM tM))),agg:=true,fields:= [(0,1,false),(1,1,false),(2,3,true),(5,3,true)]}),
 (144,{ty:=(.pair (.int .i64) (.int .i64)),agg:=true,elem:=3,arr:=2}),
 (168,{ty:=(.int .u64),agg:=false}),
 (169,{ty:=(.ptr (.pair (.sl (.sl tE)) (.pair (.sl (.sl tE)) (.pair (.sl (.mp false (.int .i64) false .bool)) (.sl (.int .i64)))))),agg:=false}),
 (174,{ty:=(.sl (.mp false (.int .i64) false .bool)),agg:=false,elem:=204,bytes:=8}),
 (176,{ty:=(.pair (.sl (.sl tE)) (.pair (.sl (.sl tE)) (.pair (.sl (.mp false (.int .i64) false .bool)) (.sl (.int .i64))))),agg:=true,fields:= [(0,1,false),(1,1,false),(2,1,false),(3,1,false)]}),
 (183,{ty:=(.mp false (.int .i64) true tQ),agg:=false,elem:=58,key:=3}),
 (204,{ty:=(.mp false (.int .i64) false .bool),agg:=false,elem:=4,key:=3}),
 (214,{ty:=(.pair (.int .u64) (.pair (.int .u64) (.pair (.int .u64) (.pair (.int .u64) .bool)))),agg:=true,fields:= [(0,1,false),(1,1,false),(2,1,false),(3,1,false),(4,1,false)]})]
def Kr:G8 prog YU=true:=by kernel_rfl
def SS:List (Nat×TI):= [(2,{ty:=(.int .i64),agg:=false}),
 (3,{ty:=(.int .i64),agg:=false}),
 (4,{ty:= .bool,agg:=false}),
 (5,{ty:=(.int .u8),agg:=false}),
 (9,{ty:= .str,agg:=false}),
 (22,{ty:=(.sl (.sl tE)),agg:=false,elem:=49,bytes:=24,nest:= [14]}),
 (24,{ty:=tM,agg:=true,fields:= [(0,1,false),(1,1,false),(2,1,false)]}),
 (25,{ty:=(.sl (.int .i64)),agg:=false,elem:=3,bytes:=8}),
 (38,{ty:=(.pair (.sl (.int .i64)) (.pair tM tM)),agg:=true,fields:= [(0,1,false),(1,3,true),(4,3,true)]}),
 (44,{ty:=(.sl (.pair (.int .i64) (.pair (.int .i64) (.pair tQ tQ)))),agg:=false,elem:=72,bytes:=128}),
 (46,{ty:=(.pair (.int .i64) (.sl (.pair (.int .i64) (.pair (.int .i64) (.pair tQ tQ))))),agg:=true,fields:= [(0,1,false),(1,1,false)]}),
 (49,{ty:=(.sl tE),agg:=false,elem:=105,bytes:=64}),
 (52,{ty:=(.sl (.sl tQ)),agg:=false,elem:=63,bytes:=24}),
 (54,{ty:=(.sl (.int .u32)),agg:=false,elem:=108,bytes:=4}),
 (56,{ty:=(.pair .bool (.sl (.int .u32))),agg:=true,fields:= [(0,1,false),(1,1,false)]}),
 (58,{ty:=tQ,agg:=true,fields:= [(0,2,true),(2,1,false)]}),
 (63,{ty:=(.sl tQ),agg:=false,elem:=58,bytes:=56}),
 (72,{ty:=(.pair (.int .i64) (.pair (.int .i64) (.pair tQ tQ))),agg:=true,fields:= [(0,1,false),(1,1,false),(2,3,true),(5,3,true)]}),
 (83,{ty:=(.pair (.sl (.int .i64)) (.int .i64)),agg:=true,fields:= [(0,1,false),(1,1,false)]}),
 (89,{ty:=(.int .u64),agg:=false}),
 (91,{ty:=(.sl .bool),agg:=false,elem:=4,bytes:=1}),
 (94,{ty:=(.pair tM (.pair tM (.pair tM tM))),agg:=true,elem:=24,arr:=4}),
 (95,{ty:=(.pair (.sl (.int .i64)) (.sl (.int .i64))),agg:=true,elem:=25,arr:=2}),
 (96,{ty:=(.pair (.pair (.sl (.int .i64)) (.sl (.int .i64))) (.pair (.pair (.sl (.int .i64)) (.sl (.int .i64))) (.pair (.pair (.sl (.int .i64)) (.sl (.int .i64))) (.pair (.sl (.int .i64)) (.sl (.int .i64)))))),agg:=true,elem:=95,arr:=4}),
 (101,{ty:=(.sl (.pair (.int .i64) (.int .i64))),agg:=false,elem:=144,bytes:=16}),
 (105,{ty:=tE,agg:=true,fields:= [(0,1,false),(1,3,true)]}),
 (108,{ty:=(.int .u32),agg:=false}),
 (132,{ty:=(.mp false (.int .i64) false (.sl (.int .i64))),agg:=false,elem:=25,key:=3}),
 (136,{ty:=(.pair (.sl (.int .i64)) (.pair (.sl (.int .i64)) (.pair tM tM))),agg:=true,fields:= [(0,1,false),(1,1,false),(2,3,true),(5,3,true)]}),
 (144,{ty:=(.pair (.int .i64) (.int .i64)),agg:=true,elem:=3,arr:=2}),
 (168,{ty:=(.int .u64),agg:=false}),
 (169,{ty:=(.ptr (.pair (.sl (.sl tE)) (.pair (.sl (.sl tE)) (.pair (.sl (.mp false (.int .i64) false .bool)) (.sl (.int .i64)))))),agg:=false}),
 (174,{ty:=(.sl (.mp false (.int .i64) false .bool)),agg:=false,elem:=204,bytes:=8,nest:= [17]}),
 (176,{ty:=(.pair (.sl (.sl tE)) (.pair (.sl (.sl tE)) (.pair (.sl (.mp false (.int .i64) false .bool)) (.sl (.int .i64))))),agg:=true,fields:= [(0,1,false),(1,1,false),(2,1,false),(3,1,false)]}),
 (183,{ty:=(.mp false (.int .i64) true tQ),agg:=false,elem:=58,key:=3}),
 (204,{ty:=(.mp false (.int .i64) false .bool),agg:=false,elem:=4,key:=3,nest:= [44,66]}),
 (214,{ty:=(.pair (.int .u64) (.pair (.int .u64) (.pair (.int .u64) (.pair (.int .u64) .bool)))),agg:=true,fields:= [(0,1,false),(1,1,false),(2,1,false),(3,1,false),(4,1,false)]})]
def DU:G8 prog SS=true:=by kernel_rfl
abbrev X9 (a:List AM) (r:List RT) (p:A3 a->Prop) (q:A3 a->Bn r->Prop):A9:= {args:=a,res:=r,shared:=true,pre:=p,post:=q}
abbrev mkM (a:List AM) (r:List RT) (p:A3 a->Prop) (q:A3 a->Bn r->Prop) (m:A3 a->Bn r->Nk a->Prop):A9:= {args:=a,res:=r,shared:=true,pre:=p,post:=q,mpost:=m}
abbrev F5:=QQ×Unit
abbrev sr (s:A9) (v:A3 s.args->Prop):Prop:=∀x,awf s.args x->s.pre x->v x
abbrev qb:Ty:=.int .i64
abbrev qd:Ty:=.sl tE
abbrev qe:Ty:=.mp false qb false .bool
abbrev qf:Ty:=.int .u32
abbrev qa:Ty:=.sl qf
abbrev qc:Ty:=.pair .bool qa
abbrev qg:Ty:=.sl qb
abbrev qh:Ty:=.int .u64
abbrev qj:Ty:=.sl qd
abbrev qk:Ty:=.pair qg qb
abbrev ql:Ty:=.sl tQ
abbrev qm:Ty:=.pair qg (.pair tM tM)
abbrev qi:Ty:=.pair qg qm
abbrev qn:List RT:=[.val false .bool]
abbrev qo:List RT:=[.val true tQ]
abbrev qp:List RT:=[.val false qb]
abbrev qq:List RT:=[.val true qc]
abbrev qr:List AM:=[.val false qa, .val false qa]
abbrev qt:List RT:=[.val false qa]
abbrev qu:List AM:=[.val true tQ]
abbrev qv:List AM:=[.val true qc, .val true qc]
abbrev qw:List AM:=[.val true tQ, .val true tQ]
abbrev qx:List AM:=[.val false qa]
abbrev qy:List AM:=[.val false qb]
abbrev qz:List AM:=[.val true qc]
abbrev re:List AM:=[.val false qd, .val false qb]
abbrev rf:List RT:=[.val false qd]
abbrev rh:List AM:=[.val false qb, .val false qb]
abbrev rj:List RT:=[.val true tM, .val false qb]
abbrev rk:List AM:=[.val false qd]
abbrev ro:List RT:=[.val false qa, .val false .bool]
abbrev rp:List AM:=[.val false qa, .val false qb]
abbrev rq:List AM:=[.val false qg, .val false qb]
abbrev rr:List RT:=[.val false qg]
abbrev rt:List RT:=[.val false qh]
abbrev rx:List AM:=[.val true tM, .val true tM]
abbrev ry:List AM:=[.val true tM]
abbrev sc:List RT:=[.val true tM]
abbrev sd:List AM:=[.box 83 qk, .val false qb]
abbrev se:List AM:=[.val false .bool, .val false qa]
abbrev sf:List RT:=[.val false qa, .val false qa, .val false .bool]
abbrev si:List RT:=[.val false qa, .val false qa]
abbrev sj:List AM:=[.val false qg, .fn [(false,qb)] false .bool]
abbrev sk:List RT:=[.val false qh, .val false .bool]
abbrev sm:List AM:=[.val true qi, .val false ql]
abbrev sn:List RT:=[.val true tQ, .val false .bool]
abbrev so:List AM:=[.val true tQ, .val true tQ, .val false (.ptr tQ)]
abbrev sq (a:List AM) (r:List RT) (p:A3 a->Prop) (q:A3 a->Bn r->Prop):A9:={args:=a,res:=r,pre:=p,post:=q}
def Ml:A9:=X9 [] qo (fun(x:Unit)=>True) (fun(x:Unit) (r:F5)=>r.1=rc 0)
abbrev D8:=Int×Unit
def Mk:A9:=sq qu qp (fun(x:F5)=>N6 x.1) (fun(x:F5) (r:D8)=>r.1=(rv x.1).num.sign)
abbrev Ax:=Bool×Unit
abbrev Ei:=QQ×QQ×Unit
def Jf:A9:=sq qw qn (fun(x:Ei)=>True) (fun(x:Ei) (r:Ax)=>r.1=decide (x.1=x.2.1))
def Si:A9:=X9 qu qo (fun(x:F5)=>N6 x.1) (fun(x:F5) (r:F5)=>r.1=rc (-(rv x.1)))
def Kv:A9:=X9 qw qo (fun(x:Ei)=>N6 x.1/\N6 x.2.1) (fun(x:Ei) (r:F5)=>r.1=rc (rv x.1+rv x.2.1))
def Mj:A9:=X9 qu qo (fun(x:F5)=>N6 x.1) (fun(x:F5) (r:F5)=>r.1=rc (rv x.1))
def Cg:A9:=X9 qy qo (fun(x:D8)=>True) (fun(x:D8) (r:F5)=>r.1=ri x.1)
abbrev Cr:=Int×Int×Unit
def AD:A9:=X9 rh qo (fun(x:Cr)=>True) (fun(x:Cr) (r:F5)=>r.1=rc (Rat.divInt x.1 x.2.1))
def M9:A9:=Cg
def Al:A9:=Si
abbrev IU:=(Bool×Wf)×Unit
def Mh:A9:=sq qz qp (fun(x:IU)=>Hh x.1.2) (fun(x:IU) (r:D8)=>r.1=(iv x.1).sign)
abbrev eZ:=(Bool×Wf)×(Bool×Wf)×Unit
def Je:A9:=sq qv qn (fun(x:eZ)=>True) (fun(x:eZ) (r:Ax)=>r.1=decide (x.1=x.2.1))
abbrev Dm:=Wf×Wf×Unit
def Jd:A9:=sq qr qn (fun(x:Dm)=>True) (fun(x:Dm) (r:Ax)=>r.1=decide (x.1=x.2.1))
def Mi:A9:=X9 qv qo (fun(x:eZ)=>Ga x.1.2/\Ga x.2.1.2) (fun(x:eZ) (r:F5)=>r.1=rc (Qu x.1 x.2.1))
def Sf:A9:=X9 qz qq (fun(x:IU)=>Hh x.1.2) (fun(x:IU) (r:IU)=>r.1=ic (-iv x.1))
def Sj:A9:=X9 qu qq (fun(x:F5)=>N6 x.1) (fun(x:F5) (r:IU)=>r.1=ic ((rv x.1).den:Int))
def Sc:A9:=X9 qv qq (fun(x:eZ)=>N9 x.1.2/\N9 x.2.1.2) (fun(x:eZ) (r:IU)=>r.1=ic (iv x.1+iv x.2.1))
def Se:A9:=X9 qv qq (fun(x:eZ)=>N9 x.1.2/\N9 x.2.1.2) (fun(x:eZ) (r:IU)=>r.1=ic (iv x.1*iv x.2.1))
def P4:A9:=Mj
def Bt:A9:=sq qu qn (fun(x:F5)=>N6 x.1) (fun(x:F5) (r:Ax)=>r.1=decide (x.1=rc (rv x.1)))
def Ez:A9:=X9 qy qq (fun(x:D8)=>True) (fun(x:D8) (r:IU)=>r.1=ic x.1)
def W8:A9:=sq rh qp (fun(x:Cr)=>True) (fun(x:Cr) (r:D8)=>r.1=M7 x.1 x.2.1)
def X1:A9:=Ez
def Er:A9:=Sf
def Mg:A9:=X9 qz qq (fun(x:IU)=>Hh x.1.2) (fun(x:IU) (r:IU)=>r.1=ic (iv x.1))
def Sd:A9:=X9 qv qq (fun(x:eZ)=>Ga x.1.2/\Ga x.2.1.2) (fun(x:eZ) (r:IU)=>r.1=ic (Nat.gcd (nv x.1.2) (nv x.2.1.2):Int))
def Hb:A9:=X9 qv [.val true qc, .val true qc, .val false .bool] (fun(x:eZ)=>Ga x.1.2/\Ga x.2.1.2) (fun(x:eZ) (r:(Bool×Wf)×(Bool×Wf)×Bool×Unit)=>iv x.2.1≠0->r.1=ic (iv x.1/iv x.2.1)/\r.2.1=ic (iv x.1%iv x.2.1)/\r.2.2.1=true)
abbrev B7x:=Bool×Wf×Unit
def Mf:A9:=X9 se qq (fun(x:B7x)=>Hh x.2.1) (fun(x:B7x) (r:IU)=>r.1=ic (iv (x.1,x.2.1)))
abbrev Dn:=Wf×Unit
def Rw:A9:=X9 qr qt (fun(x:Dm)=>N9 x.1/\N9 x.2.1) (fun(x:Dm) (r:Dn)=>r.1=nc (nv x.1+nv x.2.1))
abbrev C1x:=Wf×Bool×Unit
def Rz:A9:=X9 qr ro (fun(x:Dm)=>N9 x.1/\N9 x.2.1) (fun(x:Dm) (r:C1x)=>(nv x.1<nv x.2.1->r.1= []/\r.2.1=false)/\(nv x.2.1<=nv x.1->r.1=nc (nv x.1-nv x.2.1)/\r.2.1=true))
def Ry:A9:=X9 qr qt (fun(x:Dm)=>N9 x.1/\N9 x.2.1) (fun(x:Dm) (r:Dn)=>r.1=nc (nv x.1*nv x.2.1))
def Aj:A9:=Kv
def V5:A9:=X9 qw qo (fun(x:Ei)=>N6 x.1/\N6 x.2.1) (fun(x:Ei) (r:F5)=>r.1=rc (rv x.1*rv x.2.1))
abbrev oR:=Int×Int×Bool×Unit
def Ao:A9:=sq qu [.val false qb, .val false qb, .val false .bool] (fun(x:F5)=>True) (fun(x:F5) (r:oR)=>(K6 x.1->r.1=Rb x.1/\r.2.1=Nj x.1/\r.2.2.1=true)/\(¬K6 x.1->r.2.2.1=false))
def T5:A9:=X9 rh qo (fun(x:Cr)=>0<x.2.1) (fun(x:Cr) (r:F5)=>r.1=rc (mkRat x.1 x.2.1.toNat))
abbrev ty6:=(Bool×Wf)×Wf×Unit
def X5:A9:=X9 [.val true qc, .val false qa] qo (fun(x:ty6)=>nv x.2.1≠0/\Ga x.1.2/\Ga x.2.1) (fun(x:ty6) (r:F5)=>r.1=rc (mkRat (iv x.1) (nv x.2.1)))
def Am:A9:=X9 qu [.val true qc, .val false qa] (fun(x:F5)=>True) (fun(x:F5) (r:ty6)=>(nv x.1.2=0->r.1=zi/\r.2.1= [1])/\(nv x.1.2≠0->r.1=x.1.1/\r.2.1=x.1.2))
def Ai:A9:=X9 [.val false qh] qt (fun(x:D8)=>True) (fun(x:D8) (r:Dn)=>r.1=nc x.1.toNat)
def W2:A9:=sq qu qp (fun(x:F5)=>True) (fun(x:F5) (r:D8)=>r.1=(rv x.1).num.sign)
def Bp:A9:=sq qy qn (fun(x:D8)=>True) (fun(x:D8) (r:Ax)=>r.1=false)
abbrev B8c:=QQ×Bool×Unit
def Dh:A9:=X9 qw sn (fun(x:Ei)=>N6 x.1/\N6 x.2.1) (fun(x:Ei) (r:B8c)=>(rv x.2.1=0->r.2.1=false)/\(rv x.2.1≠0->r.1=rc (rv x.1/rv x.2.1)/\r.2.1=true))
def Ad:A9:=X9 se qq (fun(x:B7x)=>True) (fun(x:B7x) (r:IU)=>r.1=(x.1&&decide (x.2.1≠ []),x.2.1))
def R4:A9:=Ai
def Df:A9:=X9 qx qt (fun(x:Dn)=>Hh x.1) (fun(x:Dn) (r:Dn)=>r.1=nc (nv x.1))
def Rx:A9:=X9 qr qt (fun(x:Dm)=>Ga x.1/\Ga x.2.1) (fun(x:Dm) (r:Dn)=>r.1=nc (Nat.gcd (nv x.1) (nv x.2.1)))
abbrev C4h:=Wf×Wf×Bool×Unit
def Gz:A9:=X9 qr sf (fun(x:Dm)=>Ga x.1/\Ga x.2.1) (fun(x:Dm) (r:C4h)=>(nv x.2.1=0->r.2.2.1=false)/\(nv x.2.1≠0->r.1=nc (nv x.1/nv x.2.1)/\r.2.1=nc (nv x.1%nv x.2.1)/\r.2.2.1=true))
def Sb:A9:=X9 qz qq (fun(x:IU)=>Hh x.1.2) (fun(x:IU) (r:IU)=>r.1=ic ((iv x.1).natAbs:Int))
def Sg:A9:=X9 qv qq (fun(x:eZ)=>N9 x.1.2/\N9 x.2.1.2) (fun(x:eZ) (r:IU)=>r.1=ic (iv x.1-iv x.2.1))
def Me:A9:=Df
def Ey:A9:=sq qr qp (fun(x:Dm)=>N9 x.1/\N9 x.2.1) (fun(x:Dm) (r:D8)=>r.1=Da (nv x.1) (nv x.2.1))
def X2:A9:=sq qr qp (fun(x:Dm)=>True) (fun(x:Dm) (r:D8)=>r.1=Da (nv x.1) (nv x.2.1))
def Eo:A9:=Sc
def Ep:A9:=Se
def Ew:A9:=Ry
abbrev A7s:=Int×Bool×Unit
def Ag:A9:=sq qx sk (fun(x:Dn)=>True) (fun(x:Dn) (r:A7s)=>(nv x.1<18446744073709551616->r.1=(nv x.1:Int)/\r.2.1=true)/\(18446744073709551616<=nv x.1->r.2.1=false))
def Dd:A9:=Mg
def Ev:A9:=Rx
def Af:A9:=X9 qr sf (fun(x:Dm)=>N9 x.1) (fun(x:Dm) (r:C4h)=>(nv x.2.1=0->r.1= []/\r.2.1= []/\r.2.2.1=false)/\(nv x.2.1≠0->r.1=nc (nv x.1/nv x.2.1)/\r.2.1=nc (nv x.1%nv x.2.1)/\r.2.2.1=true))
def De:A9:=sq qz qp (fun(x:IU)=>True) (fun(x:IU) (r:D8)=>r.1=(iv x.1).sign)
def Gu:A9:=sq [.val false qf] qp (fun(x:D8)=>True) (fun(x:D8) (r:D8)=>r.1=(M5 x.1.toNat:Int))
def Ak:A9:=X9 qu sn (fun(x:F5)=>N6 x.1) (fun(x:F5) (r:B8c)=>(rv x.1=0->r.2.1=false)/\(rv x.1≠0->r.1=rc (rv x.1)⁻¹/\r.2.1=true))
def Di:A9:=X9 qw qo (fun(x:Ei)=>N6 x.1/\N6 x.2.1) (fun(x:Ei) (r:F5)=>r.1=rc (rv x.1-rv x.2.1))
def Cf:A9:=X9 qx qt (fun(x:Dn)=>True) (fun(x:Dn) (r:Dn)=>r.1=nc (nv x.1))
def Ha:A9:=sq qx sk (fun(x:Dn)=>Hh x.1) (fun(x:Dn) (r:A7s)=>(nv x.1<18446744073709551616->r.1=(nv x.1:Int)/\r.2.1=true)/\(18446744073709551616<=nv x.1->r.2.1=false))
def Md:A9:=sq qx qp (fun(x:Dn)=>N9 x.1) (fun(x:Dn) (r:D8)=>r.1=(M5 (nv x.1):Int))
abbrev LF:=Wf×Int×Unit
def Sa:A9:=sq rp [.val false qf] (fun(x:LF)=>0<=x.2.1) (fun(x:LF) (r:D8)=>r.1=((nv x.1/2^x.2.1.toNat%2:Nat):Int))
def Eu:A9:=Rw
def Ex:A9:=Rz
def Dg:A9:=sq qx rt (fun(x:Dn)=>x.1.length<=2) (fun(x:Dn) (r:D8)=>r.1=(nv x.1:Int))
def X4:A9:=sq qr [.val true (.pair qh (.pair qh (.pair qh (.pair qh .bool))))] (fun(x:Dm)=>N9 x.1/\3<=x.1.length/\Mo x.1/\nv x.2.1<=nv x.1/\x.2.1.length<=x.1.length) (fun(x:Dm) (r:(Int×(Int×(Int×(Int×Bool))))×Unit)=>C0p (nv x.1) (nv x.2.1) r.1.1 r.1.2.1 r.1.2.2.1 r.1.2.2.2.1 r.1.2.2.2.2)
abbrev C4j:=Wf×Int×Wf×Int×Unit
def X3:A9:=X9 [.val false qa, .val false qh, .val false qa, .val false qh] qt (fun(x:C4j)=>Ga x.1/\Ga x.2.2.1/\nv x.2.2.1*x.2.2.2.1.toNat<=nv x.1*x.2.1.toNat) (fun(x:C4j) (r:Dn)=>r.1=nc (nv x.1*x.2.1.toNat-nv x.2.2.1*x.2.2.2.1.toNat))
def O5:A9:=X9 [.val false qa, .val false qf] si (fun(x:LF)=>N9 x.1/\x.2.1≠0) (fun(x:LF) (r:Dm)=>r.1=nc (nv x.1/x.2.1.toNat)/\r.2.1=nc (nv x.1%x.2.1.toNat))
def R5:A9:=X9 qr si (fun(x:Dm)=>N9 x.1/\2<=x.2.1.length/\x.2.1.length<=x.1.length/\Mo x.2.1) (fun(x:Dm) (r:Dm)=>r.1=nc (nv x.1/nv x.2.1)/\r.2.1=nc (nv x.1%nv x.2.1))
def V4:A9:=sq qw qp (fun(x:Ei)=>N6 x.1/\N6 x.2.1) (fun(x:Ei) (r:D8)=>r.1=VD (rv x.1) (rv x.2.1))
def L9:A9:=sq [.val false qf] qp (fun(x:D8)=>True) (fun(x:D8) (r:D8)=>r.1=32-(M5 x.1.toNat:Int))
abbrev C4k:=Wf×Int×Int×Unit
def Ah:A9:=sq [.val false qa, .val false qb, .val false qb] rt (fun(x:C4k)=>3<=x.2.1/\(x.1.length:Int)<=x.2.1/\x.2.1<=17592186044416/\0<=x.2.2.1/\x.2.2.1<=31/\nv x.1*2^x.2.2.1.toNat<4294967296^x.2.1.toNat) (fun(x:C4k) (r:D8)=>r.1=((nv x.1*2^x.2.2.1.toNat/4294967296^(x.2.1.toNat-2):Nat):Int))
def S5:A9:=sq rp [.own qf 108] (fun(x:LF)=>N9 x.1/\0<=x.2.1/\x.2.1<=31) (fun(x:LF) (r:Dn)=>r.1.length=x.1.length+1/\nv r.1=nv x.1*2^x.2.1.toNat)
def N5:A9:=X9 rp ro (fun(x:LF)=>N9 x.1) (fun(x:LF) (r:C1x)=>(x.2.1<0->r.1= []/\r.2.1=false)/\(0<=x.2.1->r.1=nc (nv x.1/2^x.2.1.toNat)/\r.2.1=true))
def T3:A9:=W8
def X0:A9:=sq qv qp (fun(x:eZ)=>True) (fun(x:eZ) (r:D8)=>r.1=M7 (iv x.1) (iv x.2.1))
def V3:A9:=sq [.val false qb, .val false (.ptr qa)] rt (fun(x:Int×Wf×Unit)=>0<=x.1) (fun(x:Int×Wf×Unit) (r:D8)=>r.1=(if x.1<(x.2.1.length:Int)then x.2.1.getD x.1.toNat 0 else 0))
def W9:A9:=Bp
abbrev C4i:=Wf×Wf×Int×Unit
def G6:A9:=sq [.val false qg, .val false qg, .val false (.int .u8)] qn (fun(x:C4i)=>True) (fun(x:C4i) (r:Ax)=>r.1=true)
abbrev ty4:=(Wf×Int)×Unit
def Ig:A9:=X9 [.val false qg] [.obox 83 qk] (fun(x:Dn)=>True) (fun(x:Dn) (r:ty4)=>r.1=(x.1,0))
abbrev ty2:=(Wf×Int)×Int×Int×Unit
abbrev Vl:=MM×Unit
def Q5:A9:=mkM [.box 83 qk, .val false qb, .val false qb] sc (fun(x:ty2)=>0<=x.2.1/\x.2.1<=20/\0<=x.2.2.1/\x.2.2.1<=20/\0<=x.1.2/\x.1.2<=(x.1.1.length:Int)) (fun(x:ty2) (r:Vl)=>C0h x.2.1.toNat x.2.2.1.toNat r.1) (fun(x:ty2) (r:Vl) (o:ty4)=>o.1.1=x.1.1/\0<=o.1.2/\o.1.2<=(x.1.1.length:Int))
abbrev ty3:=(Wf×Int)×Int×Unit
def U4:A9:=mkM sd qp (fun(x:ty3)=>0<x.2.1/\0<=x.1.2/\x.1.2<=(x.1.1.length:Int)) (fun(x:ty3) (r:D8)=>0<=r.1/\r.1<x.2.1) (fun(x:ty3) (r:D8) (o:ty4)=>o.1.1=x.1.1/\0<=o.1.2/\o.1.2<=(x.1.1.length:Int))
def Et:A9:=X9 rq sc (fun(x:LF)=>1<=x.2.1/\x.2.1<=20) (fun(x:LF) (r:Vl)=>sqG x.2.1 r.1)
def Es:A9:=sq [] qn (fun(x:Unit)=>True) (fun(x:Unit) (r:Ax)=>r.1=true)
def Gv:A9:=X9 rq rr (fun(x:LF)=>0<=x.2.1/\x.2.1<=100) (fun(x:LF) (r:Dn)=>(∀g∈r.1,0<=g/\g<x.2.1)/\r.1.Nodup)
def Mc:A9:=sq rh qp (fun(x:Cr)=>0<x.2.1) (fun(x:Cr) (r:D8)=>0<x.2.1->0<=r.1/\r.1<x.2.1/\r.1=(u64.wrap x.1).tmod x.2.1)
def P9:A9:=X9 [.val true tM, .val false qg] [.val true qm, .val false qb] (fun(x:MM×Wf×Unit)=>aU x.1) (fun(x:MM×Wf×Unit) (r:(Wf×(MM×MM))×Int×Unit)=>Ni x.1 x.2.1 r.1 r.2.1)
abbrev jE:=MM×MM×Unit
def Bw:A9:=sq rx qn (fun(x:jE)=>S4 K1 x.1) (fun(x:jE) (r:Ax)=>r.1=true↔x.1=x.2.1/\∀v∈x.1.2.2,∀e∈v,e.2=rc (rv e.2))
abbrev SQ:=(List EE)×Int×Unit
def Sk:A9:=X9 re qo (fun(x:SQ)=>Jw x.1) (fun(x:SQ) (r:F5)=>r.1=rc (A4 x.1 x.2.1))
abbrev C4b:=(List EE)×(List EE)×Unit
def Bv:A9:=sq [.val false qd, .val false qd] qn (fun(x:C4b)=>LE K1 x.1) (fun(x:C4b) (r:Ax)=>r.1=decide (x.1=x.2.1/\∀e∈x.1,e.2=rc (rv e.2)))
def Bq:A9:=mkM [.box 83 qk] qo (fun(x:ty4)=>0<=x.1.2/\x.1.2<=(x.1.1.length:Int)) (fun(x:ty4) (r:F5)=>gF r.1) (fun(x:ty4) (r:F5) (o:ty4)=>o.1.1=x.1.1/\0<=o.1.2/\o.1.2<=(x.1.1.length:Int))
abbrev C4a:=(List (List QQ))×Int×Unit
def Ih:A9:=X9 [.val false (.sl ql), .val false qb] sc (fun(x:C4a)=>(∀l∈x.1,eV K1 l/\(l.length:Int)=x.2.1)/\0<=x.2.1/\x.2.1<=16384/\x.1.length<=16384) (fun(x:C4a) (r:Vl)=>Ed x.1.length x.2.1.toNat (λi j=>rv ((x.1.getD i []).getD j zr)) r.1)
def Ac:A9:=sq [.val false qg, .val false qg] qn (fun(x:Dm)=>True) (fun(x:Dm) (r:Ax)=>r.1=decide (x.1=x.2.1))
def Ae:A9:=mkM sd rr (fun(x:ty3)=>0<=x.2.1/\x.2.1<=100/\0<=x.1.2/\x.1.2<=(x.1.1.length:Int)) (fun(x:ty3) (r:Dn)=>K2 r.1 x.2.1) (fun(x:ty3) (r:Dn) (o:ty4)=>o.1.1=x.1.1/\0<=o.1.2/\o.1.2<=(x.1.1.length:Int))
def J6:A9:=sq ry qn (fun(x:Vl)=>True) (fun(x:Vl) (r:Ax)=>r.1=decide (A7 x.1))
def X6:A9:=X9 [.val false (.sl .bool)] [.val false qg, .val false qg] (fun(x:(List Bool)×Unit)=>x.1.length<=100000) (fun(x:(List Bool)×Unit) (r:Dm)=>r.1=F3 x.1.length (λi=>x.1.getD i false)/\r.2.1=F3 x.1.length (λi=> !x.1.getD i false))
abbrev C5l:=MM×Wf×Wf×Unit
abbrev Mq:=MM×Int×Unit
def Br:A9:=X9 [.val true tM, .val false qg, .val false qg] rj (fun(x:C5l)=>S4 K1 x.1/\x.2.1.length<=1000/\x.2.2.1.length<=1000/\x.2.2.1.Nodup) (fun(x:C5l) (r:Mq)=>(¬A7 x.1->r.1=zm/\r.2.1=1)/\(A7 x.1->(((∃i∈x.2.1,i<0\/x.1.1<=i)\/(∃i∈x.2.2.1,i<0\/x.1.2.1<=i))->r.1=zm/\r.2.1=3)/\(¬((∃i∈x.2.1,i<0\/x.1.1<=i)\/(∃i∈x.2.2.1,i<0\/x.1.2.1<=i))->((16384<x.2.1.length\/16384<x.2.2.1.length)->r.1=zm/\r.2.1=8)/\(x.2.1.length<=16384/\x.2.2.1.length<=16384->Ed x.2.1.length x.2.2.1.length (λi j=>el x.1 (x.2.1.getD i 0).toNat (x.2.2.1.getD j 0).toNat) r.1/\r.2.1=0))))
def R6:A9:=X9 rx rj (fun(x:jE)=>∃n k s:Nat,Ed n n (el x.1) x.1/\Ed n k (el x.2.1) x.2.1/\n<=900/\k<=900/\1<=s/\S4 s x.1/\S4 s x.2.1/\rY s n<=268435456) (fun(x:jE) (r:Mq)=>jY x.1 x.2.1 r.1 r.2.1)
def Gy:A9:=X9 rx rj (fun(x:jE)=>S4 K0 x.1/\S4 K0 x.2.1/\x.1.2.1<=1000) (fun(x:jE) (r:Mq)=>(¬(A7 x.1/\A7 x.2.1)->r.1=zm/\r.2.1=1)/\(A7 x.1/\A7 x.2.1->(x.1.2.1≠x.2.1.1->r.1=zm/\r.2.1=4)/\(x.1.2.1=x.2.1.1->Ed x.1.1.toNat x.2.1.2.1.toNat (λi j=>B7 x.1.2.1.toNat λk=>el x.1 i k*el x.2.1 k j) r.1/\r.2.1=0)))
abbrev C2b:=MM×QQ×MM×Unit
def Gx:A9:=X9 [.val true tM, .val true tQ, .val true tM] rj (fun(x:C2b)=>S4 K1 x.1/\sz K1 x.2.1/\S4 K1 x.2.2.1) (fun(x:C2b) (r:Mq)=>(¬(A7 x.1/\A7 x.2.2.1)->r.1=zm/\r.2.1=1)/\(A7 x.1/\A7 x.2.2.1->(¬(x.1.1=x.2.2.1.1/\x.1.2.1=x.2.2.1.2.1)->r.1=zm/\r.2.1=4)/\(x.1.1=x.2.2.1.1/\x.1.2.1=x.2.2.1.2.1->Ed x.1.1.toNat x.1.2.1.toNat (λi j=>el x.1 i j+rv x.2.1*el x.2.2.1 i j) r.1/\r.2.1=0)))
def Ft:A9:=X9 re [.own tQ 58, .val false .bool] (fun(x:SQ)=>ER K1 x.1/\F1 x.1 x.2.1/\0<=x.2.1/\x.2.1<=16384) (fun(x:SQ) (r:(List QQ)×Bool×Unit)=>r.1=dl x.2.1 (A4 x.1)/\r.2.1=true)
abbrev Sq:=(List EE)×Unit
def Mm:A9:=X9 rk rf (fun(x:Sq)=>Jw x.1) (fun(x:Sq) (r:Sq)=>IT (A4 x.1) r.1)
abbrev B7w:=(List QQ)×Unit
def Bu:A9:=X9 [.val false ql] rf (fun(x:B7w)=>x.1.length<=100000/\eV K1 x.1) (fun(x:B7w) (r:Sq)=>Vx x.1.length (λj=>rv (x.1.getD j zr)) r.1)
def U5:A9:=sq qy qn (fun(x:D8)=>True) (fun(x:D8) (r:Ax)=>r.1=decide (0<=x.1/\x.1<=16384))
def Dj:A9:=sq re qn (fun(x:SQ)=>True) (fun(x:SQ) (r:Ax)=>r.1=decide (F1 x.1 x.2.1))
def K9:A9:=sq [.val false qb, .val false (.ptr qb)] qn (fun(x:Cr)=>True) (fun(x:Cr) (r:Ax)=>r.1=decide (x.1<0\/x.2.1<=x.1))
def F9:A9:=sq sj qn (fun(x:Wf×(((Int×Unit)->Prop)×((Int×Unit)->Bool))×Unit)=>∀i∈x.1,x.2.1.1 (i,())) (fun(x:Wf×(((Int×Unit)->Prop)×((Int×Unit)->Bool))×Unit) (r:Ax)=>r.1=decide (∃i∈x.1,x.2.1.2 (i,())=true))
abbrev ty1:=(Wf×(Wf×(MM×MM)))×Int×Unit
def P3:A9:=X9 ry [.val true qi, .val false qb] (fun(x:Vl)=>S4 K1 x.1/\(A7 x.1->x.1.1=x.1.2.1->∃T:Nat,1<=T/\8*T+8<=K1/\aW x.1.1.toNat x.1.1.toNat (el x.1) T)) (fun(x:Vl) (r:ty1)=>(¬A7 x.1->r.1=jT/\r.2.1=1)/\(A7 x.1->(x.1.1≠x.1.2.1->r.1=jT/\r.2.1=4)/\(x.1.1=x.1.2.1->(¬nonsing x.1.1.toNat (el x.1)->r.1=jT/\r.2.1=6)/\(nonsing x.1.1.toNat (el x.1)->Bi r.1 x.1.1/\r.2.1=0/\(∀v∈r.1.2.2.1.2.2,U8 v)/\(∀v∈r.1.2.2.2.2.2,U8 v)/\(∀T:Nat,1<=T->aW x.1.1.toNat x.1.1.toNat (el x.1) T->∀i j:Nat,i<x.1.1.toNat->qs (T+T) (el r.1.2.2.1 i j)/\qs (T+T) (el r.1.2.2.2 i j))/\∀i j:Nat,i<x.1.1.toNat->j<x.1.1.toNat->luM r.1 x.1.1.toNat i j=el x.1 (ix r.1.1 i) (ix r.1.2.1 j)))))
def Q6:A9:=X9 ry rj (fun(x:Vl)=>S4 K1 x.1) (fun(x:Vl) (r:Mq)=>(¬A7 x.1->r.1=zm/\r.2.1=1)/\(A7 x.1->Ed x.1.2.1.toNat x.1.1.toNat (λi j=>el x.1 j i) r.1/\r.2.1=0))
def Ap:A9:=X9 re [.val false ql, .val false .bool] (fun(x:SQ)=>ER K1 x.1/\F1 x.1 x.2.1/\0<=x.2.1/\x.2.1<=16384) (fun(x:SQ) (r:(List QQ)×Bool×Unit)=>r.1=dl x.2.1 (A4 x.1)/\r.2.1=true)
abbrev ty0:=(Wf×(Wf×(MM×MM)))×(List QQ)×Unit
def Aa:A9:=X9 sm [.val false ql, .val false qb] (fun(x:ty0)=>x.1.1.length<=16384/\S4 K1 x.1.2.2.1/\S4 K1 x.1.2.2.2/\(Bi x.1 x.1.1.length->x.2.1.length=x.1.1.length->∃s T Y:Nat,1<=s/\1<=T/\T<=Y/\S4 s x.1.2.2.1/\S4 s x.1.2.2.2/\eV T x.2.1/\B7m Y x.1 x.2.1/\Y+x.1.1.length*(s+Y+1)+s<=K1)) (fun(x:ty0) (r:(List QQ)×Int×Unit)=>(¬Bi x.1 x.1.1.length->r.1= []/\r.2.1=1)/\(Bi x.1 x.1.1.length->(x.2.1.length≠x.1.1.length->r.1= []/\r.2.1=4)/\(x.2.1.length=x.1.1.length->r.2.1=0/\r.1.length=x.1.1.length/\(∀e∈r.1,e=rc (rv e))/\∀i:Nat,i<x.1.1.length->B7 x.1.1.length (λj=>luM x.1 x.1.1.length i j*rv (r.1.getD (ix x.1.2.1 j) zr))=rv (x.2.1.getD (ix x.1.1 i) zr))))
def Aq:A9:=X9 [.val true tQ, .val false qd] [.own tE 105] (fun(x:QQ×(List EE)×Unit)=>sz K1 x.1/\ER K1 x.2.1) (fun(x:QQ×(List EE)×Unit) (r:Sq)=>IT (λi=>rv x.1*A4 x.2.1 i) r.1)
def Q7:A9:=Bu
def N4:A9:=X9 [.val false qd, .val true tM] rf (fun(x:(List EE)×MM×Unit)=>ER K0 x.1/\S4 K0 x.2.1/\A7 x.2.1/\F1 x.1 x.2.1.1/\x.2.1.1<=1000) (fun(x:(List EE)×MM×Unit) (r:Sq)=>IT (λj=>V8 x.1 λk=>A4 (x.2.1.2.2.getD k.toNat []) j) r.1)
abbrev C4d:=(List EE)×QQ×(List EE)×Unit
def N0:A9:=X9 [.val false qd, .val true tQ, .val false qd] rf (fun(x:C4d)=>ER K1 x.1/\sz K1 x.2.1/\ER K1 x.2.2.1) (fun(x:C4d) (r:Sq)=>IT (λi=>A4 x.1 i+rv x.2.1*A4 x.2.2.1 i) r.1)
def Jg:A9:=sq re qn (fun(x:SQ)=>LE K1 x.1) (fun(x:SQ) (r:Ax)=>r.1=decide (F1 x.1 x.2.1))
def Fa:A9:=X9 [.val false qj] rr (fun(x:(List (List EE))×Unit)=>x.1.length<=4/\∀v∈x.1,v.length<=100000) (fun(x:(List (List EE))×Unit) (r:Dn)=>r.1.Pairwise (· < ·)/\∀i,i∈r.1↔∃v∈x.1,∃e∈v,e.1=i)
def V6:A9:=sq rk qn (fun(x:Sq)=>True) (fun(x:Sq) (r:Ax)=>r.1=decide (asc x.1))
def J3:A9:=sq sj qp (fun(x:Wf×(((Int×Unit)->Prop)×((Int×Unit)->Bool))×Unit)=>∀i∈x.1,x.2.1.1 (i,())) (fun(x:Wf×(((Int×Unit)->Prop)×((Int×Unit)->Bool))×Unit) (r:D8)=>r.1=mL (λi=>x.2.1.2 (i,())) x.1)
abbrev C4c:=(List EE)×Wf×Unit
def U6:A9:=X9 [.val false qd, .val false qg] [.val false qd, .val false .bool] (fun(x:C4c)=>ER K1 x.1/\x.2.1.length<=100000) (fun(x:C4c) (r:(List EE)×Bool×Unit)=>K2 x.2.1 x.2.1.length->(∀j,A4 x.1 j≠0->0<=j/\j<x.2.1.length)->IT (λi=>if 0<=i/\i<x.2.1.length then A4 x.1 (((List.idxOf i x.2.1:Nat)):Int)else 0) r.1/\r.2.1=true)
def Ch:A9:=X9 rk [.own tE 105] (fun(x:Sq)=>Jw x.1) (fun(x:Sq) (r:Sq)=>IT (A4 x.1) r.1)
def Ab:A9:=sq sm qp (fun(x:ty0)=>x.1.1.length<=16384/\S4 K1 x.1.2.2.1/\S4 K1 x.1.2.2.2) (fun(x:ty0) (r:D8)=>(¬Bi x.1 x.1.1.length->r.1=1)/\(Bi x.1 x.1.1.length->(x.2.1.length≠x.1.1.length->r.1=4)/\(x.2.1.length=x.1.1.length->r.1=0)))
abbrev jF:=QQ×QQ×QQ×Unit
def En:A9:=X9 [.val true tQ, .val true tQ, .val true tQ] qo (fun(x:jF)=>sz K1 x.1/\sz K1 x.2.1/\sz K1 x.2.2.1) (fun(x:jF) (r:F5)=>(rv x.2.2.1=0->r.1=x.1)/\(rv x.2.2.1≠0->r.1=rc (rv x.1-rv x.2.1*rv x.2.2.1)))
def Dk:A9:=X9 [.val false qd, .val false qd, .fn [(true,tQ),(true,tQ)] true tQ] [.own tE 105] (fun(x:(List EE)×(List EE)×(((QQ×QQ×Unit)->Prop)×((QQ×QQ×Unit)->QQ))×Unit)=>x.1.length<=100000/\x.2.1.length<=100000/\∀u v,(u=zr\/∃e∈x.1,e.2=u)->(v=zr\/∃e∈x.2.1,e.2=v)->x.2.2.1.1 (u,v,())) (fun(x:(List EE)×(List EE)×(((QQ×QQ×Unit)->Prop)×((QQ×QQ×Unit)->QQ))×Unit) (r:Sq)=>r.1=I8 x.2.2.1.2 x.1 x.2.1)
def Au:A9:=X9 rk rf (fun(x:Sq)=>UX x.1) (fun(x:Sq) (r:Sq)=>(asc x.1->r.1=x.1)/\(¬asc x.1->asc r.1/\(∀j,A4 r.1 j=A4 x.1 j)/\r.1.length<=20/\LE 16777216 r.1))
def Ar:A9:=X9 so qo (fun(x:jF)=>sz K1 x.1/\sz K1 x.2.2.1) (fun(x:jF) (r:F5)=>r.1=rc (rv x.2.2.1*rv x.1))
def R7:A9:=X9 so qo (fun(x:jF)=>sz K1 x.1/\sz K1 x.2.1/\sz K1 x.2.2.1) (fun(x:jF) (r:F5)=>r.1=rc (rv x.1+rv x.2.2.1*rv x.2.1))
def F8:A9:=mkM [.row tE 105, .val false qb, .val false qb, .fn [(true,tE),(true,tE)] false qb] [] (fun(x:(List EE)×Int×Int×(((EE×EE×Unit)->Prop)×((EE×EE×Unit)->Int))×Unit)=>Ze x.2.2.2.1.1 x.2.2.2.1.2/\0<=x.2.1/\x.2.1<=x.2.2.1/\x.2.2.1<=(x.1.length:Int)/\x.1.length<=100000) (fun(x:(List EE)×Int×Int×(((EE×EE×Unit)->Prop)×((EE×EE×Unit)->Int))×Unit) (r:Unit)=>True) (fun(x:(List EE)×Int×Int×(((EE×EE×Unit)->Prop)×((EE×EE×Unit)->Int))×Unit) (r:Unit) (o:Sq)=>o.1.Perm x.1/\o.1.take x.2.1.toNat=x.1.take x.2.1.toNat/\o.1.drop x.2.2.1.toNat=x.1.drop x.2.2.1.toNat/\Xp x.2.2.2.1.2 ((o.1.drop x.2.1.toNat).take (x.2.2.1.toNat-x.2.1.toNat)))
def Dw:A9:=X9 re qo (fun(x:SQ)=>ER K1 x.1) (fun(x:SQ) (r:F5)=>r.1=rc (A4 x.1 x.2.1))
def O6:A9:=sq [.val false qg] qn (fun(x:Dn)=>x.1.length<=100000) (fun(x:Dn) (r:Ax)=>r.1=decide (K2 x.1 x.1.length))
abbrev SR:=EE×EE×Unit
def Av:A9:=sq [.val true tE, .val true tE] qp (fun(x:SR)=>True) (fun(x:SR) (r:D8)=>r.1=M7 x.1.1 x.2.1.1)
def Bz:A9:=X9 qw qo (fun(x:Ei)=>N6 x.1) (fun(x:Ei) (r:F5)=>r.1=rc (rv x.1))
def T4:A9:=sq [.val true qi, .val false qb] qn (fun(x:ty1)=>0<=x.2.1/\x.2.1<=16384/\S4 K1 x.1.2.2.1/\S4 K1 x.1.2.2.2) (fun(x:ty1) (r:Ax)=>r.1=true↔Bi x.1 x.2.1)
def F4:A9:=mkM [.row tE 105, .fn [(true,tE),(true,tE)] false (.int .i64)] [] (fun(x:(List EE)×(((EE×EE×Unit)->Prop)×((EE×EE×Unit)->Int))×Unit)=>Ze x.2.1.1 x.2.1.2/\x.1.length<=20) (fun(x:(List EE)×(((EE×EE×Unit)->Prop)×((EE×EE×Unit)->Int))×Unit) (r:Unit)=>True) (fun(x:(List EE)×(((EE×EE×Unit)->Prop)×((EE×EE×Unit)->Int))×Unit) (r:Unit) (o:Sq)=>o.1.Perm x.1/\Xp x.2.1.2 o.1)
def O4:A9:=sq rq qn (fun(x:LF)=>0<=x.2.1/\x.2.1<=16384) (fun(x:LF) (r:Ax)=>r.1=decide (K2 x.1 x.2.1))
def P8:A9:=sq [.val true tM, .val false (.ptr qb)] qn (fun(x:Mq)=>True) (fun(x:Mq) (r:Ax)=>r.1=decide (sqr x.1 x.2.1))
def H9:A9:=mkM [.row tE 105, .val false qb, .fn [(true,tE),(true,tE)] false qb] [] (fun(x:(List EE)×Int×(((EE×EE×Unit)->Prop)×((EE×EE×Unit)->Int))×Unit)=>Ze x.2.2.1.1 x.2.2.1.2/\x.2.1=(x.1.length:Int)/\x.1.length<=20) (fun(x:(List EE)×Int×(((EE×EE×Unit)->Prop)×((EE×EE×Unit)->Int))×Unit) (r:Unit)=>True) (fun(x:(List EE)×Int×(((EE×EE×Unit)->Prop)×((EE×EE×Unit)->Int))×Unit) (r:Unit) (o:Sq)=>o.1.Perm x.1/\Xp x.2.2.1.2 o.1)
def Ii:A9:=X9 [.row tE 105, .val false qb, .val false qb, .val false qb, .fn [(true,tE),(true,tE)] false qb] [] (fun(x:(List EE)×Int×Int×Int×(((EE×EE×Unit)->Prop)×((EE×EE×Unit)->Int))×Unit)=>False) (fun(x:(List EE)×Int×Int×Int×(((EE×EE×Unit)->Prop)×((EE×EE×Unit)->Int))×Unit) (r:Unit)=>True)
noncomputable def LB:G2:= [(64,Ft)]
def pZ9:Nat→Nat→Pl→Pl
 | _,0,k=>k
 |i,n+1,k=> .p i (pZ9 (i+1) n k)
def vI:List Vw:= [.val (.int .i64)]
def vU:List Vw:= [.val (.int .u64)]
def JC:An:= {loop:= [(3,⟨[1,3],[0,2,3],[(4,false,vI)],[],[(4, .rows tQ 63 58)]⟩)],plan:= [(5,[3,6,8],[14],true, .done)]}
def UM:An:= {join:= [(11,⟨[4,7],[0],[],[(2,24,[.val qb, .val qb, .val qj])],[]⟩)],loop:= [(7,⟨[4,6,7,8],[0,2],[(9,false,vI)],[],[(4, .rows tQ 63 58)]⟩)],plan:= [(9,[3,8,11],[15],true, .done)]}
noncomputable def YN:G2:= [(9,Ig),(11,Q5),(12,U4),(30,Kv),(46,Ih),(47,Cg),(24,V7 (Lk ⟨prog,YU⟩ [(24,LB,JC)] f24.results.toList (f24.body.getD .skip) f24.ntmps))]
def rT1 (P:MM×Unit->Prop):Prop:=∀r:MM×Unit,jN r.1/\True->P r
def P6 (P:QQ×Unit->Prop):Prop:=∀r:QQ×Unit,UE r.1/\True->P r
abbrev PH:=(Wf×Int)×Unit
abbrev B8b:=Int×Int×List (List EE)×Unit
abbrev B3v:=Int×List (List QQ)×Unit
abbrev HZ:=Wf×Int×Unit
def AU(x:HZ):Prop:=let h:=(1:Int);let d:=(0:Int);let b:(B3v)->Prop:=(λp=>d<=p.1/\p.1<(p.2.1.length:Int));True/\∀(r:PH),let u:=(r.1.1.length:Int);(aD r.1.1/\N8 r.1.2)/\True->r.1=(x.1,d)->(d<x.2.1/\d<=r.1.2/\r.1.2<=u)/\∀(w:D8) (o:PH),let v:=(o.1.1.length:Int);let q:=(i64.wrap (h+w.1));N8 w.1/\True->((Ty.int i64).sl.pair (Ty.int i64)).wf o.1/\True->d<=w.1/\w.1<x.2.1->o.1.1=r.1.1/\d<=o.1.2/\o.1.2<=u->(d<=i64.wrap (h+w.1)/\i64.wrap (h+w.1)<=(20:Int)/\d<=i64.wrap (h+w.1)/\i64.wrap (h+w.1)<=(20:Int)/\d<=o.1.2/\o.1.2<=v)/\∀(r:Vl) (y:PH),let t:=(y.1.1.length:Int);jN r.1/\True->((Ty.int i64).sl.pair (Ty.int i64)).wf y.1/\True->C0h q.toNat q.toNat r.1->y.1.1=o.1.1/\d<=y.1.2/\y.1.2<=v->∃(J:B8b->Prop),((d<(4:Int)/\d<=y.1.2/\y.1.2<=t)/\∀(A:D8) (o:PH),N8 A.1/\True->((Ty.int i64).sl.pair (Ty.int i64)).wf o.1/\True->d<=A.1/\A.1<4->o.1.1=y.1.1/\d<=o.1.2/\o.1.2<=t->(iB (decide (d<A.1)) ((d<=r.1.1/\r.1.1<=r.1.1/\(↑(24:Nat):Int)*r.1.1<=281474976710656/\r.1.1<=9223372036854775807)/\∃(I:B3v->Prop),∃(a: _->Nat),I (d,List.replicate r.1.1.toNat [],())/\∀(p:B3v),let s:=(gx [] r.1.2.2 p.1);(Ty.int i64).wf p.1/\C2o p.2.1/\True->I p->(iB (decide (p.1<r.1.1)) ((d<=p.1/\p.1<(r.1.2.2.length:Int))/\(ER K1 s/\F1 s r.1.2.1/\d<=r.1.2.1/\r.1.2.1<=16384)/\∀(z:List QQ×Bool×Unit),let k:=(i64.wrap (p.1+h),List.set p.2.1 p.1.toNat z.1,());WfL z.1/\True/\True->z.1=dl r.1.2.1 (A4 s)/\z.2.1=true->(b p)/\I k/\a k<a p) (∃(I:B3v->Prop),∃(a: _->Nat),I (d,p.2.1,())/\∀(p:B3v),let m:=p.1.toNat;let e:=(List.getD p.2.1 m []);let f:Prop:=(p.1<i64.wrap (h+w.1));let c:Prop:=(d<=p.1/\p.1<(↑e.length:Int));(Ty.int i64).wf p.1/\C2o p.2.1/\True->I p->(iB (decide f) ((b p)/\(b p)/\c/\True/\P6 λr=>r.1=ri (20:Int)->(N6 (e.getD m dQ)/\N6 r.1)/\P6 λz=>let g:=(i64.wrap (p.1+h),List.set p.2.1 m (e.set m z.1),());z.1=rc (rv (e.getD m dQ)+rv r.1)->c/\I g/\a g<a p) (((∀(l:List QQ),l∈p.2.1->eV K1 l/\(↑l.length:Int)=i64.wrap (h+w.1))/\d<=i64.wrap (h+w.1)/\i64.wrap (h+w.1)<=(16384:Int)/\List.length p.2.1<=16384)/\rT1 λr=>Ed p.2.1.length q.toNat (fun(i j:Nat)=>rv ((List.getD p.2.1 i []).getD j zr)) r.1->J (r.1.1,r.1.2.1,r.1.2.2,())))))) (J (r.1.1,r.1.2.1,r.1.2.2,()))))/\∀(p:B8b),(Ty.int i64).wf p.1/\(Ty.int i64).wf p.2.1/\tE.sl.sl.wf p.2.2.1/\True->J p->∃(n:Nat),(1:Nat)<=n/\(↑n:Int)<=x.2.1/\∃(f:Nat->Nat->Rat),(∀(i j:Nat),qs (4:Nat) (f i j))/\Ed n n f (p.1,p.2.1,p.2.2.1)
def kO:An:= {loop:= [(3,⟨[0,4,5],[0],[(6,false,vI)],[(1,24,[.val qb, .val qb, .own qd 49])],[]⟩)],plan:= [(5,[1,5],[8,10],false, .done)]}
def NA:An:= {loop:= [(4,⟨[2,3],[0,1],[(5,false,vI)],[],[]⟩)],plan:= [(6,[1,4,6,9],[],true, .done)]}
def SP (P:List EE×Unit->Prop):Prop:=∀r:List EE×Unit,IY r.1/\True->P r
abbrev C4q:=Int×Int×Int×List (List EE)×Unit
def RE(x:List (List QQ)×Int×Unit):Prop:=let d:=(↑x.2.1.toNat:Int);let b:=(x.1.length:Int);∃(I:C4q->Prop),∃(f: _->Nat),I ((0:Int),b,x.2.1,[],())/\∀(p:C4q),let c:=(gx [] x.1 p.1);(Ty.int i64).wf p.1/\(Ty.int i64).wf p.2.1/\(Ty.int i64).wf p.2.2.1/\tE.sl.sl.wf p.2.2.2.1/\True->I p->(iB (decide (p.1<b)) ((0<=p.1/\p.1<b)/\(c.length<=(100000:Nat)/\eV K1 c)/\SP λr=>let a:=(i64.wrap (p.1+1),p.2.1,p.2.2.1,p.2.2.2.1++ [r.1],());Vx c.length (fun(j:Nat)=>rv (c.getD j zr)) r.1->((p.2.2.2.1.length+ [r.1].length)*(24:Nat)<=(140737488355328:Nat)/\p.2.2.2.1.length+ [r.1].length<=9223372036854775807)/\I a/\f a<f p) (p.2.1=(↑x.1.length:Int)/\p.2.2.1=d/\p.2.2.2.1.length=x.1.length/\∀(i:Nat),i<x.1.length->U8 (p.2.2.2.1.getD i [])/\(∀(e:C8),e∈p.2.2.2.1.getD i []->0<=e.1/\e.1<d)/\∀(j:Nat),j<x.2.1.toNat->A4 (p.2.2.2.1.getD i []) (↑j:Int)=rv ((x.1.getD i []).getD j zr)))
def Od (P:Bool×Unit->Prop):Prop:=∀r:Bool×Unit,True/\True->P r
def Tb(x:jE):Prop:=let d:=(x.2.1.2.2.length:Int);let g:=(M0 (decide (x.1.1≠x.2.1.1)) true (decide (x.1.2.1≠x.2.1.2.1)));let b:Prop:=(false=true↔x.1=x.2.1/\∀(v:List EE),v∈x.1.2.2->∀(e:EE),e∈v->e.2=rc (rv e.2));let a:=(x.1.2.2.length:Int);(iB (M0 g true (decide (a≠d))) (b) (∃(I:D8->Prop),∃(c: _->Nat),I ((0:Int),())/\∀(p:D8),let f:=(i64.wrap (p.1+1),());(Ty.int i64).wf p.1/\True->I p->(iB (decide (p.1<a)) ((0<=p.1/\p.1<a)/\(0<=p.1/\p.1<d)/\LE K1 (gx [] x.1.2.2 p.1)/\Od λr=>r.1=decide (gx [] x.1.2.2 p.1=gx [] x.2.1.2.2 p.1/\∀(e:EE),e∈gx [] x.1.2.2 p.1->e.2=rc (rv e.2))->(iB ((!r.1)) (b) (I f/\c f<c p))) ((true=true↔x.1=x.2.1/\∀(v:List EE),v∈x.1.2.2->∀(e:EE),e∈v->e.2=rc (rv e.2))))))
noncomputable def Pz:G2:= []
def Pd:An:= {}
def Ww:An:= {join:= [(17,⟨[5,48,49,50],[1,3],[(10,false,[.own tE 105])],[],[]⟩)],loop:= [(6,⟨[3,5,7,14,15,16,25,26],[0,2],[(27,false,vI)],[],[(1, .map false qb true tQ)]⟩),(3,⟨[3,5,14,15],[0],[(16,false,vI)],[],[(1, .map false qb true tQ)]⟩),(13,⟨[5,48,49],[1,3],[(10,false,[.own tE 105]),(50,false,vI)],[],[]⟩)],plan:= [(8,[2,5,6,8,10],[13],true, .done)]}
noncomputable def Xm:G2:= [(122,Aj),(123,V5),(135,W2),(151,V7 (gT 195 3)),(152,V7 (Lk ⟨prog,tys⟩ [(47,Pz,Pd)] f152.results.toList (f152.body.getD .skip) f152.ntmps))]
noncomputable def PC:G2:= []
def MV:An:= {}
def aM:An:= {loop:= [(7,⟨[3,4,6,30,31],[1,2,5],[(32,false,vI)],[],[(4, .row qd 49)]⟩)],plan:= [(9,[1,4],[7],true, .done)]}
noncomputable def bG:G2:= [(52,J6),(109,N4),(99,V7 (Lk ⟨prog,tys⟩ [(28,PC,MV)] f99.results.toList (f99.body.getD .skip) f99.ntmps))]
def Ef (P:Int×Unit->Prop):Prop:=∀r:Int×Unit,N8 r.1/\True->P r
abbrev LH:=Int×List EE×Unit
abbrev Xr:=List EE×Int×Unit
abbrev Qc:=List EE×Unit
def Hq(x:List EE×MM×Unit):Prop:=let h:=(0:Int);∃(I:LH->Prop),∃(a: _->Nat),I (h,[],())/\∀(p:LH),let g:=(gx D7 x.1 p.1);let o:=(gx [] x.2.1.2.2 g.1);let b:Prop:=(p.1<(x.1.length:Int));(Ty.int i64).wf p.1/\(∀(x:Int×(Bool×Wf)×Wf),x∈p.2.1->WfE x)/\True->I p->(iB (decide b) ((h<=p.1/\b)/\(h<=g.1/\g.1<(x.2.1.2.2.length:Int))/\∃(I_1:LH->Prop),∃(c: _->Nat),I_1 (h,p.2.1,())/\∀(q:LH),let j:=(i64.wrap (p.1+1),q.2.1,());let d:=(gx D7 o q.1);let b:Prop:=(q.1<(↑o.length:Int));(Ty.int i64).wf q.1/\(∀(x:Int×(Bool×Wf)×Wf),x∈q.2.1->WfE x)/\True->I_1 q->(iB (decide b) ((h<=q.1/\b)/\(N6 g.2/\N6 d.2)/\P6 λr=>r.1=rc (rv g.2*rv d.2)->(N6 ((I6 (Ty.int i64) d.1 q.2.1).getD dQ)/\N6 r.1)/\P6 λs=>let f:=(i64.wrap (q.1+1),Ej (Ty.int i64) d.1 s.1 q.2.1,());s.1=rc (rv ((I6 (Ty.int i64) d.1 q.2.1).getD dQ)+rv r.1)->I_1 f/\c f<c q) (I j/\a j<a p))) ((List.length p.2.1<=100000/\(List.map (fun(x:Int×(Bool×Wf)×Wf)=>x.1) p.2.1).Nodup)/\∀(l:Wf),l.Perm (List.map (fun(x:Int×(Bool×Wf)×Wf)=>x.1) p.2.1)->List.Pairwise (fun(b c:Int)=>b<=c) l->∃(I:Xr->Prop),∃(a: _->Nat),I ([],h,())/\∀(q:Xr),let n:=q.2.1.toNat;let e:=(l.getD n h,(I6 (Ty.int i64) (l.getD n h) p.2.1).getD dQ);let c:Prop:=(q.2.1<(↑l.length:Int));tE.sl.wf q.1/\(Ty.int i64).wf q.2.1/\True->I q->(iB (decide c) (∃(J:Qc->Prop),((h<=q.2.1/\c)/\True/\Ef λr=>r.1=(rv ((I6 (Ty.int i64) (l.getD n h) p.2.1).getD dQ)).num.sign->(iB (decide (r.1≠h)) (((q.1.length+ [e].length)*(64:Nat)<=(140737488355328:Nat)/\q.1.length+ [e].length<=9223372036854775807)/\J (q.1++ [e],())) (J (q.1,()))))/\∀(p:Qc),let m:=(p.1,i64.wrap (q.2.1+1),());tE.sl.wf p.1/\True->J p->I m/\a m<a q) (U8 q.1/\∀(i:Int),A4 q.1 i=V8 x.1 fun(k:Int)=>A4 (x.2.1.2.2.getD k.toNat []) i))))
abbrev FC:=Int×List (List EE)×Unit
def GI(x:jE):Prop:=let l:Prop:=(x.1.2.1≠x.2.1.1);let h:=(4:Int);let g:=(1:Int);let e:Prop:=(A7 x.1/\A7 x.2.1);let d:=(x.1.2.2.length:Int);let a:=(0:Int);True/\Od λr=>r.1=decide (A7 x.1)->((!r.1)=false->True)/\∀(m:Ax),((!r.1)=false->(True/\True)/\m.1=decide (A7 x.2.1))->(iB ((M0 (!r.1) true !m.1)) ((¬e->(a,a,[])=zm/\g=g)/\(A7 x.1/\A7 x.2.1->(x.1.2.1≠x.2.1.1->(a,a,[])=zm/\g=h)/\(x.1.2.1=x.2.1.1->Ed x.1.1.toNat x.2.1.2.1.toNat (fun(i j:Nat)=>B7 x.1.2.1.toNat fun(k:Nat)=>el x.1 i k*el x.2.1 k j) (a,a,[])/\g=a))) ((iB (decide l) ((¬e->(a,a,[])=zm/\h=g)/\(A7 x.1/\A7 x.2.1->(x.1.2.1≠x.2.1.1->(a,a,[])=zm/\h=h)/\(x.1.2.1=x.2.1.1->Ed x.1.1.toNat x.2.1.2.1.toNat (fun(i j:Nat)=>B7 x.1.2.1.toNat fun(k:Nat)=>el x.1 i k*el x.2.1 k j) (a,a,[])/\h=a))) ((a<=x.1.1/\x.1.1<=x.1.1/\(↑(24:Nat):Int)*x.1.1<=281474976710656/\x.1.1<=9223372036854775807)/\∃(I:FC->Prop),∃(l: _->Nat),I (a,List.replicate x.1.1.toNat [],())/\∀(p:FC),let f:=(gx [] x.1.2.2 p.1);let c:=(x.1.1,x.2.1.2.1,p.2.1);(Ty.int i64).wf p.1/\Kj p.2.1/\True->I p->(iB (decide (p.1<d)) ((a<=p.1/\p.1<d)/\(ER K0 f/\S4 K0 x.2.1/\A7 x.2.1/\F1 f x.2.1.1/\x.2.1.1<=1000)/\SP λr=>let b:=(i64.wrap (p.1+g),List.set p.2.1 p.1.toNat r.1,());IT (fun(j:Int)=>V8 f fun(k:Int)=>A4 (List.getD x.2.1.2.2 k.toNat []) j) r.1->(a<=p.1/\p.1<(p.2.1.length:Int))/\I b/\l b<l p) ((¬e->c=zm/\a=g)/\(A7 x.1/\A7 x.2.1->(x.1.2.1≠x.2.1.1->c=zm/\a=h)/\(x.1.2.1=x.2.1.1->Ed x.1.1.toNat x.2.1.2.1.toNat (fun(i j:Nat)=>B7 x.1.2.1.toNat fun(k:Nat)=>el x.1 i k*el x.2.1 k j) c/\a=a))))))))
noncomputable def FA:G2:= []
def EC:An:= {}
def MW:An:= {loop:= [(10,⟨[1,2,3,6,9,51,52],[0,1],[(53,false,vI)],[],[(2, .map false qb false qg)]⟩),(23,⟨[3,6,9,12,13,17,72,73,74,83,84,85,92,93],[0,1,2,4,5,7],[(15,false,[.own tE 105]),(94,false,vI)],[],[]⟩),(20,⟨[3,6,9,12,13,72,73,74,83,84],[0,1,2,4,5],[(15,false,[.own tE 105]),(85,false,vI)],[],[]⟩),(16,⟨[3,6,9,12,72,73],[0,1,2,5],[(74,false,vI)],[],[(4, .rows tE 49 105)]⟩)]}
noncomputable def PD:G2:= [(52,J6),(74,P4),(94,U5),(96,V7 (B0h prog [(false, .int .i64)] false .bool (.int .i64) (λn x=>decide (x.1<0\/n<=x.1)))),(98,F9),(100,V7 (TT 101 tE 105 (λa b=>M7 a.1 b.1))),(99,V7 (Lk ⟨prog,YU⟩ [(71,FA,EC)] f99.results.toList (f99.body.getD .skip) f99.ntmps))]
def Yh:An:= {}
def Hj:An:= {}
def Jp:An:= {loop:= [(2,⟨[0,1,7],[],[(8,false,vI)],[],[]⟩)]}
abbrev C4r:=Int×List (Int×Wf)×Unit
def Sw(x:MM×Wf×Wf×Unit):Prop:=let D:=(140737488355328:Nat);let w:=(8:Int);let v:=(3:Int);let s:=(1:Int);let q:=(fun(x:D8)=>True,fun(z:D8)=>decide (z.1<(0:(Ty.int i64).den)\/x.1.1<=z.1));let o:=(fun(x:D8)=>True,fun(z:D8)=>decide (z.1<(0:(Ty.int i64).den)\/x.1.2.1<=z.1));let n:=(16384:Nat);let m:=(x.2.2.1.length:Int);let k:=(x.2.1.length:Int);let h:=(0:Int);let c:Prop:=((∃(i:Int),i∈x.2.1/\(i<h\/x.1.1<=i))\/∃(i:Int),i∈x.2.2.1/\(i<h\/x.1.2.1<=i));True/\Od λr=>r.1=decide (A7 x.1)->(iB ((!r.1)) ((¬A7 x.1->(h,h,[])=zm/\s=s)/\(A7 x.1->(c->(h,h,[])=zm/\s=v)/\(¬c->(n<x.2.1.length\/n<x.2.2.1.length->(h,h,[])=zm/\s=w)/\(x.2.1.length<=n/\x.2.2.1.length<=n->Ed x.2.1.length x.2.2.1.length (fun(i j:Nat)=>el x.1 (x.2.1.getD i h).toNat (x.2.2.1.getD j h).toNat) (h,h,[])/\s=h)))) (Go.Proofs.Tryz.prog=Go.Proofs.Tryz.prog/\false=false/\(∀(i:Int),i∈x.2.1->q.1 (i,()))/\Od λJ=>J.1=decide (∃(i:Int),i∈x.2.1/\q.2 (i,())=true)->Go.Proofs.Tryz.prog=Go.Proofs.Tryz.prog/\false=false/\(J.1=false->∀(i:Int),i∈x.2.2.1->o.1 (i,()))/\∀(L:Ax),(J.1=false->(True/\True)/\L.1=decide (∃(i:Int),i∈x.2.2.1/\o.2 (i,())=true))->(iB (M0 J.1 true L.1) ((¬A7 x.1->(h,h,[])=zm/\v=s)/\(A7 x.1->(c->(h,h,[])=zm/\v=v)/\(¬c->(n<x.2.1.length\/n<x.2.2.1.length->(h,h,[])=zm/\v=w)/\(x.2.1.length<=n/\x.2.2.1.length<=n->Ed x.2.1.length x.2.2.1.length (fun(i j:Nat)=>el x.1 (x.2.1.getD i h).toNat (x.2.2.1.getD j h).toNat) (h,h,[])/\v=h)))) (True/\Od λK=>K.1=decide (h<=k/\k<=(16384:Int))->((!K.1)=false->True)/\∀(M:Ax),((!K.1)=false->(True/\True)/\M.1=decide (h<=m/\m<=(16384:Int)))->(iB ((M0 (!K.1) true !M.1)) ((¬A7 x.1->(h,h,[])=zm/\w=s)/\(A7 x.1->(c->(h,h,[])=zm/\w=v)/\(¬c->(n<x.2.1.length\/n<x.2.2.1.length->(h,h,[])=zm/\w=w)/\(x.2.1.length<=n/\x.2.2.1.length<=n->Ed x.2.1.length x.2.2.1.length (fun(i j:Nat)=>el x.1 (x.2.1.getD i h).toNat (x.2.2.1.getD j h).toNat) (h,h,[])/\w=h)))) (∃(I:C4r->Prop),∃(a: _->Nat),I (h,[],())/\∀(p:C4r),let C:=(gx h x.2.2.1 p.1);let t:=(i64.wrap (p.1+s),Ej (Ty.int i64) C [p.1] p.2.1,());let f:Prop:=(p.1<m);(Ty.int i64).wf p.1/\(∀(x:Int×Wf),x∈p.2.1->N8 x.1/\aD x.2)/\True->I p->(iB (decide f) ((h<=p.1/\f)/\I6 (Ty.int i64) C p.2.1=Option.none/\(((0:Nat)+ [p.1].length)*(8:Nat)<=D/\(0:Nat)+ [p.1].length<=9223372036854775807)/\I t/\a t<a p) ((h<=k/\k<=k/\(↑(24:Nat):Int)*k<=(281474976710656:Int)/\k<=(9223372036854775807:Int))/\∃(I:FC->Prop),∃(a: _->Nat),I (h,List.replicate k.toNat [],())/\∀(G:FC),let B:=(gx [] x.1.2.2 (gx h x.2.1 G.1));let y:=(k,m,G.2.1);let g:Prop:=(G.1<k);(Ty.int i64).wf G.1/\Kj G.2.1/\True->I G->(iB (decide g) ((h<=G.1/\g)/\(h<=gx h x.2.1 G.1/\gx h x.2.1 G.1<(x.1.2.2.length:Int))/\∃(I_1:Xr->Prop),∃(f: _->Nat),I_1 ([],h,())/\∀(H:Xr),let l:=(gx D7 B H.2.1);let e:Prop:=(H.2.1<(↑B.length:Int));tE.sl.wf H.1/\(Ty.int i64).wf H.2.1/\True->I_1 H->(iB (decide e) ((h<=H.2.1/\e)/\∃(I:Xr->Prop),∃(a: _->Nat),I (H.1,h,())/\∀(F:Xr),let A:=(F.1,i64.wrap (H.2.1+s),());let d:Prop:=(F.2.1<(↑((I6 (Ty.int i64) l.1 p.2.1).getD []).length:Int));tE.sl.wf F.1/\(Ty.int i64).wf F.2.1/\True->I F->(iB (decide d) ((h<=F.2.1/\d)/\N6 l.2/\P6 λr=>r.1=rc (rv l.2)->((F.1.length+ [(gx h ((I6 (Ty.int i64) l.1 p.2.1).getD []) F.2.1,r.1)].length)*(64:Nat)<=D/\F.1.length+ [(gx h ((I6 (Ty.int i64) l.1 p.2.1).getD []) F.2.1,r.1)].length<=9223372036854775807)/\I (F.1++ [(gx h ((I6 (Ty.int i64) l.1 p.2.1).getD []) F.2.1,r.1)],i64.wrap (F.2.1+s),())/\a (F.1++ [(gx h ((I6 (Ty.int i64) l.1 p.2.1).getD []) F.2.1,r.1)],i64.wrap (F.2.1+s),())<a F) (I_1 A/\f A<f H))) (H.1.length<=(100000:Nat)/\∀(b:List EE),let u:=(i64.wrap (G.1+s),List.set G.2.1 G.1.toNat b,());tE.sl.wf b->b.Perm H.1->List.Pairwise (fun(d f:Int×(Bool×Wf)×Wf)=>¬M7 f.1 d.1<h) b->(h<=G.1/\G.1<(G.2.1.length:Int))/\I u/\a u<a G))) ((¬A7 x.1->y=zm/\h=s)/\(A7 x.1->(c->y=zm/\h=v)/\(¬c->(n<x.2.1.length\/n<x.2.2.1.length->y=zm/\h=w)/\(x.2.1.length<=n/\x.2.2.1.length<=n->Ed x.2.1.length x.2.2.1.length (fun(i j:Nat)=>el x.1 (x.2.1.getD i h).toNat (x.2.2.1.getD j h).toNat) y/\h=h)))))))))))))
def Jm(x:Cr):Prop:=M0 (decide (x.1<0)) true (decide (x.2.1<=x.1))=decide (x.1<0\/x.2.1<=x.1)
def Y5(x:Wf×((Int×Unit->Prop)×(Int×Unit->Bool))×Unit):Prop:=let a:=(x.2.1.1,fun(z:D8)=>x.2.1.2 z);Go.Proofs.Tryz.prog=Go.Proofs.Tryz.prog/\false=false/\(∀(i:Int),i∈x.1->a.1 (i,()))/\Ef λr=>r.1=mL (fun(i:Int)=>a.2 (i,())) x.1->decide (0<=r.1)=decide (∃(i:Int),i∈x.1/\x.2.1.2 (i,())=true)
def Cc(x:Wf×((Int×Unit->Prop)×(Int×Unit->Bool))×Unit):Prop:=let b:=(x.1.length:Int);∃(I:D8->Prop),∃(d: _->Nat),I ((0:Int),())/\∀(p:D8),let c:=(i64.wrap (p.1+1),());let a:=(gx (0:Int) x.1 p.1,());(Ty.int i64).wf p.1/\True->I p->(iB (decide (p.1<b)) ((0<=p.1/\p.1<b)/\Go.Proofs.Tryz.prog=Go.Proofs.Tryz.prog/\x.2.1.1 a/\(Ty.bool.wf (x.2.1.2 a)->(iB (x.2.1.2 a) (p.1=mL (fun(i:Int)=>x.2.1.2 (i,())) x.1) (I c/\d c<d p)))) ((-1:Int)=mL (fun(i:Int)=>x.2.1.2 (i,())) x.1))
def JF:An:= {}
def RO:An:= {loop:= [(4,⟨[1,24,25],[0],[(26,false,vI)],[],[]⟩)]}
noncomputable def OZ:G2:= []
def MS:An:= {}
def aL:An:= {loop:= [(7,⟨[4,5,6,8,39,40],[1,2,3,6],[(41,false,vI)],[],[(5, .row qd 49)]⟩)],plan:= [(9,[1,4,6,9],[12],true, .done)]}
noncomputable def bF:G2:= [(52,J6),(110,N0),(99,V7 (Lk ⟨prog,tys⟩ [(37,OZ,MS)] f99.results.toList (f99.body.getD .skip) f99.ntmps))]
noncomputable def Vh:G2:= []
def Tp:An:= {}
def ED:An:= {loop:= [(8,⟨[2,4,5,19,20,21,26,27],[1,4],[(28,false,vI)],[],[(3, .rows tE 49 105)]⟩),(5,⟨[2,4,19,20],[1,4],[(21,false,vI)],[],[(3, .rows tE 49 105)]⟩)],plan:= [(10,[5,7,9,12],[16,18],false, .done)]}
noncomputable def FB:G2:= [(52,J6),(74,P4),(99,V7 (Lk ⟨prog,YU⟩ [(17,Vh,Tp)] f99.results.toList (f99.body.getD .skip) f99.ntmps))]
def Oo(x:D8):Prop:=M0 (decide (0<=x.1)) (decide (x.1<=16384)) false=decide (0<=x.1/\x.1<=16384)
def We(x:Vl):Prop:=let d:=(0:Int);let a:=(x.1.2.2.length:Int);let f:=(decide (a≠x.1.1));True/\Od λr=>r.1=decide (d<=x.1.1/\x.1.1<=16384)->((!r.1)=false->True)/\∀(e:Ax),((!r.1)=false->(True/\True)/\e.1=decide (d<=x.1.2.1/\x.1.2.1<=16384))->(iB (M0 (M0 (!r.1) true !e.1) true f) (false=decide (A7 x.1)) (∃(I:D8->Prop),∃(c: _->Nat),I (d,())/\∀(p:D8),let b:=(i64.wrap (p.1+1),());(Ty.int i64).wf p.1/\True->I p->(iB (decide (p.1<a)) ((d<=p.1/\p.1<a)/\True/\Od λr=>r.1=decide (F1 (gx [] x.1.2.2 p.1) x.1.2.1)->(iB ((!r.1)) (false=decide (A7 x.1)) (I b/\c b<c p))) (true=decide (A7 x.1)))))
def GH(x:C2b):Prop:=let l:=(4:Int);let k:=(1:Int);let f:=(0:Int);let e:Prop:=(x.1.1≠x.2.2.1.1);let d:Prop:=(x.1.2.1≠x.2.2.1.2.1);let c:Prop:=(A7 x.1/\A7 x.2.2.1);let a:Prop:=(x.1.1=x.2.2.1.1/\x.1.2.1=x.2.2.1.2.1);True/\Od λr=>r.1=decide (A7 x.1)->((!r.1)=false->True)/\∀(o:Ax),((!r.1)=false->(True/\True)/\o.1=decide (A7 x.2.2.1))->(iB ((M0 (!r.1) true !o.1)) ((¬c->(f,f,[])=zm/\k=k)/\(A7 x.1/\A7 x.2.2.1->(¬a->(f,f,[])=zm/\k=l)/\(x.1.1=x.2.2.1.1/\x.1.2.1=x.2.2.1.2.1->Ed x.1.1.toNat x.1.2.1.toNat (fun(i j:Nat)=>el x.1 i j+rv x.2.1*el x.2.2.1 i j) (f,f,[])/\k=f))) ((iB (M0 (decide e) true (decide d)) ((¬c->(f,f,[])=zm/\l=k)/\(A7 x.1/\A7 x.2.2.1->(¬a->(f,f,[])=zm/\l=l)/\(x.1.1=x.2.2.1.1/\x.1.2.1=x.2.2.1.2.1->Ed x.1.1.toNat x.1.2.1.toNat (fun(i j:Nat)=>el x.1 i j+rv x.2.1*el x.2.2.1 i j) (f,f,[])/\l=f))) ((f<=x.1.1/\x.1.1<=x.1.1/\(↑(24:Nat):Int)*x.1.1<=281474976710656/\x.1.1<=9223372036854775807)/\∃(I:FC->Prop),∃(d: _->Nat),I (f,List.replicate x.1.1.toNat [],())/\∀(p:FC),let n:=(gx [] x.1.2.2 p.1);let m:=(gx [] x.2.2.1.2.2 p.1);let h:=(x.1.1,x.1.2.1,p.2.1);let b:Prop:=(p.1<(x.1.2.2.length:Int));(Ty.int i64).wf p.1/\Kj p.2.1/\True->I p->(iB (decide b) ((f<=p.1/\b)/\(f<=p.1/\p.1<(x.2.2.1.2.2.length:Int))/\(ER K1 n/\sz K1 x.2.1/\ER K1 m)/\SP λr=>let g:=(i64.wrap (p.1+k),List.set p.2.1 p.1.toNat r.1,());IT (fun(i:Int)=>A4 n i+rv x.2.1*A4 m i) r.1->(f<=p.1/\p.1<(p.2.1.length:Int))/\I g/\d g<d p) ((¬c->h=zm/\f=k)/\(A7 x.1/\A7 x.2.2.1->(¬a->h=zm/\f=l)/\(x.1.1=x.2.2.1.1/\x.1.2.1=x.2.2.1.2.1->Ed x.1.1.toNat x.1.2.1.toNat (fun(i j:Nat)=>el x.1 i j+rv x.2.1*el x.2.2.1 i j) h/\f=f))))))))
def Ka(x:Vl):Prop:=let A:=(140737488355328:Nat);let o:=(1:Int);let m:=(0:Int);True/\Od λr=>r.1=decide (A7 x.1)->(iB ((!r.1)) ((¬A7 x.1->(m,m,[])=zm/\o=o)/\(A7 x.1->Ed x.1.2.1.toNat x.1.1.toNat (fun(i j:Nat)=>el x.1 j i) (m,m,[])/\o=m)) ((m<=x.1.2.1/\x.1.2.1<=x.1.2.1/\(↑(24:Nat):Int)*x.1.2.1<=281474976710656/\x.1.2.1<=9223372036854775807)/\∃(I:FC->Prop),∃(k: _->Nat),I (m,List.replicate x.1.2.1.toNat [],())/\∀(p:FC),let y:=(gx [] x.1.2.2 p.1);let w:=(x.1.2.1,x.1.1,p.2.1);let f:Prop:=(p.1<(x.1.2.2.length:Int));(Ty.int i64).wf p.1/\Kj p.2.1/\True->I p->(iB (decide f) ((m<=p.1/\f)/\∃(I_1:FC->Prop),∃(b: _->Nat),I_1 (m,p.2.1,())/\∀(B:FC),let v:=(i64.wrap (p.1+o),B.2.1,());let g:=(gx D7 y B.1);let h:=g.1.toNat;let n:=(List.getD B.2.1 h []);let e:Prop:=(B.1<(↑y.length:Int));let f:(F5)->Prop:=(λr=>(n.length+ [(p.1,r.1)].length)*(64:Nat)<=A/\n.length+ [(p.1,r.1)].length<=9223372036854775807);let c:Prop:=(m<=g.1/\g.1<(B.2.1.length:Int));let a:(F5)->Prop:=(λr=>let z:=(p.1,r.1);let q:=(List.getD B.2.1 h []++ [z]);let s:=(i64.wrap (B.1+o),List.set B.2.1 h q,());((n.length+ [z].length)*(64:Nat)<=A/\n.length+ [z].length<=9223372036854775807)/\c/\Int.toNat g.1=Int.toNat g.1/\I_1 s/\b s<b B);let d:Prop:=((N6 g.2/\P6 λr=>r.1=rc (rv g.2)->a r)/\N6 g.2/\P6 λr=>let t:=(List.getD B.2.1 h []++ [(p.1,r.1)]);let u:=(i64.wrap (B.1+o),List.set B.2.1 h t,());r.1=rc (rv g.2)->(a r)/\(a r)/\(f r)/\c/\Int.toNat g.1=Int.toNat g.1/\I_1 u/\b u<b B);(Ty.int i64).wf B.1/\Kj B.2.1/\True->I_1 B->(iB (decide e) ((m<=B.1/\e)/\c/\d/\d/\N6 g.2/\P6 λr=>let d:=(List.getD B.2.1 h []++ [(p.1,r.1)]);let l:=(i64.wrap (B.1+o),List.set B.2.1 h d,());r.1=rc (rv g.2)->((a r)/\(a r)/\a r)/\((a r)/\(a r)/\a r)/\((a r)/\a r)/\((a r)/\a r)/\(f r)/\(c/\Int.toNat g.1=Int.toNat g.1/\I_1 l/\b l<b B)/\c/\Int.toNat g.1=Int.toNat g.1/\I_1 l/\b l<b B) (I v/\k v<k p))) ((¬A7 x.1->w=zm/\m=o)/\(A7 x.1->Ed x.1.2.1.toNat x.1.1.toNat (fun(i j:Nat)=>el x.1 j i) w/\m=m)))))
def pV:An:= {join:= [(4,⟨[0,1,4,5,6],[0],[],[(1,58,[.val .bool, .val qa, .val qa])],[]⟩)],loop:= [(3,⟨[0,1,4,5],[0],[(6,false,vI)],[(1,58,[.val .bool, .val qa, .val qa])],[]⟩)],plan:= [(6,[0,5],[7],true, .done)]}
def UV:An:= {join:= [(7,⟨[5,6,9,10,11],[],[(3,false,[.own qb 3])],[],[]⟩)],loop:= [(9,⟨[3,5,6,9,10,11],[1],[(7,false,vI)],[],[]⟩),(6,⟨[5,9,10,11],[],[(3,false,[.own qb 3]),(6,false,vI)],[],[]⟩),(3,⟨[9,10],[],[(3,false,[.own qb 3]),(11,false,vI)],[],[]⟩)],plan:= [(9,[8,13],[],true, .done),(11,[8,13],[],true, .done)]}
def kN:An:= {join:= [(8,⟨[0,9,10,11],[],[(3,false,[.own tE 105])],[],[]⟩)],loop:= [(3,⟨[0,9,10],[],[(3,false,[.own tE 105]),(11,false,vI)],[],[]⟩)]}
def MZ:An:= {loop:= [(4,⟨[0,1],[],[(5,false,vI)],[],[]⟩)],plan:= [(6,[4,9,16,25,30],[],false, .done)]}
def fI:An:= {loop:= [(2,⟨[0,1],[],[(5,false,vI)],[],[]⟩)],plan:= [(4,[4,11,23,29,38],[],true, .done)]}
def MY:An:= {loop:= [(3,⟨[0],[],[(3,false,[.own tE 105]),(4,false,vI)],[],[]⟩)]}
def fH:An:= {loop:= [(5,⟨[0,1,6],[],[(7,false,vI)],[],[(0, .row tQ 58)]⟩)]}
abbrev A7r:=Bool×Wf×Wf×Unit
abbrev B7z:=Int×Bool×Wf×Wf×Unit
def ZY(x:Xr):Prop:=let b:=(x.1.length:Int);True/\P6 λr=>r.1=rc (0:Rat)->∃(I:B7z->Prop),∃(g: _->Nat),I ((0:Int),r.1.1.1,r.1.1.2,r.1.2,())/\∀(p:B7z),let e:Prop:=(0<=p.1/\p.1<b);let d:=(gx D7 x.1 p.1);let a:=((p.2.1,p.2.2.1),p.2.2.2.1);(Ty.int i64).wf p.1/\Ty.bool.wf p.2.1/\(Ty.int u32).sl.wf p.2.2.1/\(Ty.int u32).sl.wf p.2.2.2.1/\True->I p->(iB (decide (p.1<b)) (∃(J:A7r->Prop),(e/\(iB (decide (d.1=x.2.1)) (e/\(N6 a/\N6 d.2)/\P6 λr=>r.1=rc (rv a+rv d.2)->J (r.1.1.1,r.1.1.2,r.1.2,())) (J (p.2.1,p.2.2.1,p.2.2.2.1,()))))/\∀(f:A7r),let c:=(i64.wrap (p.1+1),f.1,f.2.1,f.2.2.1,());Ty.bool.wf f.1/\(Ty.int u32).sl.wf f.2.1/\(Ty.int u32).sl.wf f.2.2.1/\True->J f->I c/\g c<g p) (a=rc (A4 x.1 x.2.1)))
abbrev C1y:=List (List EE)×Unit
abbrev Mp:=Wf×Unit
def BL(x:C1y):Prop:=let s:=(140737488355328:Nat);let m:=(0:Int);let n:=m.toNat;∃(I:HZ->Prop),∃(a: _->Nat),I ([],m,())/\∀(p:HZ),let r:=(gx [] x.1 p.2.1);let f:Prop:=(p.2.1<(x.1.length:Int));(Ty.int i64).sl.wf p.1/\(Ty.int i64).wf p.2.1/\True->I p->(iB (decide f) ((m<=p.2.1/\f)/\∃(I_1:HZ->Prop),∃(d: _->Nat),I_1 (p.1,m,())/\∀(w:HZ),let q:=(w.1,i64.wrap (p.2.1+1),());let l:=(↑w.1.length:Int);let j:=(gx D7 r w.2.1);let h:Prop:=(w.2.1<(↑r.length:Int));let c:Prop:=(m<=w.2.1/\w.2.1<(↑r.length:Int));(Ty.int i64).sl.wf w.1/\(Ty.int i64).wf w.2.1/\True->I_1 w->(iB (decide h) (∃(J:Mp->Prop),(∃(I:D8->Prop),∃(a: _->Nat),I (m,())/\∀(y:D8),let t:=(i64.wrap (y.1+1),());let k:=y.1.toNat;let h:Prop:=(w.1.getD k m=j.1);let f:Prop:=(w.1.getD k m<j.1);let b:Prop:=(y.1<l);let u:=(decide b);let g:Prop:=(decide b=true->m<=y.1/\y.1<l);(Ty.int i64).wf y.1/\True->I y->g/\(decide b=true->c)/\(iB (M0 u (decide f) false) (I t/\a t<a y) (g/\(decide b=true->c)/\(iB (M0 u (decide h) false) (J (w.1,())) ((m<=m/\m<=y.1/\y.1<=l)/\(((0:Nat)+(List.drop n (List.take k w.1)).length)*(8:Nat)<=s/\(0:Nat)+(List.drop n (List.take k w.1)).length<=9223372036854775807)/\c/\(((List.drop n (List.take k w.1)).length+ [j.1].length)*(8:Nat)<=s/\(List.drop n (List.take k w.1)).length+ [j.1].length<=9223372036854775807)/\(m<=y.1/\y.1<=l/\l<=l)/\(((List.drop n (List.take k w.1)++ [j.1]).length+(List.drop k (List.take l.toNat w.1)).length)*(8:Nat)<=s/\(List.drop n (List.take k w.1)++ [j.1]).length+(List.drop k (List.take l.toNat w.1)).length<=9223372036854775807)/\J (List.drop n (List.take k w.1)++ [j.1]++List.drop k (List.take l.toNat w.1),()))))))/\∀(p:Mp),let o:=(p.1,i64.wrap (w.2.1+1),());(Ty.int i64).sl.wf p.1/\True->J p->I_1 o/\d o<d w) (I q/\a q<a p))) (List.Pairwise (fun(b c:Int)=>b<c) p.1/\∀(i:Int),i∈p.1↔∃(v:List EE),v∈x.1/\∃(e:EE),e∈v/\e.1=i))
def RB(x:Qc):Prop:=let d:=(0:Int);([x.1].length<=(4:Nat)/\∀(v:List EE),v∈ [x.1]->v.length<=(100000:Nat))/\∀(r:Mp),let b:=(r.1.length:Int);aD r.1/\True->(List.Pairwise (fun(a c:Int)=>a<c) r.1/\∀(i:Int),i∈r.1↔∃(v:List EE),v∈ [x.1]/\∃(e:EE),e∈v/\e.1=i)->∃(I:Xr->Prop),∃(j: _->Nat),I ([],d,())/\∀(p:Xr),tE.sl.wf p.1/\(Ty.int i64).wf p.2.1/\True->I p->(iB (decide (p.2.1<b)) (∃(J:Qc->Prop),((d<=p.2.1/\p.2.1<b)/\Jw x.1/\P6 λf=>let a:=(gx d r.1 p.2.1,f.1);f.1=rc (A4 x.1 (gx d r.1 p.2.1))->N6 f.1/\Ef λh=>h.1=(rv f.1).num.sign->(iB (decide (h.1≠d)) (((p.1.length+ [a].length)*(64:Nat)<=(140737488355328:Nat)/\p.1.length+ [a].length<=9223372036854775807)/\J (p.1++ [a],())) (J (p.1,()))))/\∀(g:Qc),let c:=(g.1,i64.wrap (p.2.1+1),());tE.sl.wf g.1/\True->J g->I c/\j c<j p) (U8 p.1/\∀(i:Int),A4 p.1 i=A4 x.1 i))
def Ta(x:List EE×List EE×Unit):Prop:=let i:=(0:Int);let d:=(x.2.1.length:Int);let c:Prop:=(x.1=x.2.1/\∀(e:EE),e∈x.1->e.2=rc (rv e.2));let b:=(x.1.length:Int);(iB (decide (b≠d)) (false=decide c) (∃(I:D8->Prop),∃(l: _->Nat),I (i,())/\∀(p:D8),let j:=(gx D7 x.2.1 p.1);let h:=(i64.wrap (p.1+1),());let f:=(gx D7 x.1 p.1);let a:Prop:=(f.1≠j.1);let g:=(decide a);(Ty.int i64).wf p.1/\True->I p->(iB (decide (p.1<b)) ((i<=p.1/\p.1<b)/\(i<=p.1/\p.1<d)/\(decide a=false->i<=p.1/\p.1<b)/\(decide a=false->N6 f.2)/\∀(r:Ax),(decide a=false->(True/\True)/\r.1=decide (f.2=rc (rv f.2)))->((M0 g true !r.1)=false->i<=p.1/\p.1<b)/\((M0 g true !r.1)=false->i<=p.1/\p.1<d)/\((M0 g true !r.1)=false->True)/\∀(k:Ax),((M0 g true !r.1)=false->(True/\True)/\k.1=decide (f.2=j.2))->(iB ((M0 (M0 g true !r.1) true !k.1)) (false=decide c) (I h/\l h<l p))) (true=decide c))))
def MF(x:Xr):Prop:=let i:=(1:Int);let e:=(0:Int);let c:=(x.1.length:Int);∃(I:D8->Prop),∃(j: _->Nat),I (e,())/\∀(p:D8),let g:=(i64.wrap (p.1+i),());let d:=(gx D7 x.1 p.1);let h:=(decide (d.1<e));let f:=(decide (x.2.1<=d.1));let b:=(M0 h true f);let a:=(M0 (decide (e<p.1)) (decide (d.1<=(gx D7 x.1 (i64.wrap (p.1-i))).1)) false);(Ty.int i64).wf p.1/\True->I p->(iB (decide (p.1<c)) ((e<=p.1/\p.1<c)/\(decide (d.1<e)=false->e<=p.1/\p.1<c)/\(decide (e<p.1)=true/\M0 h true f=false->e<=p.1/\p.1<c)/\(decide (e<p.1)=true/\M0 h true f=false->e<=i64.wrap (p.1-i)/\i64.wrap (p.1-i)<c)/\(M0 b true a=false->e<=p.1/\p.1<c)/\(M0 b true a=false->N6 d.2)/\∀(r:D8),(M0 b true a=false->(N8 r.1/\True)/\r.1=(rv d.2).num.sign)->(iB (M0 (M0 b true a) true (decide (r.1=e))) (false=decide (F1 x.1 x.2.1)) (I g/\j g<j p))) (true=decide (F1 x.1 x.2.1)))
def Sz(x:List QQ×Unit):Prop:=let c:=(x.1.length:Int);∃(I:Xr->Prop),∃(d: _->Nat),I ([],(0:Int),())/\∀(p:Xr),let a:=(p.2.1,gx dQ x.1 p.2.1);let b:=(p.1++ [a],i64.wrap (p.2.1+1),());tE.sl.wf p.1/\(Ty.int i64).wf p.2.1/\True->I p->(iB (decide (p.2.1<c)) ((0<=p.2.1/\p.2.1<c)/\((p.1.length+ [a].length)*(64:Nat)<=(140737488355328:Nat)/\p.1.length+ [a].length<=9223372036854775807)/\I b/\d b<d p) (Jw p.1/\SP λr=>IT (A4 p.1) r.1->U8 r.1/\(∀(e:C8),e∈r.1->0<=e.1/\e.1<(↑x.1.length:Int))/\∀(j:Nat),j<x.1.length->A4 r.1 (↑j:Int)=rv (x.1.getD j zr)))
abbrev oS:=Int×List QQ×Unit
def MD(x:Xr):Prop:=let d:=(0:Int);let b:=(decide (x.2.1<d));let a:=(decide (16384<x.2.1));(M0 b true a=false->Jw x.1)/\∀(r:Qc),(M0 b true a=false->(IY r.1/\True)/\IT (A4 x.1) r.1)->(M0 b true a=false->LE K1 r.1)/\∀(e:Ax),(M0 b true a=false->(True/\True)/\e.1=decide (F1 r.1 x.2.1))->(iB ((M0 (M0 b true a) true !e.1)) (Ps QQ=dl x.2.1 (A4 x.1)/\false=true) ((d<=x.2.1/\x.2.1<=x.2.1/\(↑(56:Nat):Int)*x.2.1<=281474976710656/\x.2.1<=9223372036854775807)/\∃(I:oS->Prop),∃(f: _->Nat),I (d,List.replicate x.2.1.toNat dQ,())/\∀(p:oS),(Ty.int i64).wf p.1/\WfL p.2.1/\True->I p->(iB (decide (p.1<x.2.1)) (Jw x.1/\P6 λr=>let c:=(i64.wrap (p.1+1),List.set p.2.1 p.1.toNat r.1,());r.1=rc (A4 x.1 p.1)->(d<=p.1/\p.1<(p.2.1.length:Int))/\I c/\f c<f p) (p.2.1=dl x.2.1 (A4 x.1)/\true=true))))
def EL:An:= {loop:= [(2,⟨[0],[],[(3,false,vI)],[],[]⟩)],plan:= [(4,[5,10],[],true, .done)]}
def SD:An:= {join:= [(13,⟨[2,7,9,10],[1],[(0,false,[.val qd]),(1,false,[.val qd]),(8,false,vI)],[(2,58,[.val .bool, .val qa, .val qa]),(3,58,[.val .bool, .val qa, .val qa])],[]⟩)],loop:= [(2,⟨[2],[],[(0,false,[.val qd]),(1,false,[.val qd]),(7,false,[.own tE 105])],[],[]⟩)],plan:= [(5,[11,15],[],true, .done),(6,[3,7],[9],true, .done),(11,[3,7],[9],true, .done)]}
def SC:An:= {loop:= [(4,⟨[1,10,11],[],[(12,false,vI)],[],[]⟩)]}
def NE:An:= {}
def UW:An:= {}
def aQ:An:= {join:= [(7,⟨[1,4,5,9,10,11],[0],[],[(1,58,[.val .bool, .val qa, .val qa])],[]⟩)],loop:= [(3,⟨[1,4,5,9,10],[0],[(11,false,vI)],[(1,58,[.val .bool, .val qa, .val qa])],[]⟩)]}
def EK:An:= {join:= [(7,⟨[6,7,8],[],[(3,false,[.own tE 105])],[],[]⟩)],loop:= [(3,⟨[6,7],[],[(3,false,[.own tE 105]),(8,false,vI)],[],[]⟩)]}
def SA:An:= {join:= [(14,⟨[7,41,42],[],[(6,false,[.val qd])],[],[(1, .row tQ 58)]⟩)],loop:= [(8,⟨[7,41],[],[(6,false,[.val qd]),(42,false,vI)],[],[(1, .row tQ 58)]⟩)]}
def Xb:An:= {plan:= [(3,[0,1,2],[5],true, .done)]}
def EJ:An:= {}
def Qq:An:= {loop:= [(3,⟨[0,3,9,10],[],[(11,false,vI)],[],[(0, .row .bool 4)]⟩)]}
def Kg(x:Qc):Prop:=let d:=(1:Int);let a:=(x.1.length:Int);∃(I:D8->Prop),∃(b: _->Nat),I (d,())/\∀(p:D8),let c:=(i64.wrap (p.1+d),());let f:Prop:=((gx D7 x.1 p.1).1<=(gx D7 x.1 (i64.wrap (p.1-d))).1);(Ty.int i64).wf p.1/\True->I p->(iB (decide (p.1<a)) (((0:Int)<=i64.wrap (p.1-d)/\i64.wrap (p.1-d)<a)/\(0<=p.1/\p.1<a)/\(iB (decide f) (false=decide (asc x.1)) (I c/\b c<b p))) (true=decide (asc x.1)))
abbrev C5a:=List EE×List EE×Int×Bool×Wf×Wf×Bool×Wf×Wf×Unit
abbrev C5b:=List EE×List EE×List EE×Unit
def Ws:A3 Dk.args->Prop:=fun(x:List EE×List EE×((QQ×QQ×Unit->Prop)×(QQ×QQ×Unit->(Bool×Wf)×Wf))×Unit)=>let w:=(1:Int);let t:=(x.1.length:Int);let s:=w.toNat;let q:=(x.2.1.length:Int);let j:=(0:Int);(j<=j/\j<=Max.max t q/\(↑(64:Nat):Int)*Max.max t q<=(281474976710656:Int)/\Max.max t q<=(9223372036854775807:Int))/\∃(I:C5b->Prop),∃(a: _->Nat),I (x.1,x.2.1,List.replicate j.toNat D7,())/\∀(p:C5b),let n:=(gx D7 p.1 j);let m:=(gx D7 p.2.1 j);let l:=(p.1.length:Int);let k:=(p.2.1.length:Int);let g:Prop:=(m.1=n.1);let c:Prop:=(n.1<=m.1);let e:Prop:=(j<=j/\j<k);let d:Prop:=(k=j);let f:Prop:=(j<=w/\w<=k/\k<=k);let b:Prop:=(j<l);let y:=(M0 (decide b) (decide c) false);let c:Prop:=(j<k);let z:=(decide c);let h:Prop:=(j<=j/\c);tE.sl.wf p.1/\tE.sl.wf p.2.1/\tE.sl.wf p.2.2.1/\True->I p->(iB (M0 (decide b) true z) (∃(J:C5a->Prop),((decide b=true/\decide d=false->j<=j/\j<l)/\(decide b=true/\decide d=false->e)/\(iB (M0 (decide d) true y) ((j<=j/\b)/\(j<=j/\b)/\(j<=w/\w<=l/\l<=l)/\(decide c=true->e)/\(iB (M0 z (decide g) false) (h/\f/\J (List.drop s (List.take l.toNat p.1),List.drop s (List.take k.toNat p.2.1),n.1,n.2.1.1,n.2.1.2,n.2.2,m.2.1.1,m.2.1.2,m.2.2,())) (J (List.drop s (List.take l.toNat p.1),p.2.1,n.1,n.2.1.1,n.2.1.2,n.2.2,false,[],[],())))) (h/\h/\f/\J (p.1,List.drop s (List.take k.toNat p.2.1),m.1,false,[],[],m.2.1.1,m.2.1.2,m.2.2,()))))/\∀(A:C5a),let v:=(A.1,A.2.1,p.2.2.1,());let i:=(((A.2.2.2.1,A.2.2.2.2.1),A.2.2.2.2.2.1),((A.2.2.2.2.2.2.1,A.2.2.2.2.2.2.2.1),A.2.2.2.2.2.2.2.2.1),());let o:=(A.2.2.1,x.2.2.1.2 i);let u:=(A.1,A.2.1,p.2.2.1++ [o],());tE.sl.wf A.1/\tE.sl.wf A.2.1/\(Ty.int i64).wf A.2.2.1/\Ty.bool.wf A.2.2.2.1/\(Ty.int u32).sl.wf A.2.2.2.2.1/\(Ty.int u32).sl.wf A.2.2.2.2.2.1/\Ty.bool.wf A.2.2.2.2.2.2.1/\(Ty.int u32).sl.wf A.2.2.2.2.2.2.2.1/\(Ty.int u32).sl.wf A.2.2.2.2.2.2.2.2.1/\True->J A->Go.Proofs.Tryz.prog=Go.Proofs.Tryz.prog/\x.2.2.1.1 i/\(tQ.wf (x.2.2.1.2 i)->True/\Ef λr=>r.1=(rv (x.2.2.1.2 i)).num.sign->(iB (decide (r.1≠j)) (((p.2.2.1.length+ [o].length)*(64:Nat)<=(140737488355328:Nat)/\p.2.2.1.length+ [o].length<=9223372036854775807)/\I u/\a u<a p) (I v/\a v<a p)))) (p.2.2.1=I8 x.2.2.1.2 x.1 x.2.1))
def Wr(x:Xr):Prop:=let f:=(0:Int);let d:=(x.1.length:Int);True/\Od λr=>r.1=decide (asc x.1)->(iB ((!r.1)) (false=decide (F1 x.1 x.2.1)) (∃(I:D8->Prop),∃(g: _->Nat),I (f,())/\∀(p:D8),let e:=(i64.wrap (p.1+1),());let a:=(gx D7 x.1 p.1);let c:=(decide (a.1<f));let b:=(decide (x.2.1<=a.1));(Ty.int i64).wf p.1/\True->I p->(iB (decide (p.1<d)) ((f<=p.1/\p.1<d)/\(M0 c true b=false->True)/\∀(r:D8),(M0 c true b=false->(N8 r.1/\True)/\r.1=(rv a.2).num.sign)->(iB (M0 (M0 c true b) true (decide (r.1=f))) (false=decide (F1 x.1 x.2.1)) (I e/\g e<g p))) (true=decide (F1 x.1 x.2.1)))))
def Tf(x:Ei):Prop:=N6 x.1/\P6 λr=>r.1=rc (rv x.1)->r.1=rc (rv x.1)
def BO(x:Qc):Prop:=UX x.1/\SP λr=>(asc x.1->r.1=x.1)/\(¬asc x.1->asc r.1/\(∀(j:Int),A4 r.1 j=A4 x.1 j)/\r.1.length<=(20:Nat)/\LE (16777216:Nat) r.1)->∃(c:Ei->Prop),∃(b:Ei->(Bool×Wf)×Wf),(∀(y:Ei),tQ.wf y.1/\tQ.wf y.2.1/\True->c y->N6 y.1/\P6 λz=>z.1=rc (rv y.1)->true=true/\z.1=b y)/\(List.length r.1<=100000/\(0:Nat)<=(100000:Nat)/\∀(u v:D4),(u=zr\/∃(e:EE),e∈r.1/\e.2=u)->(v=zr\/∃(e:EE),e∈ []/\e.2=v)->(c,b).1 (u,v,()))/\SP λa=>a.1=I8 b r.1 []->U8 a.1/\∀(i:Int),A4 a.1 i=A4 x.1 i
def GM(x:Xr):Prop:=let c:=(x.1.length:Int);True/\P6 λr=>r.1=ri (0:Int)->∃(I:B7z->Prop),∃(f: _->Nat),I ((0:Int),r.1.1.1,r.1.1.2,r.1.2,())/\∀(p:B7z),let d:=(gx D7 x.1 p.1);let a:=((p.2.1,p.2.2.1),p.2.2.2.1);(Ty.int i64).wf p.1/\Ty.bool.wf p.2.1/\(Ty.int u32).sl.wf p.2.2.1/\(Ty.int u32).sl.wf p.2.2.2.1/\True->I p->(iB (decide (p.1<c)) (∃(J:A7r->Prop),((0<=p.1/\p.1<c)/\(iB (decide (d.1=x.2.1)) ((N6 a/\N6 d.2)/\P6 λr=>r.1=rc (rv a+rv d.2)->J (r.1.1.1,r.1.1.2,r.1.2,())) (J (p.2.1,p.2.2.1,p.2.2.2.1,()))))/\∀(e:A7r),let b:=(i64.wrap (p.1+1),e.1,e.2.1,e.2.2.1,());Ty.bool.wf e.1/\(Ty.int u32).sl.wf e.2.1/\(Ty.int u32).sl.wf e.2.2.1/\True->J e->I b/\f b<f p) (a=rc (A4 x.1 x.2.1)))
def Kf(x:List QQ×Unit):Prop:=let f:=(0:Int);let a:=(x.1.length:Int);∃(I:Xr->Prop),∃(h: _->Nat),I ([],f,())/\∀(p:Xr),let c:=(gx dQ x.1 p.2.1);tE.sl.wf p.1/\(Ty.int i64).wf p.2.1/\True->I p->(iB (decide (p.2.1<a)) (∃(J:Qc->Prop),((f<=p.2.1/\p.2.1<a)/\True/\Ef λr=>r.1=(rv c).num.sign->(iB (decide (r.1≠f)) (N6 c/\P6 λr=>let d:=(p.2.1,r.1);r.1=rc (rv c)->((p.1.length+ [d].length)*(64:Nat)<=(140737488355328:Nat)/\p.1.length+ [d].length<=9223372036854775807)/\J (p.1++ [d],())) (J (p.1,()))))/\∀(g:Qc),let b:=(g.1,i64.wrap (p.2.1+1),());tE.sl.wf g.1/\True->J g->I b/\h b<h p) (U8 p.1/\(∀(e:C8),e∈p.1->f<=e.1/\e.1<(↑x.1.length:Int))/\∀(j:Nat),j<x.1.length->A4 p.1 (↑j:Int)=rv (x.1.getD j zr)))
abbrev C4z:=List EE×Int×List QQ×Unit
def Wo(x:Xr):Prop:=let n:=(decide (16384<x.2.1));let m:=(1:Int);let i:=(0:Int);let q:=(decide (x.2.1<i));let g:Prop:=(Ps QQ=dl x.2.1 (A4 x.1)/\false=true);(iB (M0 q true n) (g) (Jw x.1/\∀(r:Qc),let j:=(r.1.length:Int);let d:Prop:=(x.2.1<=(List.getD r.1 (i64.wrap (j-m)).toNat D7).1);let c:Prop:=((List.getD r.1 i.toNat D7).1<i);let o:=(M0 (decide c) true (decide d));let a:Prop:=(i<j);IY r.1/\True->IT (A4 x.1) r.1->(decide a=true->i<=i/\i<j)/\(decide c=false/\decide a=true->i<=i64.wrap (j-m)/\i64.wrap (j-m)<j)/\(iB (M0 (decide a) o false) (g) ((i<=x.2.1/\x.2.1<=x.2.1/\(↑(56:Nat):Int)*x.2.1<=281474976710656/\x.2.1<=9223372036854775807)/\∃(I:C4z->Prop),∃(d: _->Nat),I (r.1,i,List.replicate x.2.1.toNat dQ,())/\∀(p:C4z),let k:=(p.1.length:Int);let h:Prop:=((gx D7 p.1 i).1=p.2.1);let f:Prop:=(p.2.1<(↑(List.replicate x.2.1.toNat dQ).length:Int));let e:Prop:=(i<=p.2.1/\p.2.1<(p.2.2.1.length:Int));let b:Prop:=(i<k);tE.sl.wf p.1/\(Ty.int i64).wf p.2.1/\WfL p.2.2.1/\True->I p->(iB (decide f) (∃(J:List EE×List QQ×Unit->Prop),((decide b=true->i<=i/\i<k)/\(iB (M0 (decide b) (decide h) false) ((i<=i/\b)/\e/\(i<=m/\m<=k/\k<=k)/\J (List.drop m.toNat (List.take k.toNat p.1),List.set p.2.2.1 p.2.1.toNat (gx D7 p.1 i).2,())) (True/\P6 λr=>r.1=ri i->e/\J (p.1,List.set p.2.2.1 p.2.1.toNat r.1,()))))/\∀(s:List EE×List QQ×Unit),let l:=(s.1,i64.wrap (p.2.1+m),s.2.1,());tE.sl.wf s.1/\WfL s.2.1/\True->J s->I l/\d l<d p) (p.2.2.1=dl x.2.1 (A4 x.1)/\true=true))))))
def Hv(x:jF):Prop:=let a:=(rv x.1+rv x.2.2.1*rv x.2.1);True/\Ef λr=>r.1=(rv x.2.1).num.sign->(iB (decide (r.1=0)) (N6 x.1/\P6 λr=>r.1=rc (rv x.1)->r.1=rc a) ((N6 x.2.2.1/\N6 x.2.1)/\P6 λr=>r.1=rc (rv x.2.2.1*rv x.2.1)->(N6 x.1/\N6 r.1)/\P6 λb=>b.1=rc (rv x.1+rv r.1)->b.1=rc a))
def Ke(x:List EE×QQ×List EE×Unit):Prop:=UX x.1/\SP λr=>(asc x.1->r.1=x.1)/\(¬asc x.1->asc r.1/\(∀(j:Int),A4 r.1 j=A4 x.1 j)/\r.1.length<=(20:Nat)/\LE (16777216:Nat) r.1)->UX x.2.2.1/\SP λa=>(asc x.2.2.1->a.1=x.2.2.1)/\(¬asc x.2.2.1->asc a.1/\(∀(j:Int),A4 a.1 j=A4 x.2.2.1 j)/\a.1.length<=(20:Nat)/\LE (16777216:Nat) a.1)->∃(d:Ei->Prop),∃(c:Ei->(Bool×Wf)×Wf),(∀(y:Ei),tQ.wf y.1/\tQ.wf y.2.1/\True->d y->(sz K1 y.1/\sz K1 y.2.1/\sz K1 x.2.1)/\P6 λz=>z.1=rc (rv y.1+rv x.2.1*rv y.2.1)->true=true/\z.1=c y)/\(List.length r.1<=100000/\List.length a.1<=100000/\∀(u v:D4),(u=zr\/∃(e:EE),e∈r.1/\e.2=u)->(v=zr\/∃(e:EE),e∈a.1/\e.2=v)->(d,c).1 (u,v,()))/\SP λb=>b.1=I8 c r.1 a.1->U8 b.1/\∀(i:Int),A4 b.1 i=A4 x.1 i+rv x.2.1*A4 x.2.2.1 i
abbrev A7u:=Int×List Bool×Unit
def Fw(x:Mp):Prop:=let i:=(↑x.1.length:Int);let b:=(0:Int);let a:=(x.1.length:Int);(b<=a/\a<=a/\(↑(1:Nat):Int)*a<=(281474976710656:Int)/\a<=(9223372036854775807:Int))/\∃(I:A7u->Prop),∃(d: _->Nat),I (b,List.replicate a.toNat false,())/\∀(p:A7u),let h:=(decide (gx b x.1 p.1<b));let g:=(decide (a<=gx b x.1 p.1));let f:=(p.2.1.length:Int);let e:=(List.getD p.2.1 (gx b x.1 p.1).toNat false);let j:=(M0 h true g);let c:=(i64.wrap (p.1+1),List.set p.2.1 (gx b x.1 p.1).toNat true,());(Ty.int i64).wf p.1/\(List.length p.2.1<=9223372036854775807/\∀(x:Bool),x∈p.2.1->True)/\True->I p->(iB (decide (p.1<a)) ((b<=p.1/\p.1<a)/\(M0 h true g=false->b<=gx b x.1 p.1/\gx b x.1 p.1<f)/\(iB (M0 j true e) (false=decide (K2 x.1 i)) ((b<=gx b x.1 p.1/\gx b x.1 p.1<f)/\I c/\d c<d p))) (true=decide (K2 x.1 i)))
def RR:An:= {plan:= [(13,[0,4],[10],true, .done),(14,[0],[5],true, .done)]}
def RZ:An:= {}
def RX:An:= {}
def RY:An:= {}
def EG:An:= {plan:= [(1,[0,2],[],true, .done),(10,[0,4],[],true, .done)]}
def RV:An:= {}
def RU:An:= {}
def Y6 (P:(Bool×Wf)×Unit->Prop):Prop:=∀r:(Bool×Wf)×Unit,jO r.1/\True->P r
def R0 (P:Wf×Unit->Prop):Prop:=∀r:Wf×Unit,Hi r.1/\True->P r
abbrev jD:=(Bool×Wf)×Wf×Unit
abbrev Xq:=(Bool×Wf)×Unit
def Wi(x:Ei):Prop:=let h:=(0:Nat);let g:=(0:Int);let e:=(rv x.1+rv x.2.1);True/\Ef λr=>r.1=(rv x.1).num.sign->(iB (decide (r.1=g)) (N6 x.2.1/\P6 λr=>r.1=rc (rv x.2.1)->r.1=rc e) (True/\Ef λr=>r.1=(rv x.2.1).num.sign->(iB (decide (r.1=g)) (N6 x.1/\P6 λr=>r.1=rc (rv x.1)->r.1=rc e) (True/\∀(r:oR),N8 r.1/\N8 r.2.1/\True/\True->(K6 x.1->r.1=Rb x.1/\r.2.1=Nj x.1/\r.2.2.1=true)/\(¬K6 x.1->r.2.2.1=false)->True/\∀(m:oR),N8 m.1/\N8 m.2.1/\True/\True->(K6 x.2.1->m.1=Rb x.2.1/\m.2.1=Nj x.2.1/\m.2.2.1=true)/\(¬K6 x.2.1->m.2.2.1=false)->(iB (M0 r.2.2.1 m.2.2.1 false) (g<i64.wrap (r.2.1*m.2.1)/\P6 λj=>j.1=rc (mkRat (i64.wrap (i64.wrap (r.1*m.2.1)+i64.wrap (m.1*r.2.1))) (i64.wrap (r.2.1*m.2.1)).toNat)->j.1=rc e) (True/\∀(r:jD),jO r.1/\Hi r.2.1/\True->(nv x.1.2=h->r.1=zi/\r.2.1= [(1:Int)])/\(nv x.1.2≠h->r.1=x.1.1/\r.2.1=x.1.2)->True/\∀(j:jD),let i:=(iv r.1*iv (false,j.2.1));let f:=(iv j.1*iv (false,r.2.1));let d:Prop:=(N9 r.1.2/\N9 j.2.1);let c:Prop:=(N9 j.1.2/\N9 r.2.1);let a:(Xq)->(Xq)->(Xq)->Prop:=(λl k n=>jO n.1/\True->n.1=ic (iv l.1+iv k.1)->(N9 r.2.1/\N9 j.2.1)/\R0 λo=>o.1=nc (nv r.2.1*nv j.2.1)->(nv o.1≠h/\Ga n.1.2/\Ga o.1)/\P6 λr=>r.1=rc (mkRat (iv n.1) (nv o.1))->r.1=rc e);let b:(Xq)->(Xq)->Prop:=(λl k=>(N9 l.1.2/\N9 k.1.2)/\∀(n:Xq),a l k n);jO j.1/\Hi j.2.1/\True->(nv x.2.1.2=h->j.1=zi/\j.2.1= [(1:Int)])/\(nv x.2.1.2≠h->j.1=x.2.1.1/\j.2.1=x.2.1.2)->True/\Ef λp=>p.1=Da (nv r.2.1) (nv j.2.1)->(iB (decide (p.1=g)) ((N9 r.1.2/\N9 j.1.2)/\Y6 λl=>l.1=ic (iv r.1+iv j.1)->(nv r.2.1≠h/\Ga l.1.2/\Ga r.2.1)/\P6 λk=>k.1=rc (mkRat (iv l.1) (nv r.2.1))->k.1=rc e) ((d/\Y6 λl=>l.1=ic i->(c/\Y6 λk=>k.1=ic f->(b l k)/\(N9 l.1.2/\N9 k.1.2)/\∀(n:Xq),a l k n)/\c/\Y6 λk=>k.1=ic f->b l k)/\d/\Y6 λl=>l.1=ic i->c/\Y6 λk=>k.1=ic f->b l k))))))))
def Wn(x:Ei):Prop:=let a:=((!x.2.1.1.1,x.2.1.1.2),x.2.1.2);(N6 x.1/\N6 a)/\P6 λr=>r.1=rc (rv x.1+rv a)->r.1=rc (rv x.1-rv x.2.1)
def Wl(x:Ei):Prop:=let b:=(rv x.1*rv x.2.1);let a:=(0:Nat);True/\∀(r:oR),N8 r.1/\N8 r.2.1/\True/\True->(K6 x.1->r.1=Rb x.1/\r.2.1=Nj x.1/\r.2.2.1=true)/\(¬K6 x.1->r.2.2.1=false)->True/\∀(d:oR),N8 d.1/\N8 d.2.1/\True/\True->(K6 x.2.1->d.1=Rb x.2.1/\d.2.1=Nj x.2.1/\d.2.2.1=true)/\(¬K6 x.2.1->d.2.2.1=false)->(iB (M0 r.2.2.1 d.2.2.1 false) ((0:Int)<i64.wrap (r.2.1*d.2.1)/\P6 λc=>c.1=rc (mkRat (i64.wrap (r.1*d.1)) (i64.wrap (r.2.1*d.2.1)).toNat)->c.1=rc b) (True/\∀(r:jD),jO r.1/\Hi r.2.1/\True->(nv x.1.2=a->r.1=zi/\r.2.1= [(1:Int)])/\(nv x.1.2≠a->r.1=x.1.1/\r.2.1=x.1.2)->True/\∀(c:jD),jO c.1/\Hi c.2.1/\True->(nv x.2.1.2=a->c.1=zi/\c.2.1= [(1:Int)])/\(nv x.2.1.2≠a->c.1=x.2.1.1/\c.2.1=x.2.1.2)->(N9 r.1.2/\N9 c.1.2)/\Y6 λf=>f.1=ic (iv r.1*iv c.1)->(N9 r.2.1/\N9 c.2.1)/\R0 λe=>e.1=nc (nv r.2.1*nv c.2.1)->(nv e.1≠a/\Ga f.1.2/\Ga e.1)/\P6 λr=>r.1=rc (mkRat (iv f.1) (nv e.1))->r.1=rc b))
def Wm(x:F5):Prop:=N6 x.1/\P6 λr=>r.1=rc (rv x.1)->Hh r.1.1.2/\Y6 λa=>a.1=ic (-iv r.1.1)->(a.1,r.1.2)=rc (-rv x.1)
def Kc(x:Ei):Prop:=let c:=(0:Nat);let b:=(rv x.1);let a:=(rv x.2.1);True/\Ef λr=>r.1=b.num.sign->True/\Ef λf=>f.1=a.num.sign->(iB (decide (r.1≠f.1)) (True/\Ef λe=>e.1=M7 r.1 f.1->e.1=VD b a) (True/\∀(r:oR),N8 r.1/\N8 r.2.1/\True/\True->(K6 x.1->r.1=Rb x.1/\r.2.1=Nj x.1/\r.2.2.1=true)/\(¬K6 x.1->r.2.2.1=false)->True/\∀(e:oR),N8 e.1/\N8 e.2.1/\True/\True->(K6 x.2.1->e.1=Rb x.2.1/\e.2.1=Nj x.2.1/\e.2.2.1=true)/\(¬K6 x.2.1->e.2.2.1=false)->(iB (M0 r.2.2.1 e.2.2.1 false) (True/\Ef λd=>d.1=M7 (i64.wrap (r.1*e.2.1)) (i64.wrap (e.1*r.2.1))->d.1=VD b a) (True/\∀(r:jD),jO r.1/\Hi r.2.1/\True->(nv x.1.2=c->r.1=zi/\r.2.1= [(1:Int)])/\(nv x.1.2≠c->r.1=x.1.1/\r.2.1=x.1.2)->True/\∀(d:jD),jO d.1/\Hi d.2.1/\True->(nv x.2.1.2=c->d.1=zi/\d.2.1= [(1:Int)])/\(nv x.2.1.2≠c->d.1=x.2.1.1/\d.2.1=x.2.1.2)->(N9 r.1.2/\N9 d.2.1)/\Y6 λg=>g.1=ic (iv r.1*iv (false,d.2.1))->(N9 d.1.2/\N9 r.2.1)/\Y6 λh=>h.1=ic (iv d.1*iv (false,r.2.1))->True/\Ef λr=>r.1=M7 (iv g.1) (iv h.1)->r.1=VD b a))))
def Wk(x:F5):Prop:=let a:=(rv x.1);True/\Ef λr=>r.1=a.num.sign->(iB (decide (r.1=0)) ((rv x.1=(0:Rat)->false=false)/\(rv x.1≠(0:Rat)->dQ=rc a⁻¹/\false=true)) (N6 x.1/\P6 λr=>r.1=rc a->(rv x.1=(0:Rat)->true=false)/\(rv x.1≠(0:Rat)->((r.1.1.1,r.1.2),r.1.1.2)=rc a⁻¹/\true=true)))
def Wj(x:Ei):Prop:=let b:=(rv x.1/rv x.2.1);let a:=((x.2.1.1.1,x.2.1.2),x.2.1.1.2);True/\Ef λr=>r.1=(rv x.2.1).num.sign->(iB (decide (r.1=0)) ((rv x.2.1=(0:Rat)->false=false)/\(rv x.2.1≠(0:Rat)->dQ=rc b/\false=true)) ((N6 x.1/\N6 a)/\P6 λr=>r.1=rc (rv x.1*rv a)->(rv x.2.1=(0:Rat)->true=false)/\(rv x.2.1≠(0:Rat)->r.1=rc b/\true=true)))
def EH:An:= {}
def JK:An:= {plan:= [(3,[1],[4],false, .done)]}
def ND:An:= {}
def JL:An:= {}
def Yi:An:= {join:= [(4,⟨[0,1,4],[0],[(5,false,vU)],[],[]⟩)],loop:= [(5,⟨[0,1,4,5],[0],[(6,false,vU),(7,false,vU)],[],[]⟩)],plan:= [(6,[],[],true, .done),(7,[],[13],true, .done)]}
def GX:An:= {join:= [(8,⟨[2,4],[1],[(1,false,[.val qa])],[(0,56,[.val .bool, .val qa])],[]⟩)]}
def NC:An:= {}
def Kd(x:D8):Prop:=True/\Y6 λr=>r.1=ic x.1->(r.1,[(1:Int)])=ri x.1
def Ow(x:F5):Prop:=let d:=(1:Int);let c:=(0:Nat);let b:Prop:=(nv x.1.2=c->x.1.1=zi/\x.1.2= [d]);let a:Prop:=(nv x.1.2≠c->x.1.1=x.1.1/\x.1.2=x.1.2);True/\Ef λr=>r.1=Da (nv x.1.2) (nv [])->(iB (decide (r.1=0)) ((nv x.1.2=c->(false,[])=zi/\ [d]= [d])/\(nv x.1.2≠c->(false,[])=x.1.1/\ [d]=x.1.2)) ((b/\a)/\b/\a))
def Td(x:F5):Prop:=True/\∀(r:jD),jO r.1/\Hi r.2.1/\True->(nv x.1.2=0->r.1=zi/\r.2.1= [(1:Int)])/\(nv x.1.2≠0->r.1=x.1.1/\r.2.1=x.1.2)->True/\Ef λa=>a.1=(iv r.1).sign->a.1=(rv x.1).num.sign
def Ox(x:F5):Prop:=let e:=(0:Int);let c:Prop:=(¬K6 x.1->true=false);let b:=(18446744073709551616:Nat);True/\∀(r:A7s),IW r.1/\True/\True->(nv x.1.1.2<b->r.1=(↑(nv x.1.1.2):Int)/\r.2.1=true)/\(b<=nv x.1.1.2->r.2.1=false)->True/\∀(f:A7s),let d:=(decide (2147483648<=f.1));let a:=(M0 (M0 (!r.2.1) true !f.2.1) true (decide (2147483648<=r.1)));IW f.1/\True/\True->(nv x.1.2<b->f.1=(↑(nv x.1.2):Int)/\f.2.1=true)/\(b<=nv x.1.2->f.2.1=false)->(iB (M0 a true d) ((K6 x.1->e=Rb x.1/\e=Nj x.1/\false=true)/\(¬K6 x.1->false=false)) ((iB (decide (f.1=e)) ((K6 x.1->e=Rb x.1/\(1:Int)=Nj x.1/\true=true)/\c) ((iB x.1.1.1 ((K6 x.1->i64.wrap (-i64.wrap r.1)=Rb x.1/\i64.wrap f.1=Nj x.1/\true=true)/\c) ((K6 x.1->i64.wrap r.1=Rb x.1/\i64.wrap f.1=Nj x.1/\true=true)/\c))))))
def Jn(x:Cr):Prop:=let a:=(0:Int);∃(J:D8->Prop),((iB (decide (x.1<a)) (J (u64.wrap (-u64.wrap x.1),())) (J (u64.wrap x.1,()))))/\∀(p:D8),(Ty.int u64).wf p.1/\True->J p->∃(I:Cr->Prop),∃(d: _->Nat),I (u64.wrap x.2.1,p)/\∀(c:Cr),let b:=(c.2.1,Int.tmod c.1 c.2.1,());(Ty.int u64).wf c.1/\(Ty.int u64).wf c.2.1/\True->I c->(iB (decide (c.2.1≠a)) (c.2.1≠a/\I b/\d b<d c) (c.1≠a/\c.1≠a/\True/\R0 λr=>r.1=nc (u64.wrap (Int.tdiv p.1 c.1)).toNat->True/\R0 λd=>d.1=nc (u64.wrap ((u64.wrap x.2.1).tdiv c.1)).toNat->((decide (x.1<a),r.1),d.1)=rc (mkRat x.1 x.2.1.toNat)))
abbrev C5e:=Wf×Bool×Wf×Unit
abbrev B3w:=Wf×Wf×Bool×Unit
def Nb(x:jD):Prop:=let g:=(0:Nat);let f:=(nv x.2.1);let c:=(1:Int);let b:=(0:Int);Hh x.1.2/\Y6 λr=>let d:=(r.1.2.length:Int);r.1=ic (iv x.1)->Hh x.2.1/\R0 λk=>k.1=nc f->(iB (decide (d=b)) (((false,[]),[c])=rc (mkRat (iv x.1) f)) ((Ga r.1.2/\Ga k.1)/\R0 λh=>let e:=(decide (gx b h.1 b≠c));let a:=(h.1.length:Int);h.1=nc ((nv r.1.2).gcd (nv k.1))->∃(J:C5e->Prop),((decide (a≠c)=false->b<=b/\b<a)/\(iB (M0 (decide (a≠c)) true e) (N9 r.1.2/\∀(i:B3w),Hi i.1/\Hi i.2.1/\True/\True->(nv h.1=g->i.1= []/\i.2.1= []/\i.2.2.1=false)/\(nv h.1≠g->i.1=nc (nv r.1.2/nv h.1)/\i.2.1=nc (nv r.1.2%nv h.1)/\i.2.2.1=true)->N9 k.1/\∀(j:B3w),Hi j.1/\Hi j.2.1/\True/\True->(nv h.1=g->j.1= []/\j.2.1= []/\j.2.2.1=false)/\(nv h.1≠g->j.1=nc (nv k.1/nv h.1)/\j.2.1=nc (nv k.1%nv h.1)/\j.2.2.1=true)->J (j.1,r.1.1,i.1,())) (J (k.1,r.1.1,r.1.2,()))))/\∀(p:C5e),(Ty.int u32).sl.wf p.1/\Ty.bool.wf p.2.1/\(Ty.int u32).sl.wf p.2.2.1/\True->J p->((p.2.1,p.2.2.1),p.1)=rc (mkRat (iv x.1) f)))
def Tc(x:F5):Prop:=True/\∀(r:oR),N8 r.1/\N8 r.2.1/\True/\True->(K6 x.1->r.1=Rb x.1/\r.2.1=Nj x.1/\r.2.2.1=true)/\(¬K6 x.1->r.2.2.1=false)->(iB r.2.2.1 (0<r.2.1/\P6 λa=>a.1=rc (mkRat r.1 r.2.1.toNat)->a.1=rc (rv x.1)) (True/\∀(r:jD),jO r.1/\Hi r.2.1/\True->(nv x.1.2=0->r.1=zi/\r.2.1= [(1:Int)])/\(nv x.1.2≠0->r.1=x.1.1/\r.2.1=x.1.2)->(nv r.2.1≠0/\Ga r.1.2/\Ga r.2.1)/\P6 λa=>a.1=rc (mkRat (iv r.1) (nv r.2.1))->a.1=rc (rv x.1)))
def Vs:sr M9 Kd:=λx b _=>by
 obtain⟨v,_⟩:=x;simp only[Kd,Y6];refine⟨trivial,?_⟩;rintro⟨r,_⟩ _ a;simp only at a|-;rw[a];rfl
def BM:sr Am Ow:=λx d _=>by
 obtain⟨⟨c,(l:Wf)⟩,_⟩:=x;simp only[Ow,iB,Ef];refine⟨trivial,?_⟩;rintro⟨r,_⟩ _ b;simp only at b|-;rw[iG]at b;refine⟨λh=>?_,λh=>?_⟩
 . have a:nv l=0:=WY.1 (b▸qA h);exact⟨λ_=>⟨rfl,by trivial⟩,λh=>absurd a h⟩
 have a:nv l≠0:=λe=>(qB h) (by rw[b,e];rfl)
 exact⟨⟨λh=>absurd h a,λ_=>⟨by trivial,by trivial⟩⟩,λh=>absurd h a,λ_=>⟨by trivial,by trivial⟩⟩
def FO:sr W2 Td:=λx g _=>by
 obtain⟨⟨d,(l:Wf)⟩,_⟩:=x;simp only[Td,Ef];refine⟨trivial,?_⟩;rintro⟨r,f,_⟩ _ ⟨a,b⟩;refine⟨trivial,?_⟩;rintro⟨s,_⟩ _ c;simp only at a b c|-;rw[c, <-B7c];unfold C1l;split
 . rename_i h;rw[(a h).1];rfl
 rename_i h;rw[(b h).1]
def BN:sr Ao Ox:=λx O _=>by
 obtain⟨⟨⟨(g:Bool),(a:Wf)⟩,(l:Wf)⟩,_⟩:=x;simp only[Ox,iB];refine⟨trivial,?_⟩;rintro⟨u,f,_⟩ _ ⟨k,y⟩;refine⟨trivial,?_⟩;rintro⟨v,d,_⟩ _ ⟨n,z⟩;change Int at u v;change Bool at f d;simp only at k y n z|-;have r:M0 (M0 (M0 (!f) true !d) true (decide (2147483648<=u))) true (decide (2147483648<=v))=(!f|| !d||decide (2147483648<=u) ||decide (2147483648<=v)):=by simp only[H5]
 rw[r];have G:(!f|| !d||decide (2147483648<=u) ||decide (2147483648<=v))=false->K6 ((g,a),l)/\u=(nv a:Int)/\v=(nv l:Int):=λh=>by
  simp only[rE,g0y,rO]at h;obtain⟨⟨⟨t,w⟩,M⟩,N⟩:=h;have D:nv a<18446744073709551616:=by
   rcases sH (nv a) 18446744073709551616 with h|h
   . exact h
   rw[y h]at t;cases t
  have E:nv l<18446744073709551616:=by
   rcases sH (nv l) 18446744073709551616 with h|h
   . exact h
   rw[z h]at w;cases w
  have I:=(k D).1;have J:=(n E).1;exact⟨⟨by show nv a< _;omega,by show nv l< _;omega⟩,I,J⟩
 have H:K6 ((g,a),l)->(!f|| !d||decide (2147483648<=u) ||decide (2147483648<=v))=false:=λh=>by
  obtain⟨(i:nv a< _),(j:nv l< _)⟩:=h;obtain⟨D,t⟩:=k ω;obtain⟨E,w⟩:=n ω;simp only[rE,g0y,rO];exact⟨⟨⟨t,w⟩,ω⟩,ω⟩
 refine⟨λh=>⟨λr=>?_,λ_=>trivial⟩,λh=>?_⟩
 . rw[H r]at h;cases h
 obtain⟨A,F,B⟩:=G h;have s:=A;obtain⟨(i:nv a< _),(j:nv l< _)⟩:=A;refine⟨λc=>?_,λc=>⟨λo=>?_,λo=>?_⟩⟩
 . have c:=qA c;have b:nv l=0:=ω
   exact⟨λ_=>⟨by unfold Rb;rw[qT b],by unfold Nj;rw[qT b],trivial⟩,λh=>absurd s h⟩
 . have c:=qB c;have b:nv l≠0:=ω
   refine⟨λ_=>⟨?_,?_,trivial⟩,λh=>absurd s h⟩
   . unfold Rb;rw[qL b,wv (a:=u) ω,wv ω];unfold iv;simp only[o,vW];omega
   unfold Nj;rw[qL b,wv ω];exact B
 have c:=qB c;have b:nv l≠0:=ω
 refine⟨λ_=>⟨?_,?_,trivial⟩,λh=>absurd s h⟩
 . unfold Rb;rw[qL b,wv (a:=u) ω];unfold iv;simp only[o];simpa using F
 unfold Nj;rw[qL b,wv ω];exact B
def Te:sr T5 Jn:=λx A F=>by
 obtain⟨(n:Int),(d:Int),_⟩:=x;have I:0<d:=F;have c:=(show i64.min<=n/\n<=i64.max from A.1);have r:=(show i64.min<=d/\d<=i64.max from A.2.1);rw[Ub,CS]at c r;obtain⟨P,Q⟩:=c;have J:=r.2;have O:i64.min= -9223372036854775808:=Ub;simp only[Jn,iB,R0];refine⟨λp=>p.1=(n.natAbs:Int),⟨λh=>?_,λh=>?_⟩,?_⟩
 . have h:=qA h;show u64.wrap (-u64.wrap n)= _;rw[Cp,Cp];omega
 . have h:=qB h;show u64.wrap n= _;rw[Cp];omega
 rintro⟨T,_⟩ _ z;simp only at z|-;subst z;have o:u64.wrap d=d:=X7 ω ω;refine⟨λp=>0<=p.1/\0<=p.2.1/\(p.1≠0\/p.2.1≠0)/\p.1.toNat.gcd p.2.1.toNat=d.toNat.gcd n.natAbs,λp=>p.2.1.toNat,?_,?_⟩
 . refine⟨ω,by show(0:Int)<=(n.natAbs:Int);omega, .inl ω,?_⟩;rw[o];rfl
 rintro⟨(g:Int),(t:Int),_⟩ _ ⟨j,a,D,k⟩;simp only at j a D k|-;refine⟨λh=>?_,λh=>?_⟩
 . have h:=qA h;have e:Int.tmod g t=g%t:=uL j;have i:=g2p g h;have M:=zK g (b:=t) ω;rw[e];refine⟨h,⟨a,i, .inl h,?_⟩,ω⟩;rw[<-k,Int.toNat_emod j a,wZ t.toNat, <-g3m,wZ]
 have h:t=0:=by simpa using h
 subst h;have u:g≠0:=ω
 refine⟨u,u,trivial,?_⟩;rintro⟨R,_⟩ _ y;refine⟨trivial,?_⟩;rintro⟨q,_⟩ _ w;simp only at y w|-;have hG:g.toNat=d.toNat.gcd n.natAbs:=by rw[<-k];simp
 have N:0<g:=ω
 have v:g=((d.toNat.gcd n.natAbs:Nat):Int):=ω
 obtain⟨c,E⟩:=Nt (x:=n) (d:=d.toNat) ω;have B:(u64.wrap (Int.tdiv (n.natAbs:Int) g)).toNat=n.natAbs/d.toNat.gcd n.natAbs:=by
  rw[IntWalk.u64_quo _ _ ⟨ω,ω,ω⟩,v, <-g4p,qO]
 have i:(u64.wrap (Int.tdiv d g)).toNat=d.toNat/d.toNat.gcd n.natAbs:=by
  rw[IntWalk.u64_quo _ _ ⟨ω,ω,ω⟩,v]
  conv=>lhs;rw[(ω:d=((d.toNat:Nat):Int))]
  rw[<-g4p,qO];simp only[qO]
 rw[y,w,o,B,i];unfold rc;rw[c,E];unfold ic;have s:((d.toNat.gcd n.natAbs:Nat):Int)∣n:=xV.2 (yJ ..);have l:0<d.toNat.gcd n.natAbs:=ω
 generalize d.toNat.gcd n.natAbs=G at s l;obtain⟨f,rfl⟩:=s;rw[xR _ ω];have H:(G:Int)*f<0↔f<0:=by
  constructor
  . intro h;rcases g4i f 0 with a|a
    . exact a
    have:=tT (xL (sU.2 l)) a;omega
  intro h;exact yT ω h
 rw[vJ,vC,xT _ l];simp only[H]
def Ul (x:D4):mkRat (Rb x) (Nj x).toNat=rv x:=by
 unfold Rb Nj rv;split
 . rename_i h;rw[h,yM];rfl
 rename_i h;rw[qO]
def B2e (x:D4):0<Nj x:=by
 unfold Nj;split
 . decide
 omega
def Ya:sr X5 Nb:=λx w H=>by
 obtain⟨⟨b,l⟩,k,_⟩:=x;have G:B4 l:=A5 w.1.2.2;have F:B4 k:=A5 w.2.1.2;change Bool at b;change Wf at l k;obtain⟨j,V,U⟩:nv k≠0/\l.length<=8796093022208/\k.length<=8796093022208:=H;simp only[Nb,iB,R0,Y6];have N:=C9 G;have M:=C9 F;refine⟨by show l.length<=35184372088832;omega,?_⟩;rintro⟨⟨y,r⟩,_⟩ _ f;refine⟨by show k.length<=35184372088832;omega,?_⟩;rintro⟨d,_⟩ _ c;simp only at f c|-;have I:y=decide (iv (b,l)<0):=sD (·.1) f;have v:r=nc (iv (b,l)).natAbs:=sD (·.2) f;have A:(iv (b,l)).natAbs=nv l:=K3 _;have i:nv r=(iv (b,l)).natAbs:=by rw[v,F7]
 have o:nv d=nv k:=by rw[c,F7]
 have T:r.length<=l.length:=by rw[v,A];exact N
 have Q:d.length<=k.length:=by rw[c];exact M
 refine⟨λh=>?_,λh=>?_⟩
 . have h:=qA h;have B:r= []:=qM ω;rw[B,iG]at i;have:iv (b,l)=0:=Int.natAbs_eq_zero.1 i.symm;rw[this,Rat.zero_mkRat,A4i]
 have h:=qB h;refine⟨⟨ω,ω⟩,?_⟩;rintro⟨g,_⟩ _ n;simp only at n|-;rw[i,o]at n;have R:Nat.gcd (iv (b,l)).natAbs (nv k)≠0:=Nat.ne_of_gt (g1s _ (sZ j));have s:nv g=Nat.gcd (iv (b,l)).natAbs (nv k):=by rw[n,F7]
 refine⟨λp=>((p.2.1,p.2.2.1),p.1)=rc (mkRat (iv (b,l)) (nv k)),⟨λa=>?_,λa=>?_,λa=>?_⟩,?_⟩
 . have a:=qB a;exact⟨qH _,ω⟩
 . refine⟨by show r.length<= _;omega,?_⟩;rintro⟨q,m,X,_⟩ _ t;refine⟨by show d.length<= _;omega,?_⟩;rintro⟨Z,W,Y,_⟩ _ u;simp only at t u|-;rw[iT j,(t.2 ω).1,(u.2 ω).1,i,o,s,I]
 . have a:g.length=1/\gx 0 g 0=1:=by
    rw[H5]at a;simp only[rE,rO]at a;omega
   obtain⟨z,rfl⟩:∃z,g= [z]:=g2j.1 a.1;have J:z=1:=a.2;subst J;have D:Nat.gcd (iv (b,l)).natAbs (nv k)=1:=by rw[<-s];rfl
   rw[B6y j D];show((y,r),d)= _;rw[c, <-f]
 rintro⟨O,a0,P,_⟩ _ E;exact E
def FN:sr P4 Tc:=λx v n=>by
 obtain⟨(q:D4),_⟩:=x;obtain⟨i,j⟩:q.1.2.length<=2199023255552/\q.2.length<=2199023255552:=n;simp only[Tc,iB,P6];refine⟨trivial,?_⟩;rintro⟨(s:Int),(f:Int),z,_⟩ _ ⟨c,d⟩;simp only at c d|-;refine⟨λh=>?_,λh=>⟨trivial,?_⟩⟩
 . have o:K6 q:=rA λhn=>by rw[d hn]at h;cases h
   obtain⟨rfl,rfl,_⟩:=c o;refine⟨B2e q,?_⟩;rintro⟨u,_⟩ _ a;simp only at a|-;rw[a,Ul]
 rintro⟨t,g,_⟩ _ b;simp only at b|-;obtain⟨l,r⟩:=Lx b;obtain⟨w,y⟩:=Ia (k:=2199023255552) b i j δ;refine⟨⟨l,by show t.2.length<= _;omega,by show g.length<= _;omega⟩,?_⟩;rintro⟨u,_⟩ _ a;simp only at a|-;rw[a,r]
def AE {q:Rat} (h:q.num.sign=0):q=0:=g0p.1 (yU.1 h)
def Kw {x:D4} (h:K6 x): -2147483647<=Rb x/\Rb x<=2147483647/\0<Nj x/\Nj x<=2147483647:=by
 obtain⟨a,b⟩:=h;have:=K3 x.1;unfold Rb Nj;split
 . omega
 omega
def Qz {a b M N:Int} (f: -M<=a) (d:a<=M) (c:0<=b) (g:b<=N): -(M*N)<=a*b/\a*b<=M*N:=by
 have h:0<=M:=ω
 have i:M*b<=M*N:=uB g h;have g:a*b<=M*b:=sK d c;have d: -M*b<=a*b:=sK f c;rw[Int.neg_mul]at d;omega
def A7f {a b c d:Int} (h: -2147483647<=a/\a<=2147483647) (i: -2147483647<=b/\b<=2147483647) (g:0<c/\c<=2147483647) (f:0<d/\d<=2147483647):
 i64.wrap (c*d)=c*d/\0<c*d/\i64.wrap (i64.wrap (a*d)+i64.wrap (b*c))=a*d+b*c:=by
 have k:=Qz h.1 h.2 (xL f.1) f.2;have l:=Qz i.1 i.2 (xL g.1) g.2;have n:=Qz (a:=c) (b:=d) (M:=2147483647) ω g.2 (xL f.1) f.2;have j:0<c*d:=Int.mul_pos g.1 f.1;rw[wv (a:=c*d) ω,wv (a:=a*d) ω,wv (a:=b*c) ω,wv ω];exact⟨rfl,j,rfl⟩
def II:sr Aj Wi:=λx o a8=>by
 obtain⟨p,q,_⟩:=x;have ax:B4 p.1.2:=A5 o.1.1.2.2;have ay:B4 p.2:=A5 o.1.2.2;have az:B4 q.1.2:=A5 o.2.1.1.2.2;have b0:B4 q.2:=A5 o.2.1.2.2;change D4 at p q;obtain⟨a9,aa⟩:N6 p/\N6 q:=a8;obtain⟨N,O⟩:=a9;obtain⟨P,Q⟩:=aa;simp only[Wi,iB,P6,Ef,R0,Y6];refine⟨trivial,?_⟩;rintro⟨b1,_⟩ _ R;simp only at R|-;refine⟨λh=>⟨⟨P,Q⟩,?_⟩,λh=>⟨trivial,?_⟩⟩
 . rintro⟨r,_⟩ _ f;simp only at f|-;rw[R]at h;rw[f,AE (qA h),sX]
 rintro⟨b2,_⟩ _ T;simp only at T|-;refine⟨λh=>⟨⟨N,O⟩,?_⟩,λh=>⟨trivial,?_⟩⟩
 . rintro⟨r,_⟩ _ f;simp only at f|-;rw[T]at h;rw[f,AE (qA h),rD]
 rintro⟨F,E,aq,_⟩ _ ⟨B,D⟩;refine⟨trivial,?_⟩;rintro⟨I,bd,ar,_⟩ _ ⟨G,H⟩;change Int at F E I bd;simp only at B D G H|-;refine⟨λh=>?_,λ_=>⟨trivial,?_⟩⟩
 . rw[J4,qC]at h;have X:K6 p:=rA λhn=>by have:=D hn;rw[this]at h;exact absurd h.1 δ
   have Y:K6 q:=rA λhn=>by have:=H hn;rw[this]at h;exact absurd h.2 δ
   obtain⟨a1,a3,_⟩:=B X;obtain⟨a2,a4,_⟩:=G Y;obtain⟨Z,a0,b3,b4⟩:=Kw X;obtain⟨b5,b6,b7,b8⟩:=Kw Y;obtain⟨am,an,ao⟩:=A7f (a:=F) (b:=I) (c:=E) (d:=bd) ω ω ω ω;rw[am,ao];refine⟨an,?_⟩;rintro⟨r,_⟩ _ f;simp only at f|-;rw[f, <-Ul p, <-Ul q, <-a1, <-a3, <-a2, <-a4,OB ω ω,tL ω,tL ω,g3v ω ω]
 rintro⟨n,d,_⟩ ⟨ae,ab,_⟩ w;refine⟨trivial,?_⟩;rintro⟨m,e,_⟩ ⟨ad,ac,_⟩ z;have W:B4 n.2:=A5 ae.2.2;have U:B4 d:=A5 ab.2;have V:B4 m.2:=A5 ad.2.2;have le:B4 e:=A5 ac.2;refine⟨trivial,?_⟩;rintro⟨c,_⟩ _ M;change Ki at n m;change Wf at d e;simp only at w z M|-;obtain⟨j,a5⟩:=Lx w;obtain⟨J,a6⟩:=Lx z;obtain⟨aj,au⟩:=Ia (k:=2199023255552) w N O δ;obtain⟨ai,av⟩:=Ia (k:=2199023255552) z P Q δ;rw[a5,a6];refine⟨λh=>?_,λh=>?_⟩
 . have h:=qA h;have a7:nv d=nv e:=WY.1 (M▸h);refine⟨⟨by show n.2.length<= _;omega,by show m.2.length<= _;omega⟩,?_⟩;rintro⟨u,_⟩ _ g;simp only at g|-;have af:=WA (x:=n) (y:=m) W V aj ai;refine⟨⟨j,by show u.2.length<= _;rw[g];omega,by show d.length<= _;omega⟩,?_⟩;rintro⟨r,_⟩ _ f;simp only at f|-;rw[f,g,T7, <-a7,A0y j]
 --the general case:the same four times
 have Z:=HD (x:=n) (y:=(false,e)) W le;have a0:=HD (x:=m) (y:=(false,d)) V U;have t:N9 n.2/\N9 e:=⟨by show n.2.length<= _;omega,by show e.length<= _;omega⟩;have l:N9 m.2/\N9 d:=⟨by show m.2.length<= _;omega,by show d.length<= _;omega⟩;have fin:∀u v:Ki,u=ic (iv n*iv (false,e))->v=ic (iv m*iv (false,d))->(N9 u.2/\N9 v.2)/\∀(r_6:(Bool×Wf)×Unit),jO r_6.1/\True->r_6.1=ic (iv u+iv v)->(N9 d/\N9 e)/\∀(r_7:Wf×Unit),Hi r_7.1/\True->r_7.1=nc (nv d*nv e)->(nv r_7.1≠(0:Nat)/\Ga r_6.1.2/\Ga r_7.1)/\∀(r:QQ×Unit),UE r.1/\True->r.1=rc (mkRat (iv r_6.1) (nv r_7.1))->r.1=rc (mkRat (iv n) (nv d)+mkRat (iv m) (nv e)):=by
  intro u v g i;have ag:u.2.length<=4398046511104:=by
   rw[g];refine qZ Z ?_;show n.2.length+e.length<= _;omega
  have ah:v.2.length<=4398046511104:=by
   rw[i];refine qZ a0 ?_;show m.2.length+d.length<= _;omega
  refine⟨⟨by show u.2.length<= _;omega,by show v.2.length<= _;omega⟩,?_⟩;rintro⟨ak,_⟩ _ A;refine⟨⟨l.2,t.2⟩,?_⟩;rintro⟨ap,_⟩ _ s;simp only at A s|-;have af:=WA (x:=u) (y:=v) (by rw[g];exact mJ _) (by rw[i];exact mJ _) ag ah;have aw:=HH U le;refine⟨⟨by rw[s,F7];exact zJ j J,by show ak.2.length<= _;rw[A];omega,by show ap.length<= _;rw[s];omega⟩,?_⟩;rintro⟨r,_⟩ _ f;simp only at f|-;rw[f,A,s,F7,T7,g,i,T7,T7,Jq,Jq,OB j J]
 exact⟨⟨t,λu _ g=>⟨⟨l,λv _ i=>⟨fin _ _ g i,fin _ _ g i⟩⟩,l,λv _ i=>fin _ _ g i⟩⟩,t,λu _ g=>⟨l,λv _ i=>fin _ _ g i⟩⟩
def pS:An:= {plan:= [(1,[0,2],[6,7],true, .done),(2,[1,2,6,7,11,13],[17],true, .done)]}
def ZR(x:Ei):Prop:=let f:=(rv x.1);let e:=(rv x.2.1);let a:(F5)->(F5)->(Xq)->Prop:=(λr g h=>jO h.1/\True->h.1=ic (↑e.den:Int)->(N9 r.1.1.2/\N9 h.1.2)/\Y6 λi=>i.1=ic (iv r.1.1*iv h.1)->N6 x.1/\Y6 λr=>r.1=ic (↑f.den:Int)->(N9 g.1.1.2/\N9 r.1.2)/\Y6 λj=>j.1=ic (iv g.1.1*iv r.1)->(N9 i.1.2/\N9 j.1.2)/\Y6 λr=>r.1=ic (iv i.1+iv j.1)->N6 x.1/\Y6 λk=>k.1=ic (↑f.den:Int)->N6 x.2.1/\Y6 λl=>l.1=ic (↑e.den:Int)->(N9 k.1.2/\N9 l.1.2)/\Y6 λm=>m.1=ic (iv k.1*iv l.1)->(Ga r.1.2/\Ga m.1.2)/\P6 λn=>n.1=rc (Qu r.1 m.1)->n.1=rc (rv x.1+rv x.2.1));let b:(F5)->(F5)->Prop:=(λr g=>UE g.1/\True->g.1=rc e->N6 x.2.1/\∀(h:Xq),a r g h);let d:(F5)->Prop:=(λr=>N6 x.2.1/\∀(g:F5),b r g);let c:Prop:=((N6 x.1/\P6 λr=>r.1=rc f->(d r)/\N6 x.2.1/\∀(g:F5),b r g)/\N6 x.1/\P6 λr=>r.1=rc f->N6 x.2.1/\∀(g:F5),b r g);(N6 x.1/\P6 λr=>r.1=rc f->(N6 x.2.1/\P6 λg=>g.1=rc e->(N6 x.2.1/\∀(h:Xq),a r g h)/\N6 x.2.1/\∀(h:Xq),a r g h)/\((d r)/\d r)/\(d r)/\N6 x.2.1/\∀(g:F5),b r g)/\c/\c
def B3d {p:D4} (a:B4 p.1.2) (b:B4 p.2) (h:N6 p):(ic (rv p).num).2.length<=2199023255552/\(ic ((rv p).den:Int)).2.length<=2199023255552:=by
 have:=Lz a b h.1 h.2 δ;exact⟨this.1,by rw[Cw,vC];exact this.2⟩
def icm {x y:Int} {k:Nat} (a:(ic x).2.length<=k) (b:(ic y).2.length<=k):(ic (x*y)).2.length<=2*k:=by
 rw[Cw]at*;rw[vJ];have:=Pq x.natAbs y.natAbs;omega
def ica {x y:Int} {k:Nat} (b:(ic x).2.length<=k) (c:(ic y).2.length<=k):(ic (x+y)).2.length<=k+1:=by
 rw[Cw]at*;have a:=K4 (zV x y);have:=OF x.natAbs y.natAbs;omega
def bS:sr Kv ZR:=λx a j=>by
 obtain⟨p,q,_⟩:=x;have n:B4 p.1.2:=A5 a.1.1.2.2;have o:B4 p.2:=A5 a.1.2.2;have r:B4 q.1.2:=A5 a.2.1.1.2.2;have s:B4 q.2:=A5 a.2.1.2.2;change D4 at p q;obtain⟨k,l⟩:N6 p/\N6 q:=j;obtain⟨d,b⟩:=B3d n o k;obtain⟨f,c⟩:=B3d r s l;have g:=icm d c;have i:=icm f b;have t:=icm b c;have u:=ica g i;have fin:rc (Qu (ic ((rv p).num*((rv q).den:Int)+(rv q).num*((rv p).den:Int))) (ic (((rv p).den:Int)*((rv q).den:Int))))=rc (rv p+rv q):=by
  unfold Qu;rw[T7,T7,A0f]
 have P1:N9 (ic (rv p).num).2:=by show _ <= _;omega
 have P2:N9 (ic ((rv p).den:Int)).2:=by show _ <= _;omega
 have Q1:N9 (ic (rv q).num).2:=by show _ <= _;omega
 have Q2:N9 (ic ((rv q).den:Int)).2:=by show _ <= _;omega
 have M1:N9 (ic ((rv p).num*((rv q).den:Int))).2:=by show _ <= _;omega
 have M2:N9 (ic ((rv q).num*((rv p).den:Int))).2:=by show _ <= _;omega
 have M3:Ga (ic (((rv p).den:Int)*((rv q).den:Int))).2:=by show _ <= _;omega
 have M4:Ga (ic ((rv p).num*((rv q).den:Int)+(rv q).num*((rv p).den:Int))).2:=by show _ <= _;omega
 clear g i t u d b f c;have v:(rc (rv p)).1=ic (rv p).num:=rfl;have w:(rc (rv q)).1=ic (rv q).num:=rfl;simp only[ZR,P6,Y6]
 repeat' first
  |assumption
  |apply And.intro
  | (rintro⟨y,_⟩ _ h;simp only at h|-;subst h;try simp only[v,w,T7])
def JB:An:= {}
def GR:An:= {}
def RN:An:= {}
def RJ:An:= {plan:= [(1,[1,3],[6],true, .done)]}
def UK:An:= {plan:= [(1,[1,4],[7],true, .done)]}
def UI:An:= {plan:= [(2,[1,3,5],[8],true, .done)]}
def UJ:An:= {plan:= [(1,[1,3,6,8],[11],true, .done)]}
def GQ:An:= {plan:= [(1,[0,2],[],true, .done)]}
def Oj(x:Bool×Wf×Unit):Prop:=(M0 x.1 (decide ((0:Int)<(x.2.1.length:Int))) false,x.2.1)=(x.1&&decide (x.2.1≠ []),x.2.1)
def Mv(x:D8):Prop:=(iB (decide (x.1<0)) (True/\R0 λr=>r.1=nc (u64.wrap (-u64.wrap x.1)).toNat->True/\Y6 λa=>a.1=(true&&decide (r.1≠ []),r.1)->a.1=ic x.1) (True/\R0 λr=>r.1=nc (u64.wrap x.1).toNat->True/\Y6 λa=>a.1=(false&&decide (r.1≠ []),r.1)->a.1=ic x.1))
def Wd(x:Xq):Prop:=True/\Ef λr=>r.1=Da (nv x.1.2) (nv [])->(iB (decide (r.1=0)) ((0:Int)=(iv x.1).sign) ((iB x.1.1 ((-1:Int)=(iv x.1).sign) ((1:Int)=(iv x.1).sign))))
def Wc(x:Xq):Prop:=Hh x.1.2/\R0 λr=>r.1=nc (nv x.1.2)->True/\Y6 λa=>a.1=(x.1.1&&decide (r.1≠ []),r.1)->a.1=ic (iv x.1)
def AR(x:Xq):Prop:=Hh x.1.2/\R0 λr=>r.1=nc (nv x.1.2)->True/\Y6 λa=>a.1=(!x.1.1&&decide (r.1≠ []),r.1)->a.1=ic (-iv x.1)
abbrev ty9:=(Bool×Wf)×(Bool×Wf)×Unit
abbrev A2h:=Wf×Bool×Unit
def AP(x:ty9):Prop:=let b:Prop:=(N9 x.1.2/\N9 x.2.1.2);let a:=(iv x.1+iv x.2.1);(iB ((x.1.1==x.2.1.1)) (b/\R0 λr=>r.1=nc (nv x.1.2+nv x.2.1.2)->True/\Y6 λc=>c.1=(x.1.1&&decide (r.1≠ []),r.1)->c.1=ic a) (b/\∀(r:A2h),Hi r.1/\True/\True->(nv x.1.2<nv x.2.1.2->r.1= []/\r.2.1=false)/\(nv x.2.1.2<=nv x.1.2->r.1=nc (nv x.1.2-nv x.2.1.2)/\r.2.1=true)->(iB r.2.1 (True/\Y6 λc=>c.1=(x.1.1&&decide (r.1≠ []),r.1)->c.1=ic a) ((N9 x.2.1.2/\N9 x.1.2)/\∀(r:A2h),Hi r.1/\True/\True->(nv x.2.1.2<nv x.1.2->r.1= []/\r.2.1=false)/\(nv x.1.2<=nv x.2.1.2->r.1=nc (nv x.2.1.2-nv x.1.2)/\r.2.1=true)->True/\Y6 λc=>c.1=(x.2.1.1&&decide (r.1≠ []),r.1)->c.1=ic a))))
def AQ(x:ty9):Prop:=(N9 x.1.2/\N9 x.2.1.2)/\R0 λr=>r.1=nc (nv x.1.2*nv x.2.1.2)->True/\Y6 λa=>a.1=(x.1.1 !=x.2.1.1&&decide (r.1≠ []),r.1)->a.1=ic (iv x.1*iv x.2.1)
def Mu(x:ty9):Prop:=let b:=(iv x.1);let a:=(iv x.2.1);True/\Ef λr=>r.1=b.sign->True/\Ef λc=>c.1=a.sign->(iB (decide (r.1<c.1)) ((-1:Int)=M7 b a) ((iB (decide (c.1<r.1)) ((1:Int)=M7 b a) ((iB (decide (r.1<0)) (True/\Ef λr=>r.1=Da (nv x.2.1.2) (nv x.1.2)->r.1=M7 b a) (True/\Ef λr=>r.1=Da (nv x.1.2) (nv x.2.1.2)->r.1=M7 b a))))))
def kI:An:= {join:= [(11,⟨[4,7,10],[2],[],[(5,56,[.val .bool, .val qa]),(7,56,[.val .bool, .val qa])],[]⟩)],plan:= [(5,[0,3],[5],true, .done),(10,[0,2],[4,5],true, .done)]}
def kM:An:= {}
def kJ:An:= {}
def fG:An:= {}
def MX:An:= {plan:= [(1,[0,1],[],true, .done)]}
def pU:An:= {}
def UU:An:= {}
def A5g:An:= {}
def kK:An:= {}
def pT:An:= {plan:= [(1,[0,4],[7],true, .done)]}
abbrev ty8:=(Bool×Wf)×(Bool×Wf)×Bool×Unit
abbrev B7y:=Bool×Wf×Bool×Wf×Unit
def QX(x:ty9):Prop:=let a:=(0:Int);Hh x.2.1.2/\Ef λr=>r.1=(iv x.2.1).sign->(iB (decide (r.1=a)) (True/\P6 λr=>r.1=rc (0:Rat)->r.1=rc (Qu x.1 x.2.1)) (Hh x.2.1.2/\Y6 λr=>r.1=ic (iv x.2.1)->((!r.1.1)=true->True)/\∀(e:Ax),((!r.1.1)=true->(True/\True)/\e.1=decide (r.1.2= [(1:Int)]))->(iB (M0 (!r.1.1) e.1 false) (Hh x.1.2/\Y6 λb=>b.1=ic (iv x.1)->(b.1,r.1.2)=rc (Qu x.1 x.2.1)) ((Ga x.1.2/\Ga x.2.1.2)/\Y6 λr=>r.1=ic (↑((nv x.1.2).gcd (nv x.2.1.2)):Int)->(Ga x.1.2/\Ga r.1.2)/\∀(b:ty8),jO b.1/\jO b.2.1/\True/\True->(iv r.1≠a->b.1=ic (iv x.1/iv r.1)/\b.2.1=ic (iv x.1%iv r.1)/\b.2.2.1=true)->(Ga x.2.1.2/\Ga r.1.2)/\∀(c:ty8),jO c.1/\jO c.2.1/\True/\True->(iv r.1≠a->c.1=ic (iv x.2.1/iv r.1)/\c.2.1=ic (iv x.2.1%iv r.1)/\c.2.2.1=true)->∃(J:B7y->Prop),((iB c.1.1 (Hh b.1.2/\Y6 λr=>r.1=ic (-iv b.1)->Hh c.1.2/\Y6 λd=>d.1=ic (-iv c.1)->J (r.1.1,r.1.2,d.1.1,d.1.2,())) (J (b.1.1,b.1.2,c.1.1,c.1.2,()))))/\∀(p:B7y),Ty.bool.wf p.1/\(Ty.int u32).sl.wf p.2.1/\Ty.bool.wf p.2.2.1/\(Ty.int u32).sl.wf p.2.2.2.1/\True->J p->((p.1,p.2.1),p.2.2.2.1)=rc (Qu x.1 x.2.1)))))
def RA(x:Unit):Prop:=((false,[]),[(1:Int)])=rc (0:Rat)
def QY(x:F5):Prop:=(Ga x.1.1.2/\Ga x.1.2)/\P6 λr=>r.1=rc (Qu x.1.1 (false,x.1.2))->r.1=rc (rv x.1)
def MB(x:Ei):Prop:=True/\Od λr=>r.1=decide (x.1.1=x.2.1.1)->(r.1=true->True)/\∀(a:Ax),(r.1=true->(True/\True)/\a.1=decide (x.1.2=x.2.1.2))->M0 r.1 a.1 false=decide (x.1=x.2.1)
def Sy(x:F5):Prop:=N6 x.1/\P6 λr=>r.1=rc (rv x.1)->True/\Od λa=>a.1=decide (x.1=r.1)->a.1=decide (x.1=rc (rv x.1))
def ZX(x:F5):Prop:=N6 x.1/\P6 λr=>r.1=rc (rv x.1)->(false,r.1.2)=ic (↑(rv x.1).den:Int)
def BK(x:D8):Prop:=True/\Y6 λr=>r.1=ic x.1->True/\Y6 λa=>a.1=ic (1:Int)->(Ga r.1.2/\Ga a.1.2)/\P6 λb=>b.1=rc (Qu r.1 a.1)->b.1=ri x.1
def fA(x:Cr):Prop:=True/\Y6 λr=>r.1=ic x.1->True/\Y6 λa=>a.1=ic x.2.1->(Ga r.1.2/\Ga a.1.2)/\P6 λb=>b.1=rc (Qu r.1 a.1)->b.1=rc (Rat.divInt x.1 x.2.1)
def QZ(x:F5):Prop:=N6 x.1/\P6 λr=>r.1=rc (rv x.1)->Hh r.1.1.2/\Ef λa=>a.1=(iv r.1.1).sign->a.1=(rv x.1).num.sign
def ZT(x:F5):Prop:=N6 x.1/\P6 λr=>r.1=rc (rv x.1)->Hh r.1.1.2/\Y6 λa=>a.1=ic (-iv r.1.1)->N6 x.1/\Y6 λr=>r.1=ic (↑(rv x.1).den:Int)->(Ga a.1.2/\Ga r.1.2)/\P6 λb=>b.1=rc (Qu a.1 r.1)->b.1=rc (-rv x.1)
def LO:sr Er AR:=λx d c=>by
 obtain⟨(p:Ki),_⟩:=x;simp only[AR,R0,Y6];refine⟨c,?_⟩;rintro⟨r,_⟩ _ a;simp only at a|-;refine⟨trivial,?_⟩;rintro⟨s,_⟩ _ b;simp only at b|-;rw[b,a];have h:=B0o (neg:= !p.1) (m:=nv p.2);have e:iv (!p.1,nc (nv p.2))= -iv p:=by
  rw[B1b];congr 1;unfold iv;simp only[F7]
 rw[<-e,h];have:decide (nc (nv p.2)≠ [])=decide (nv p.2≠0):=vT.2 (not_congr Za);rw[this]
def WX {a b:Int} (c: -2147483647<=a/\a<=2147483647) (d: -2147483647<=b/\b<=2147483647): -4611686014132420609<=a*b/\a*b<=4611686014132420609:=by
 have h:(a*b).natAbs<=2147483647*2147483647:=by
  rw[vJ];exact uZ ω ω
 omega
def IL:sr V5 Wl:=λx j N=>by
 obtain⟨p,q,_⟩:=x;have ab:B4 p.1.2:=A5 j.1.1.2.2;have ac:B4 p.2:=A5 j.1.2.2;have ad:B4 q.1.2:=A5 j.2.1.1.2.2;have ae:B4 q.2:=A5 j.2.1.2.2;change D4 at p q;obtain⟨Q,U⟩:N6 p/\N6 q:=N;obtain⟨O,P⟩:=Q;obtain⟨R,T⟩:=U;simp only[Wl,iB,P6,R0,Y6];refine⟨trivial,?_⟩;rintro⟨l,d,a7,_⟩ _ ⟨t,u⟩;refine⟨trivial,?_⟩;rintro⟨o,bd,a8,_⟩ _ ⟨v,w⟩;change Int at l d o bd;simp only at t u v w|-;refine⟨λh=>?_,λ_=>⟨trivial,?_⟩⟩
 . rw[J4,qC]at h;have z:K6 p:=rA λhn=>by have:=u hn;rw[this]at h;exact absurd h.1 δ
   have A:K6 q:=rA λhn=>by have:=w hn;rw[this]at h;exact absurd h.2 δ
   obtain⟨E,G,_⟩:=t z;obtain⟨F,H,_⟩:=v A;obtain⟨a5,a6,ah,ai⟩:=Kw z;obtain⟨aj,ak,am,an⟩:=Kw A;have f:=WX (a:=l) (b:=o) ω ω;have g:=WX (a:=d) (b:=bd) ω ω;have I:0<d*bd:=Int.mul_pos ω ω;rw[wv (a:=d*bd) ω,wv (a:=l*o) ω];refine⟨I,?_⟩;rintro⟨a2,_⟩ _ c;simp only at c|-;rw[c, <-Ul p, <-Ul q, <-E, <-G, <-F, <-H,g0w,g3v ω ω]
 rintro⟨n,r,_⟩ ⟨Y,V,_⟩ f;refine⟨trivial,?_⟩;rintro⟨m,e,_⟩ ⟨X,W,_⟩ g;have a1:B4 n.2:=A5 Y.2.2;have Z:B4 r:=A5 V.2;have a0:B4 m.2:=A5 X.2.2;have le:B4 e:=A5 W.2;change Ki at n m;change Wf at r e;simp only at f g|-;obtain⟨B,J⟩:=Lx f;obtain⟨D,M⟩:=Lx g;obtain⟨ag,a9⟩:=Ia (k:=2199023255552) f O P δ;obtain⟨af,aa⟩:=Ia (k:=2199023255552) g R T δ;have a5:=HD (x:=n) (y:=m) a1 a0;have a6:=HH Z le;rw[J,M];refine⟨⟨by show n.2.length<= _;omega,by show m.2.length<= _;omega⟩,?_⟩;rintro⟨a3,_⟩ _ s;refine⟨⟨by show r.length<= _;omega,by show e.length<= _;omega⟩,?_⟩;rintro⟨a4,_⟩ _ i;simp only at s i|-;refine⟨⟨by rw[i,F7];exact zJ B D,by show a3.2.length<= _;rw[s];omega,by show a4.length<= _;rw[i];omega⟩,?_⟩;rintro⟨a2,_⟩ _ c;simp only at c|-;rw[c,s,i,T7,F7,g0w]
def IM:sr Al Wm:=λx d f=>by
 obtain⟨p,_⟩:=x;have g:B4 p.1.2:=A5 d.1.1.2.2;have h:B4 p.2:=A5 d.1.2.2;change D4 at p;have a:N6 p:=f;obtain⟨i,j⟩:=Lz (k:=2199023255552) g h a.1 a.2 δ;simp only[Wm,P6,Y6];refine⟨a,?_⟩;rintro⟨r,_⟩ _ b;simp only at b|-;subst b;refine⟨by show(ic (rv p).num).2.length<= _;omega,?_⟩;rintro⟨s,_⟩ _ c;simp only at c|-;rw[c];show(ic (-iv (ic (rv p).num)),nc (rv p).den)=(ic (-(rv p)).num,nc (-(rv p)).den);rw[T7,g5b,g5a]
def C1f {q:Rat} (h:q≠0):(((ic q.num).1,nc q.den),(ic q.num).2)=rc q⁻¹:=by
 have a:q.num≠0:=λe=>h (g0p.1 e)
 unfold rc ic;rw[Rat.num_inv,Rat.den_inv,qL a,vJ,vC,g1a a,xB];have b:(0:Int)<(q.den:Int):=by have:=q.den_pos;omega
 have:(q.num.sign*(q.den:Int)<0)↔q.num<0:=by
  rcases zU q.num 0 with h1|h1|h1
  . rw[xE h1];omega
  . exact absurd h1 a
  rw[uW h1];omega
 simp only[this]
def IK:sr Ak Wk:=λx i f=>by
 obtain⟨(p:D4),_⟩:=x;have g:N6 p:=f;simp only[Wk,iB,P6,Ef];refine⟨trivial,?_⟩;rintro⟨s,_⟩ _ b;simp only at b|-;refine⟨λh=>?_,λh=>⟨g,?_⟩⟩
 . have a:=AE (b▸qA h);exact⟨λ_=>by trivial,λd=>absurd a d⟩
 rintro⟨r,_⟩ _ c;simp only at c|-;refine⟨λa=>?_,λa=>⟨by rw[c];exact C1f a,by trivial⟩⟩;have h:=qB h;rw[b,a]at h;exact absurd rfl h
def mI {a:Int} (h:i64.min<=a/\a<=i64.max):(ic a).2.length<=2:=by
 have b: -9223372036854775808<=a/\a<=9223372036854775807:=h;exact Fh (by show a.natAbs<4294967296^2;omega)
def jH:sr AD fA:=λx g _=>by
 obtain⟨a,b,_⟩:=x;have h:(ic a).2.length<=2:=mI g.1;have i:(ic b).2.length<=2:=mI g.2.1;change Int at a b;simp only[fA,P6,Y6];refine⟨trivial,?_⟩;rintro⟨r,_⟩ _ c;refine⟨trivial,?_⟩;rintro⟨s,_⟩ _ d;simp only at c d|-;subst c d;refine⟨⟨by show(ic a).2.length<= _;omega,by show(ic b).2.length<= _;omega⟩,?_⟩;rintro⟨t,_⟩ _ f;simp only at f|-;rw[f];unfold Qu;rw[T7,T7]
def Ue {l:List C8} (h:∀x∈l,WfE x):Xd l:=λe a=>⟨A5 (h e a).2.1.2.2,A5 (h e a).2.2.2⟩
def KB {q:D4} (h:UE q):Xe q:=⟨A5 h.1.2.2,A5 h.2.2⟩
def Vv:sr V6 Kg:=λx A _=>by
 obtain⟨l,_⟩:=x;have E:l.length<=9223372036854775807:=A.1.1;change List C8 at l;simp only[Kg,iB];refine⟨λp=>1<=p.1/\∀s t:Nat,s<t->t<p.1.toNat->t<l.length->(l.getD s D7).1<(l.getD t D7).1,λp=>((l.length:Int)-p.1).toNat,⟨qH _,λs t c f=>by simp at f;omega⟩,?_⟩;rintro⟨(k:Int),_⟩ _ ⟨u,c⟩;simp only at u c|-;refine⟨λh=>?_,λh=>?_⟩
 . have h:=qA h;rw[wv (a:=k-1) ω];refine⟨⟨ω,ω⟩,⟨ω,h⟩,λb=>?_,λb=>?_⟩
   . have b:=qA b;refine(rI λg=>?_).symm;unfold asc at g;rw[uF]at g;have:=g (k-1).toNat k.toNat ω ω ω;have j:=H3 (d:=D7) (l:=l) (i:=k) ω h;have n:=H3 (d:=D7) (l:=l) (i:=k-1) ω ω;rw[qN ω]at j n;rw[xK j,xK n]at this;omega
   have b:=qB b;rw[wv (a:=k+1) ω];rw[L3 ω h,L3 ω ω]at b;refine⟨⟨ω,λs t f D v=>?_⟩,ω⟩;by_cases r:t=k.toNat
   . by_cases z:s=(k-1).toNat
     . rw[r,z];omega
     have:=c s (k-1).toNat ω ω ω;rw[r];omega
   exact c s t f ω v
 have h:=qB h;refine(rF ?_).symm;unfold asc;rw[uF];intro i B w o y;have:=c i B y ω o;rw[qE,qN w,qE,qN o]at this;exact this
def A3b {α:Type} (e:α) (a:List α):List.drop (Int.toNat 1) (List.take (((e::a).length:Int)).toNat (e::a))=a:=by
 rw[qO,vF];rfl
def IS:sr Dk Ws:=λx a7 V=>by
 obtain⟨(A:List C8),(B:List C8),⟨W,c⟩,_⟩:=x;obtain⟨a5,a6,U⟩:A.length<=100000/\B.length<=100000/\∀u v:D4,(u=zr\/∃e∈A,e.2=u)->(v=zr\/∃e∈B,e.2=v)->W (u,v,()):=V;simp only[Ws,iB,Ef];have M:List.replicate (Int.toNat 0) D7= []:=rfl;rw[M];refine⟨⟨qH _,ω,ω,ω⟩,?_⟩;refine⟨λp=>(∀e∈p.1,e∈A)/\(∀e∈p.2.1,e∈B)/\p.2.2.1++I8 c p.1 p.2.1=I8 c A B/\p.2.2.1.length+(p.1.length+p.2.1.length)<=A.length+B.length,λp=>p.1.length+p.2.1.length,⟨λ_ h=>h,λ_ h=>h,rfl,by simp⟩,?_⟩;rintro⟨(a:List C8),(b:List C8),(J:List C8),_⟩ _ ⟨k,i,j,Q⟩;simp only at k i j Q|-;refine⟨λn=>?_,λn=>?_⟩
 . refine⟨λq=>(q.1.length+q.2.1.length<a.length+b.length)/\(∀e∈q.1,e∈A)/\(∀e∈q.2.1,e∈B)/\(((q.2.2.2.1,q.2.2.2.2.1),q.2.2.2.2.2.1)=zr\/∃e∈A,e.2=((q.2.2.2.1,q.2.2.2.2.1),q.2.2.2.2.2.1))/\(((q.2.2.2.2.2.2.1,q.2.2.2.2.2.2.2.1),q.2.2.2.2.2.2.2.2.1)=zr\/∃e∈B,e.2=((q.2.2.2.2.2.2.1,q.2.2.2.2.2.2.2.1),q.2.2.2.2.2.2.2.2.1))/\I8 c a b=put q.2.2.1 (c (((q.2.2.2.1,q.2.2.2.2.1),q.2.2.2.2.2.1),((q.2.2.2.2.2.2.1,q.2.2.2.2.2.2.2.1),q.2.2.2.2.2.2.2.2.1),())) (I8 c q.1 q.2.1),⟨λh=>⟨qH _,qA h.1⟩,λh=>⟨qH _,by have:=qB h.2;omega⟩,λh=>?_,λh=>?_⟩,?_⟩
   . cases a with
     |nil=>
      cases b with
      |nil=>simp[M0]at n
      |cons f b=>simp[M0]at h;omega
     |cons e a=>
      have E:e∈A:=k e (rB ..);have D:∀z∈a,z∈A:=λz d=>k z (qI _ d)
      have F:(0:Int)<((e::a).length:Int):=by simp only[rJ];omega
      rw[A3b];refine⟨⟨qH _,F⟩,⟨qH _,F⟩,⟨ω,by simp only[rJ];omega,qH _⟩,λh=>⟨qH _,qA h⟩,λg=>?_,λg=>?_⟩
      . cases b with
        |nil=>simp[M0]at g
        |cons f b=>
         rw[A3b];have R:(0:Int)<((f::b).length:Int):=by simp only[rJ];omega
         refine⟨⟨qH _,R⟩,⟨ω,by simp only[rJ];omega,qH _⟩,by simp only[rJ];omega,D,λz d=>i z (qI _ d), .inr ⟨e,E,rfl⟩, .inr ⟨f,i f (rB ..),rfl⟩,?_⟩;rw[J4,qC,rU,rU]at g;have O:f.1=e.1:=g.2;show I8 c (e::a) (f::b)=put e.1 (c (e.2,f.2,())) (I8 c a b);rw[I8,qL ω,qT O.symm]
      refine⟨by simp only[rJ];omega,D,i, .inr ⟨e,E,rfl⟩, .inl rfl,?_⟩;show I8 c (e::a) b=put e.1 (c (e.2,zr,())) (I8 c a b);cases b with
      |nil=>rw[I8]
      |cons f b=>
       have O:¬f.1=e.1:=by
        have:decide ((gx D7 (f::b) 0).1=(gx D7 (e::a) 0).1)=false:=by simpa[M0]using g
        exact qB this
       have R:e.1<=f.1:=by
        have:decide ((gx D7 (e::a) 0).1<=(gx D7 (f::b) 0).1)=true:=by
         rw[H5,J4]at h;simp only[rJ,uE,qC,rU]at h;rcases h with h|h
         . omega
         exact rF h.2
        exact qA this
       rw[I8,qT ω]
   . rw[H5,J4]at h;simp only[rE,wL,rO]at h;obtain⟨P,h⟩:=h;cases b with
     |nil=>simp at P
     |cons f b=>
      have D:(0:Int)<((f::b).length:Int):=by simp only[rJ];omega
      rw[A3b];refine⟨⟨qH _,D⟩,⟨qH _,D⟩,⟨ω,by simp only[rJ];omega,qH _⟩,by simp only[rJ];omega,k,λz d=>i z (qI _ d), .inl rfl, .inr ⟨f,i f (rB ..),rfl⟩,?_⟩;show I8 c a (f::b)=put f.1 (c (zr,f.2,())) (I8 c a b);cases a with
      |nil=>rw[I8]
      |cons e a=>
       have E:¬e.1<=f.1:=by
        rcases h with h|h
        . simp at h
        exact h
       rw[I8,qL ω,qL ω]
   rintro⟨a3,a4,(G:Int),X,Y,Z,a0,a1,a2,_⟩ _ ⟨r,s,t,H,I,w⟩;simp only at r s t H I w|-;refine⟨by trivial,U _ _ H I,λ_=>⟨trivial,?_⟩⟩;rintro⟨a8,_⟩ _ o;simp only at o|-;generalize c (((X,Y),Z),((a0,a1),a2),())=z at*;have T:∀(α:Type) (l:List α) (y:α),(l++ [y]).length=l.length+1:=fun α l y=>by simp
   refine⟨λh=>⟨⟨by simp only[qX];omega,by simp only[qX];omega⟩,⟨s,t,?_,?_⟩,r⟩,λh=>⟨⟨s,t,?_,ω⟩,r⟩⟩
   . have h:=qA h;have d:¬rv z=0:=λh0=>h (by rw[o,h0];rfl)
     rw[<-j,w,put,qL d,uC];rfl
   . show(J++ [(G,z)]).length+ _ <= _;rw[T];omega
   have h:=qB h;have d:rv z=0:=AE (by rw[<-o];exact tS.1 h);rw[<-j,w,put,qT d]
 rw[H5]at n;simp only[rE,rO]at n;have N:a= []:=qM ω;have g:b= []:=qM ω;subst N g;rw[I8,vY]at j;exact j
def IR:sr Dj Wr:=λx u _=>by
 obtain⟨l,n,_⟩:=x;have v:l.length<=9223372036854775807:=u.1.1;change List C8 at l;change Int at n;simp only[Wr,iB,Od];refine⟨trivial,?_⟩;rintro⟨w,_⟩ _ j;simp only at j|-;refine⟨λh=>?_,λh=>?_⟩
 . have:¬asc l:=by
    rw[j]at h;simpa using h
   exact(rI λk=>this k.1).symm
 have s:asc l:=by
  rw[j]at h;simpa using h
 refine⟨λp=>0<=p.1/\∀e∈l.take p.1.toNat,0<=e.1/\e.1<n/\rv e.2≠0,λp=>((l.length:Int)-p.1).toNat,⟨qH _,by simp⟩,?_⟩;rintro⟨(o:Int),_⟩ _ ⟨c,f⟩;simp only at c f|-;refine⟨λb=>?_,λb=>?_⟩
 . have b:=qA b;refine⟨⟨c,b⟩,λ_=>trivial,?_⟩;rintro⟨y,_⟩ g;simp only at g|-;simp only[H5]at g|-;have t:gx D7 l o∈l:=G4 c b;refine⟨λa=>?_,λa=>?_⟩
   . refine(rI λk=>?_).symm;have:=k.2 _ t;simp only[uE,rU]at a;rcases a with(a|a) |a
     . omega
     . omega
     have i:=(g (by simp only[rE,rO];omega)).2;exact this.2.2 (AE (by rw[<-i];exact a))
   simp only[rE,rO]at a;have i:=(g (by simp only[rE,rO];exact a.1)).2;rw[wv ω];refine⟨⟨ω,Nr (d:=D7) (q:=λe=>0<=e.1/\e.1<n/\rv e.2≠0) c b f ⟨ω,ω,λr=>a.2 (by rw[i,r];rfl)⟩⟩,ω⟩
 have b:=qB b;rw[E9 ω]at f;exact(rF ⟨s,f⟩).symm
def FP:sr Bz Tf:=λx b a=>by
 simp only[Tf,P6];exact⟨a,λr _ h=>h⟩
def iX {k:Nat} {v:List C8} (h:LE k v) {u:D4} (b:u=zr\/∃e∈v,e.2=u):sz k u:=by
 rcases b with rfl| ⟨e,a,rfl⟩
 . exact⟨rS _,rS _⟩
 exact h e a
def MG:sr Ch BO:=λx I a=>by
 obtain⟨(l:List C8),_⟩:=x;have a:Jw l:=a;have v:UX l:=a.elim (λh=> .inl h.1) .inr;simp only[BO,P6,SP];refine⟨v,?_⟩;rintro⟨(r:List C8),_⟩ _ ⟨s,t⟩;simp only at s t|-;have E:asc r/\(∀j,A4 r j=A4 l j)/\LE K1 r/\r.length<=100000:=by
  by_cases h:asc l
  . rw[s h];rcases a with⟨_,i,d⟩ | ⟨i,d⟩
    . exact⟨h,λ_=>rfl,i,d⟩
    exact⟨h,λ_=>rfl,λe f=>G7 (d e f) δ,ω⟩
  obtain⟨b,c,H,u⟩:=t h;exact⟨b,c,λe f=>G7 (u e f) δ,ω⟩
 obtain⟨z,A,B,D⟩:=E;refine⟨λy=>sz K1 y.1,λy=>rc (rv y.1),?_,⟨D,ω,λF G g _=>iX B g⟩,?_⟩
 . rintro⟨F,G,_⟩ _ g;exact⟨R8 (k:=K1) g δ,λJ _ w=>⟨by trivial,w⟩⟩
 rintro⟨q,_⟩ _ n;simp only at n|-;rw[n];obtain⟨b,c⟩:=A6p z;exact⟨b,λo=>(c o).trans (A o)⟩
def PT:sr Dw GM:=λx n w=>by
 obtain⟨v,k,_⟩:=x;have t:Xd v:=Ue n.1.2;have H:v.length<=9223372036854775807:=n.1.1;change List C8 at v;change Int at k;obtain⟨s,l,G⟩:ER K1 v:=w;simp only[GM,iB,P6];refine⟨trivial,?_⟩;rintro⟨D,_⟩ _ g;simp only at g|-;have g:D=rc 0:=by rw[g, <-YA];rfl
 refine⟨λp=>0<=p.1/\p.1<=(v.length:Int)/\((p.2.1,p.2.2.1),p.2.2.2.1)=rc (A4 (v.take p.1.toNat) k),λp=>((v.length:Int)-p.1).toNat,⟨qH _,qF _,by rw[g];rfl⟩,?_⟩;rintro⟨(i:Int),o,m,d,_⟩ _ ⟨f,r,b⟩;simp only at f r b|-;refine⟨λh=>?_,λh=>?_⟩
 . have h:=qA h;have u:gx D7 v i∈v:=G4 f h;have A:v.take (i+1).toNat=v.take i.toNat++ [gx D7 v i]:=by
    rw[(ω:(i+1).toNat=i.toNat+1),rP,H3 (d:=D7) f h];rfl
   have y:=CK (v:=v.take i.toNat) (k:=K1) (s.take) (λe a=>t e (rQ a)) (λe a=>l e (rQ a)) δ k;have z:=l _ u;have j:A4 (v.take (i+1).toNat) k=A4 (v.take i.toNat) k+if(gx D7 v i).1=k then rv (gx D7 v i).2 else 0:=by
    rw[A,R2];simp only[A4,rD]
   generalize gx D7 v i=e at*;refine⟨λp=>((p.1,p.2.1),p.2.2.1)=rc (A4 (v.take (i+1).toNat) k),⟨⟨f,h⟩,λa=>⟨⟨?_,R8 (k:=K1) z δ⟩,?_⟩,λa=>?_⟩,?_⟩
   . rw[b];exact Ik y δ
   . have a:=qA a;rintro⟨B,_⟩ _ c;simp only at c|-;show B= _;rw[c,b,L5,j,qT a]
   . have a:=qB a;show((o,m),d)= _;rw[b,j,qL a,rD]
   rintro⟨E,I,F,_⟩ _ c;simp only at c|-;rw[wv ω];exact⟨⟨ω,ω,c⟩,ω⟩
 have h:=qB h;rw[E9 ω]at b;exact b
def B8n {l:List D4} {i:Int} (a:0<=i) (b:i<(l.length:Int)):gx dQ l i=l.getD i.toNat zr:=L3 (d:=zr) a b
def Vu:sr Q7 Kf:=λx s F=>by
 obtain⟨(l:List D4),_⟩:=x;obtain⟨I,G⟩:l.length<=100000/\eV K1 l:=F;simp only[Kf,iB,P6,Ef];refine⟨λp=>0<=p.2.1/\p.2.1<=(l.length:Int)/\p.1.length<=p.2.1.toNat/\Vx p.2.1.toNat (λj=>rv (l.getD j zr)) p.1,λp=>((l.length:Int)-p.2.1).toNat,⟨qH _,qF _,qU _,Iu,λ_ h=>(by cases h),λj k=>by simp at k⟩,?_⟩;rintro⟨(v:List C8),(i:Int),_⟩ _ ⟨c,z,A,b⟩;simp only at c z A b|-;refine⟨λh=>?_,λh=>?_⟩
 . have h:=qA h;have E:gx dQ l i∈l:=G4 c h;have u:=G _ E;have B:=B8n c h;have n:∀e∈v,e.1<i:=λe a=>by have:=(b.2.1 e a).2;omega
   rw[B]at u|-;have r:∀w:List C8,U8 w->(∀e∈w,e∈v\/e.1=i)->(∀j:Int,A4 w j=A4 v j+if i=j then rv (l.getD i.toNat zr)else 0)->Vx (i+1).toNat (λj=>rv (l.getD j zr)) w:=λw hc s hcm=>by
    refine⟨hc,λe a=>?_,λj k=>?_⟩
    . rcases s e a with a|a
      . have:=b.2.1 e a;omega
      omega
    rw[hcm];by_cases D:j<i.toNat
    . rw[b.2.2 j D,qL ω,rD]
    have:j=i.toNat:=ω
    rw[C7 λe a H=>by have:=n e a;omega,qT ω,sX,this]
   refine⟨λp=>p.1.length<=(i+1).toNat/\Vx (i+1).toNat (λj=>rv (l.getD j zr)) p.1,⟨⟨c,h⟩,trivial,?_⟩,?_⟩
   . rintro⟨J,_⟩ _ g;simp only at g|-;refine⟨λd=>⟨R8 u δ,?_⟩,λa=>⟨by show v.length<= _;omega,r v b.1 (λe a=> .inl a) λj=>?_⟩⟩
     . rintro⟨y,_⟩ _ o;simp only at o|-;have d:=qA d;have f:rv (l.getD i.toNat zr)≠0:=λc=>d (by rw[g,c];rfl)
       refine⟨⟨by simp only[qX];omega,by simp only[qX];omega⟩,by show(v++ [(i,y)]).length<= _;simp;omega,?_⟩;show Vx _ _ (v++ [(i,y)]);rw[o];exact r _ (Fq b.1 f n) (λe a=>by
        rcases qS.1 a with a|a
        . exact .inl a
        rw[qK.1 a];exact .inr rfl) λj=>Cd v i _ j
     have a:=qB a;have f:rv (l.getD i.toNat zr)=0:=AE (by rw[<-g];exact tS.1 a);rw[f,ite_self,rD]
   rintro⟨w,_⟩ _ t;simp only at t|-;rw[wv ω];exact⟨⟨ω,ω,t⟩,ω⟩
 have h:=qB h;rw[(ω:i.toNat=l.length)]at b;exact b
def IP:sr Ap Wo:=λx a0 O=>by
 obtain⟨(v:List C8),(n:Int),_⟩:=x;obtain⟨P,Q,I,a1⟩:ER K1 v/\F1 v n/\0<=n/\n<=16384:=O;simp only[Wo,iB,P6];refine⟨λh=>?_,λ_=>⟨.inl P,?_⟩⟩
 . rw[H5]at h;simp only[uE,rU]at h;omega
 rintro⟨(c:List C8),_⟩ ⟨⟨J,_⟩,_⟩ ⟨l,t⟩;simp only at l t J|-;have u:∀e∈c,0<=e.1/\e.1<n:=λe a=>by
  have:A4 v e.1≠0:=by rw[<-t,N2 l.1 a];exact(l.2 e a).1
  exact YX Q this
 refine⟨λh=>⟨qH _,qA h⟩,λh=>?_,λh=>?_,λ_=>⟨⟨I,qH _,ω,ω⟩,?_⟩⟩
 . have:=qA h.2;rw[wv ω];omega
 . rw[J4,H5]at h;simp only[qC,uE,rU]at h;obtain⟨r,h⟩:=h;have X:=u _ (G4 (d:=D7) (i:=0) (qH _) r);rw[wv ω]at h;have Y:=u _ (G4 (d:=D7) (i:=(c.length:Int)-1) ω ω);have V:(c.getD (Int.toNat 0) D7).1=(gx D7 c 0).1:=rfl;have W:(c.getD (Int.toNat ((c.length:Int)-1)) D7).1=(gx D7 c ((c.length:Int)-1)).1:=rfl;omega
 have D:(List.replicate n.toNat dQ).length=n.toNat:=rK;rw[D];refine⟨λp=>0<=p.2.1/\p.2.1<=n/\fill n.toNat p.2.1.toNat (λj:Nat=>rc (A4 v (j:Int))) p.2.2.1/\U8 p.1/\(∀e∈p.1,p.2.1<=e.1)/\∀j,p.2.1<=j->A4 p.1 j=A4 v j,λp=>(n-p.2.1).toNat,⟨qH _,I,B0a D,l,λe a=>(u e a).1,λj _=>t j⟩,?_⟩;rintro⟨(d:List C8),(i:Int),(out:List D4),_⟩ _ ⟨k,R,g,f,w,o⟩;simp only at k R g f w o|-;refine⟨λh=>?_,λh=>?_⟩
 . have h:=qA h;have Z:=g.1;have A:=o i (qH _);refine⟨λp=>fill n.toNat (i+1).toNat (λj:Nat=>rc (A4 v (j:Int))) p.2.1/\U8 p.1/\(∀e∈p.1,i+1<=e.1)/\∀j,i+1<=j->A4 p.1 j=A4 v j,⟨λh=>⟨qH _,qA h⟩,λb=>?_,λb=>⟨trivial,?_⟩⟩,?_⟩
   . rw[J4]at b;simp only[qC,rU]at b;obtain⟨r,a⟩:=b;cases d with
     |nil=>simp at r
     |cons e d=>
      have a:e.1=i:=a;have N:(1:Int)<=((e::d).length:Int):=by simp only[rJ];omega
      rw[A3b];have y:∀z∈d,i+1<=z.1:=λz hz=>by have:=(H7.1 f.1).1 z hz;omega
      refine⟨⟨qH _,r⟩,⟨k,ω⟩,⟨ω,N,qH _⟩,?_,NI f,y,λj M=>?_⟩
      . refine JU g k ω ?_;show e.2= _;rw[(ω:((i.toNat:Nat):Int)=i), <-A, <-a,N1 f.1];exact(f.2 e (rB ..)).2
      rw[<-o j ω,Y9 ω]
   . rintro⟨T,_⟩ _ s;simp only at s|-;have s:T=rc 0:=by rw[s, <-YA];rfl
     have B:∀e∈d,e.1≠i:=λe a hei=>by
      cases d with
      |nil=>cases a
      |cons y d=>
       rw[J4]at b;simp only[wL,rO]at b;rcases b with b|b
       . simp at b
       have b:¬y.1=i:=b;rcases qV.1 a with rfl|a
       . exact b hei
       have:=(H7.1 f.1).1 e a;have:=w y (rB ..);omega
     refine⟨⟨k,ω⟩,?_,f,λe a=>?_,λj M=>o j ω⟩
     . refine JU g k ω ?_;rw[s,(ω:((i.toNat:Nat):Int)=i), <-A,C7 B]
     have:=w e a;have:=B e a;omega
   rintro⟨U,a2,_⟩ _ ⟨E,F,G,H⟩;simp only at E F G H|-;rw[wv ω];exact⟨⟨ω,ω,E,F,G,H⟩,ω⟩
 have h:=qB h;exact⟨VW g ω,by trivial⟩
def Qi:sr R7 Hv:=λx j l=>by
 obtain⟨p,q,f,_⟩:=x;have o:Xe q:=KB j.2.1;have n:Xe f:=KB j.2.2.1;change D4 at p q f;obtain⟨c,d,b⟩:sz K1 p/\sz K1 q/\sz K1 f:=l;simp only[Hv,iB,P6,Ef];refine⟨trivial,?_⟩;rintro⟨s,_⟩ _ g;simp only at g|-;refine⟨λh=>⟨R8 c δ,?_⟩,λ_=>⟨⟨R8 b δ,R8 d δ⟩,?_⟩⟩
 . rintro⟨r,_⟩ _ a;simp only at a|-;have h:=qA h;rw[g]at h;rw[a,AE h,sN,rD]
 rintro⟨r,_⟩ _ a;simp only at a|-;have k:=Pu (Ly n b δ) (Ly o d δ);refine⟨⟨R8 c δ,by rw[a];exact Ik k δ⟩,?_⟩;rintro⟨t,_⟩ _ i;simp only at i|-;rw[i,a,L5]
def Vt:sr N0 Ke:=λx D t=>by
 obtain⟨(b:List C8),(f:D4),(d:List C8),_⟩:=x;obtain⟨⟨c,k,l⟩,s,g,n,o⟩:ER K1 b/\sz K1 f/\ER K1 d:=t;simp only[Ke,P6,SP];refine⟨.inl c,?_⟩;rintro⟨r,_⟩ _ ⟨a,_⟩;have a:r=b:=a c;simp only;subst a;refine⟨.inl g,?_⟩;rintro⟨z,_⟩ _ ⟨h,_⟩;have h:z=d:=h g;simp only;subst h;refine⟨λy=>sz K1 y.1/\sz K1 y.2.1,λy=>rc (rv y.1+rv f*rv y.2.1),?_,⟨l,o,λA B i j=>⟨iX k i,iX n j⟩⟩,?_⟩
 . rintro⟨A,B,_⟩ _ ⟨i,j⟩;exact⟨⟨i,j,s⟩,λE _ u=>⟨by trivial,u⟩⟩
 rintro⟨r,_⟩ _ a;simp only at a|-;rw[a];obtain⟨v,_,w⟩:=Yy (λy=>rc (rv y.1+rv f*rv y.2.1)) (λp q=>p+rv f*q) (by rw[sN,rD]) _ _ (λ_ _ _ _=>rfl) c g;exact⟨v,w⟩
def bE {l:Wf} {v:Int} {a:Nat} (f:l.Pairwise (· < ·)) (g:∀y∈l.take a,y<v) (i:∀y,l[a]? =some y->v<y):(l.take a++ [v]++l.drop a).Pairwise (· < ·):=by
 have h:∀y∈l.drop a,v<y:=λy b=>by
  rw[<-tP a l,tF]at f;cases d:l.drop a with
  |nil=>rw[d]at b;cases b
  |cons z r=>
   have c:v<z:=i z (by rw[<-List.head?_drop,d];rfl);rw[d]at b;rcases qV.1 b with rfl|b
   . exact c
   have:=f.2.1;rw[d,g4a]at this;have:=this.1 y b;omega
 rw[tF,tF];refine⟨⟨f.take,wC _ _,λy b z c=>?_⟩,f.drop,λy b z c=>?_⟩
 . rw[qK.1 c];exact g y b
 rcases qS.1 b with b|b
 . have:=g y b;have:=h z c;omega
 rw[qK.1 b];exact h z c
def ME:sr Fa BL:=λx a3 T=>by
 obtain⟨c,_⟩:=x;change List (List (Int×(Bool×Wf)×Wf))at c;obtain⟨a0,W⟩:c.length<=4/\∀v∈c,v.length<=100000:=T;simp only[BL,iB];refine⟨λp=>0<=p.2.1/\p.2.1<=(c.length:Int)/\p.1.length<=100000*p.2.1.toNat/\p.1.Pairwise (· < ·)/\∀i,i∈p.1↔∃v∈c.take p.2.1.toNat,∃e∈v,e.1=i,λp=>((c.length:Int)-p.2.1).toNat,⟨qH _,qF _,by simp,List.Pairwise.nil,λi=>by simp⟩,?_⟩;rintro⟨(out:Wf),(j:Int),_⟩ _ ⟨z,u,r,E,A⟩;simp only at z u r E A|-;refine⟨λh=>?_,λh=>?_⟩
 . have h:=qA h;have a2:=W _ (G4 (d:=([]:List (Int×(Bool×Wf)×Wf))) z h);have V:c.take (j+1).toNat=c.take j.toNat++ [gx [] c j]:=by
    rw[(ω:(j+1).toNat=j.toNat+1),rP,H3 (d:=([]:List (Int×(Bool×Wf)×Wf))) z h];rfl
   generalize gx ([]:List (Int×(Bool×Wf)×Wf)) c j=v at*;refine⟨⟨z,h⟩,λp=>0<=p.2.1/\p.2.1<=(v.length:Int)/\p.1.length<=100000*j.toNat+p.2.1.toNat/\p.1.Pairwise (· < ·)/\∀i,i∈p.1↔(∃v∈c.take j.toNat,∃e∈v,e.1=i)\/∃e∈v.take p.2.1.toNat,e.1=i,λp=>((v.length:Int)-p.2.1).toNat,⟨qH _,qF _,by simpa using r,E,λi=>by rw[A];simp⟩,?_⟩;rintro⟨(o:Wf),(k:Int),_⟩ _ ⟨t,P,Q,w,y⟩;simp only at t P Q w y|-;refine⟨λn=>?_,λn=>?_⟩
   . have n:=qA n;have X:v.take (k+1).toNat=v.take k.toNat++ [gx D7 v k]:=by
      rw[(ω:(k+1).toNat=k.toNat+1),rP,H3 (d:=D7) t n];rfl
     have I:∀i,((∃v∈c.take j.toNat,∃e∈v,e.1=i)\/∃e∈v.take (k+1).toNat,e.1=i)↔(i∈o\/(gx D7 v k).1=i):=λi=>by
      rw[y i,X];constructor
      . rintro(h| ⟨e,s,rfl⟩)
        . exact .inl (.inl h)
        rcases qS.1 s with s|s
        . exact .inl (.inr ⟨e,s,rfl⟩)
        rw[qK.1 s];exact .inr rfl
      rintro((h| ⟨e,s,rfl⟩) |rfl)
      . exact .inl h
      . exact .inr ⟨e,qS.2 (.inl s),rfl⟩
      exact .inr ⟨_,qS.2 (.inr (by simp)),rfl⟩
     generalize gx D7 v k=e at*;refine⟨λp=>p.1.length<=100000*j.toNat+k.toNat+1/\p.1.Pairwise (· < ·)/\∀i,i∈p.1↔(∃v∈c.take j.toNat,∃e∈v,e.1=i)\/∃e∈v.take (k+1).toNat,e.1=i,?_,?_⟩
     . refine⟨λp=>0<=p.1/\p.1<=(o.length:Int)/\∀H∈o.take p.1.toNat,H<e.1,λp=>((o.length:Int)-p.1).toNat,⟨qH _,qF _,by simp⟩,?_⟩;rintro⟨(a:Int),_⟩ _ ⟨f,B,D⟩;simp only at f B D|-;refine⟨λb=>⟨f,qA b⟩,λ_=>⟨t,n⟩,λb=>?_,λb=>⟨λb=>⟨f,qA b⟩,λ_=>⟨t,n⟩,λg=>?_,λg=>?_⟩⟩
       . rw[J4]at b;simp only[qC,rU]at b;rw[wv ω];refine⟨⟨ω,ω,Nr (d:=(0:Int)) f b.1 D ?_⟩,ω⟩;rw[L3 f b.1];exact b.2
       . rw[J4]at g;simp only[qC,rU]at g;refine⟨by show o.length<= _;omega,w,λi=>?_⟩;rw[I i];constructor
         . exact .inl
         rintro(R|rfl)
         . exact R
         have:=G4 (d:=(0:Int)) f g.1;rw[L3 f g.1,g.2]at this;exact this
       rw[J4]at b g;simp only[wL,rO]at b g;have N:(o.take a.toNat).drop (Int.toNat 0)=o.take a.toNat:=rfl;have O:o.take ((o.length:Int)).toNat=o:=by rw[qO,vF]
       rw[N,O];have a4:(o.take a.toNat).length<=o.length:=by rw[qY];omega
       have a5:(o.drop a.toNat).length<=o.length:=by rw[sL];omega
       have a6:(o.take a.toNat++ [e.1]++o.drop a.toNat).length=o.length+1:=by
        simp only[rN,qY,sL,qX];omega
       refine⟨⟨qH _,f,B⟩,⟨ω,ω⟩,⟨t,n⟩,⟨by simp only[qX];omega,by simp only[qX];omega⟩,⟨f,B,qH _⟩,⟨?_,?_⟩,⟨by show(o.take a.toNat++ [e.1]++o.drop a.toNat).length<= _;omega,?_,λi=>?_⟩⟩
       . simp only[rN,qX];omega
       . simp only[rN,qX];omega
       . refine bE w D λH F=>?_
         have a1:a.toNat<o.length:=by
          rcases sH a.toNat o.length with h|h
          . exact h
          rw[rT h]at F;cases F
         have Y:o.getD a.toNat 0=H:=by rw[qE,F];rfl
         rw[Y]at b g;omega
       rw[I i];simp only[qS,qK];have U:i∈o↔i∈o.take a.toNat\/i∈o.drop a.toNat:=by
        conv=>lhs;rw[<-tP a.toNat o]
        exact qS
       rw[U];constructor
       . rintro((h|h) |h)
         . exact .inl (.inl h)
         . exact .inr h.symm
         exact .inl (.inr h)
       rintro((h|h) |h)
       . exact .inl (.inl h)
       . exact .inr h
       exact .inl (.inr h.symm)
     rintro⟨a7,_⟩ _ ⟨Z,J,M⟩;simp only at Z J M|-;rw[wv ω];exact⟨⟨ω,ω,ω,J,M⟩,ω⟩
   have n:=qB n;rw[wv ω];rw[E9 (l:=v) (i:=k) ω]at y;refine⟨⟨ω,ω,ω,w,λi=>?_⟩,ω⟩;rw[y i,V];simp only[qS,qK];constructor
   . rintro(⟨G,u,r⟩ |h)
     . exact⟨G, .inl u,r⟩
     exact⟨v, .inr rfl,h⟩
   rintro⟨G,u|rfl,r⟩
   . exact .inl ⟨G,u,r⟩
   exact .inr r
 have h:=qB h;rw[E9 ω]at A;exact⟨E,A⟩
def FL:sr Bv Ta:=λx N M=>by
 obtain⟨a,f,_⟩:=x;have U:a.length<=9223372036854775807:=N.1.1;change List (Int×(Bool×Wf)×Wf)at a f;have O:∀e∈a,N6 e.2:=λe he=>R8 ((show LE K1 a from M) e he) δ
 simp only[Ta,iB];refine⟨λh=>?_,λh=>?_⟩
 . have h:=qA h;exact(rI λe=>h (by rw[e.1])).symm
 have V:a.length=f.length:=by have:=qB h;omega
 refine⟨λp=>0<=p.1/\p.1<=(a.length:Int)/\a.take p.1.toNat=f.take p.1.toNat/\∀e∈a.take p.1.toNat,e.2=rc (rv e.2),λp=>((a.length:Int)-p.1).toNat,⟨qH _,qF _,by simp,by simp⟩,?_⟩;rintro⟨(i:Int),_⟩ _ ⟨c,G,n,o⟩;simp only at c G n o|-;refine⟨λh=>?_,λh=>?_⟩
 . have h:=qA h;have A:=G4 (d:=D7) c h;have y:=H3 (d:=D7) c h;have g:=H3 (d:=D7) (l:=f) c ω;have z:a.take (i+1).toNat=a.take i.toNat++ [gx D7 a i]:=by
    rw[(ω:(i+1).toNat=i.toNat+1),rP,y];rfl
   have B:f.take (i+1).toNat=f.take i.toNat++ [gx D7 f i]:=by
    rw[(ω:(i+1).toNat=i.toNat+1),rP,g];rfl
   generalize gx D7 a i=e at*;generalize gx D7 f i=F at*;obtain⟨v,ev⟩:=e;obtain⟨w,fv⟩:=F;simp only at A y g z B|-;refine⟨⟨c,h⟩,⟨c,ω⟩,λ_=>⟨c,h⟩,λ_=>O _ A,?_⟩;rintro⟨u,_⟩ b;refine⟨λ_=>⟨c,h⟩,λ_=>⟨c,ω⟩,λ_=>trivial,?_⟩;rintro⟨E,_⟩ j;change Bool at u E;simp only at b j|-;rw[H5]at j;rw[H5,H5];have D:(decide (v≠w) || !u|| !E)=false↔v=w/\ev=rc (rv ev)/\ev=fv:=by
    by_cases t:v=w
    . have b:=(b (by simp[t])).2;by_cases s:ev=rc (rv ev)
      . have b:u=true:=by rw[b];exact rF s
        have j:=(j (by simp[t,b])).2;rw[j,b];simp[t, <-s]
      have b:u=false:=by rw[b];exact rI s
      rw[b];simp[s]
    simp[t]
   refine⟨λr=>?_,λr=>?_⟩
   . refine(rI λI=>?_).symm;obtain⟨H,J⟩:=I;subst H;rw[y]at g;have g:=xK g;rw[g0i]at g;have:=D.2 ⟨g.1,J _ A,g.2⟩;rw[this]at r;cases r
   obtain⟨P,Q,R⟩:=D.1 r;rw[wv ω];refine⟨⟨ω,ω,?_,?_⟩,ω⟩
   . rw[z,B,n,P,R]
   rw[z];intro T k;rcases qS.1 k with k|k
   . exact o T k
   rw[qK.1 k];exact Q
 have h:=qB h;rw[E9 ω,E9 ω]at n;rw[E9 ω]at o;exact(rF ⟨n,o⟩).symm
def Tr {l:List C8} {e:C8} :asc (l++ [e])↔asc l/\∀x∈l,x.1<e.1:=by
 unfold asc;rw[tF];simp
def TA:sr Jg MF:=λx N I=>by
 obtain⟨v,o,_⟩:=x;have Y:v.length<=9223372036854775807:=N.1.1;change List (Int×(Bool×Wf)×Wf)at v;change Int at o;have O:∀e∈v,N6 e.2:=λe j=>R8 ((show LE K1 v from I) e j) δ
 simp only[MF,iB];refine⟨λp=>0<=p.1/\p.1<=(v.length:Int)/\F1 (v.take p.1.toNat) o,λp=>((v.length:Int)-p.1).toNat,⟨qH _,qF _,List.Pairwise.nil,by simp⟩,?_⟩;rintro⟨(i:Int),_⟩ _ ⟨a,E,b,r⟩;simp only at a E b r|-;refine⟨λh=>?_,λh=>?_⟩
 . have h:=qA h;have A:=G4 (d:=D7) a h;have D:=H3 (d:=D7) a h;have u:v.take (i+1).toNat=v.take i.toNat++ [gx D7 v i]:=by
    rw[(ω:(i+1).toNat=i.toNat+1),rP,D];rfl
   have J:0<i->((∀x∈v.take i.toNat,x.1<(gx D7 v i).1)↔¬(gx D7 v i).1<=(gx D7 v (i64.wrap (i-1))).1):=λg=>by
    rw[wv ω];have w:=H3 (d:=D7) (l:=v) (i:=i-1) ω ω;have M:v.take i.toNat=v.take (i-1).toNat++ [gx D7 v (i-1)]:=by
     rw[(ω:i.toNat=(i-1).toNat+1),rP,w];rfl
    rw[M]at b|-;constructor
    . intro f;have:=f (gx D7 v (i-1)) (by simp);omega
    intro f x c;rcases qS.1 c with c|c
    . have:=(Tr.1 b).2 x c;omega
    rw[qK.1 c];omega
   have P:0<i->i64.wrap (i-1)=i-1:=λ_=>wv ω
   generalize gx D7 v (i64.wrap (i-1))=t at*;generalize gx D7 v i=e at*;refine⟨⟨a,h⟩,λ_=>⟨a,h⟩,λ_=>⟨a,h⟩,λf=>?_,λ_=>⟨a,h⟩,λ_=>O _ A,?_⟩
   . have g:=qA f.1;rw[P g];exact⟨ω,ω⟩
   rintro⟨(B:Int),_⟩ k;simp only at k|-;rw[H5,J4,H5]at k;rw[H5,J4,H5,H5];have z:(decide (e.1<0) ||decide (o<=e.1) || (decide (0<i)&&decide (e.1<=t.1)) ||decide (B=0))=false↔0<=e.1/\e.1<o/\(∀x∈v.take i.toNat,x.1<e.1)/\rv e.2≠0:=by
    have M:(∀x∈v.take i.toNat,x.1<e.1)↔(decide (0<i)&&decide (e.1<=t.1))=false:=by
     by_cases g:0<i
     . rw[J g];simp[g]
     have:i.toNat=0:=ω
     rw[this];simp[g]
    rw[M];by_cases c:(decide (e.1<0) ||decide (o<=e.1) || (decide (0<i)&&decide (e.1<=t.1)))=false
    . have k:=(k c).2;rw[c,k];simp only[rE,rO]at c;obtain⟨⟨V,W⟩,w⟩:=c;rw[w];simp only[Bool.or_false,wE,rO];exact⟨λh=>⟨ω,ω,by trivial,λa=>h (by rw[a];rfl)⟩,λh a=>h.2.2.2 (AE a)⟩
    rw[rE];constructor
    . intro f;exact absurd f.1 c
    rintro⟨V,W,w,_⟩;refine absurd ?_ c;simp only[rE,rO];exact⟨⟨ω,ω⟩,w⟩
   refine⟨λs=>?_,λs=>?_⟩
   . refine(rI λF=>?_).symm;obtain⟨G,H⟩:=F;have j:=H e A;have y:asc (v.take (i+1).toNat):=g1c G;rw[u,Tr]at y;have:=z.2 ⟨j.1,j.2.1,y.2,j.2.2⟩;rw[this]at s;cases s
   obtain⟨Q,R,T,U⟩:=z.1 s;rw[wv ω];refine⟨⟨ω,ω,?_,?_⟩,ω⟩
   . show asc _;rw[u,Tr];exact⟨b,T⟩
   rw[u];intro X n;rcases qS.1 n with n|n
   . exact r X n
   rw[qK.1 n];exact⟨Q,R,U⟩
 have h:=qB h;rw[E9 ω]at b r;exact(rF ⟨b,r⟩).symm
def oH {s:Nat} (a:1<=s) (k:Int):∀ {v:List C8},Xd v->LE s v->qs ((s+1)*v.length+1) (A4 v k)
 | [],_,_=>N7 (by simp)
 |e::v,b,c=>by
  have f:=oH a k (λx hx=>b x (qI _ hx)) (λx hx=>c x (qI _ hx));have d:qs s (if e.1=k then rv e.2 else 0):=by
   split
   . exact Ly (b e (rB ..)) (c e (rB ..)) a
   exact N7 a
  refine H4 (Zo d f) ?_;rw[rJ,tC];omega
def B2c {v:List C8} (c:Xd v) (a:Jw v) (n:Nat) (k:Int):qs K1 (A4 (v.take n) k):=by
 rcases a with⟨f,b,_⟩ | ⟨d,b⟩
 . exact CK f.take (λe a=>c e (rQ a)) (λe a=>b e (rQ a)) δ k
 refine H4 (oH (s:=65536) δ k (λe a=>c e (rQ a)) (λe a=>b e (rQ a))) ?_;rw[qY];have:min n v.length<=20:=qZ (Nat.min_le_right ..) d;have:=sQ 65537 this;show 65537* _ +1<=549755813888;omega
def A4c {v:List C8} (a:Jw v):v.length<=100000:=by
 rcases a with⟨_,_,h⟩ | ⟨h,_⟩<;>omega
def B2d {v:List C8} (a:Jw v):LE K1 v:=by
 rcases a with⟨_,h,_⟩ | ⟨_,h⟩
 . exact h
 exact λe a=>G7 (h e a) δ
def bV:sr Sk ZY:=λx l f=>by
 obtain⟨v,k,_⟩:=x;have s:Xd v:=Ue l.1.2;have F:v.length<=9223372036854775807:=l.1.1;change List C8 at v;change Int at k;have f:Jw v:=f;have w:=B2d f;have E:=A4c f;simp only[ZY,iB,P6];refine⟨trivial,?_⟩;rintro⟨H,_⟩ _ n;simp only at n|-;refine⟨λp=>0<=p.1/\p.1<=(v.length:Int)/\((p.2.1,p.2.2.1),p.2.2.2.1)=rc (A4 (v.take p.1.toNat) k),λp=>((v.length:Int)-p.1).toNat,⟨qH _,qF _,by rw[n];rfl⟩,?_⟩;rintro⟨(i:Int),o,m,d,_⟩ _ ⟨c,r,b⟩;simp only at c r b|-;refine⟨λh=>?_,λh=>?_⟩
 . have h:=qA h;have t:gx D7 v i∈v:=G4 c h;have z:v.take (i+1).toNat=v.take i.toNat++ [gx D7 v i]:=by
    rw[(ω:(i+1).toNat=i.toNat+1),rP,H3 (d:=D7) c h];rfl
   have u:=B2c s f i.toNat k;have y:=w _ t;have j:A4 (v.take (i+1).toNat) k=A4 (v.take i.toNat) k+if(gx D7 v i).1=k then rv (gx D7 v i).2 else 0:=by
    rw[z,R2];simp only[A4,rD]
   generalize gx D7 v i=e at*;refine⟨λp=>((p.1,p.2.1),p.2.2.1)=rc (A4 (v.take (i+1).toNat) k),⟨⟨c,h⟩,λa=>⟨⟨c,h⟩,⟨?_,R8 (k:=K1) y δ⟩,?_⟩,λa=>?_⟩,?_⟩
   . rw[b];exact Ik u δ
   . have a:=qA a;rintro⟨A,_⟩ _ g;simp only at g|-;show A= _;rw[g,b,L5,j,qT a]
   . have a:=qB a;show((o,m),d)= _;rw[b,j,qL a,rD]
   rintro⟨B,G,D,_⟩ _ g;simp only at g|-;rw[wv ω];exact⟨⟨ω,ω,g⟩,ω⟩
 have h:=qB h;rw[E9 ω]at b;exact b
def B9k {r l:Wf} (h:r.Pairwise (· < ·)) (d:∀i∈r,i∈l):r.length<=l.length:=by
 have a:r.Nodup:=h.imp λh e=>ω
 clear h
 induction r generalizing l with
 |nil=>exact rS _
 |cons b r f=>
  rw[sP]at a;have c:=d b (rB ..);have:=f (l:=l.erase b) (λi hi=>by
   refine(g3g λe=>a.1 (by rw[<-e];exact hi)).2 (d i (qI _ hi))) a.2
  have a:=g1r c;have a:=g2k c;rw[rJ];omega
def ZZ:sr Mm RB:=λx u g=>by
 obtain⟨v,_⟩:=x;have Q:Xd v:=Ue u.1.2;change List C8 at v;have g:Jw v:=g;have W:=B2d g;have P:=A4c g;simp only[RB,iB,P6,Ef];refine⟨⟨by simp,λU u=>by rw[qK.1 u];exact P⟩,?_⟩;rintro⟨(r:Wf),_⟩ ⟨⟨R,_⟩,_⟩ ⟨B,J⟩;simp only at B J R|-;have M:∀i,i∈r↔∃e∈v,e.1=i:=λi=>by
  rw[J i];constructor
  . rintro⟨U,u,a⟩;rw[qK.1 u]at a;exact a
  intro a;exact⟨v,by simp,a⟩
 have V:r.length<=v.length:=by
  have:=B9k (l:=v.map λe:C8=>e.1) B λi s=>by
   obtain⟨e,a,rfl⟩:=(M i).1 s;exact vV a
  rwa[tI]at this
 refine⟨λp=>0<=p.2.1/\p.2.1<=(r.length:Int)/\p.1.length<=p.2.1.toNat/\U8 p.1/\(∀e∈p.1,e.1∈r.take p.2.1.toNat)/\(∀j∈r.take p.2.1.toNat,A4 p.1 j=A4 v j),λp=>((r.length:Int)-p.2.1).toNat,⟨qH _,qF _,qU _,Iu,λ_ h=>(by cases h),by simp⟩,?_⟩;rintro⟨(out:List C8),(j:Int),_⟩ _ ⟨n,N,O,w,f,o⟩;simp only at n N O w f o|-;refine⟨λh=>?_,λh=>?_⟩
 . have h:=qA h;have t:r.take (j+1).toNat=r.take j.toNat++ [gx 0 r j]:=by
    rw[(ω:(j+1).toNat=j.toNat+1),rP,H3 (d:=(0:Int)) n h];rfl
   have D:∀y∈r.take j.toNat,y<gx 0 r j:=λy hy=>by
    have:(r.take (j+1).toNat).Pairwise (· < ·):=B.take;rw[t,tF]at this;exact this.2.2 y hy _ (qK.2 rfl)
   have H:=B2c Q g v.length (gx 0 r j);rw[vF]at H;generalize gx 0 r j=i at*;have G:∀e∈out,e.1<i:=λe a=>D _ (f e a)
   have E:A4 out i=0:=C7 λe a z=>by have:=G e a;omega
   refine⟨λp=>p.1.length<=(j+1).toNat/\U8 p.1/\(∀e∈p.1,e.1∈r.take (j+1).toNat)/\∀k∈r.take (j+1).toNat,A4 p.1 k=A4 v k,⟨⟨n,h⟩,g,?_⟩,?_⟩
   . rintro⟨q,_⟩ _ I;simp only at I|-;subst I;refine⟨Ik H δ,?_⟩;rintro⟨Y,_⟩ _ A;simp only at A|-;rw[L5]at A;refine⟨λc=>⟨⟨by simp only[qX];omega,by simp only[qX];omega⟩,by show(out++ [(i,_)]).length<= _;simp;omega,?_,λe a=>?_,λk b=>?_⟩,λc=>⟨by show out.length<= _;omega,w,λe a=>by rw[t];exact qS.2 (.inl (f e a)),λk b=>?_⟩⟩
     . have c:=qA c;exact Fq w (λn=>c (by rw[A,n];rfl)) G
     . rw[t];rcases qS.1 a with a|a
       . exact qS.2 (.inl (f e a))
       rw[qK.1 a];exact qS.2 (.inr (qK.2 rfl))
     . show A4 (out++ [(i,rc (A4 v i))]) k=A4 v k;rw[Cd];rw[t]at b;rcases qS.1 b with b|b
       . have:=D k b;rw[qL ω,rD,o k b]
       rw[qK.1 b,qT rfl,E,sX]
     have c:=qB c;have T:A4 v i=0:=AE (by rw[<-A];exact tS.1 c);rw[t]at b;show A4 out k=A4 v k;rcases qS.1 b with b|b
     . exact o k b
     rw[qK.1 b,E,T]
   rintro⟨X,_⟩ _ F;simp only at F|-;rw[wv ω];exact⟨⟨ω,ω,F⟩,ω⟩
 have h:=qB h;rw[E9 ω]at f o;refine⟨w,λi=>?_⟩;by_cases s:i∈r
 . exact o i s
 rw[C7 λe a z=>s (by rw[<-z];exact f e a),C7 λe a z=>s ((M i).2 ⟨e,a,z⟩)]
def cF (l:List D4) (j:Int):∀n:Nat,n<=l.length->A4 ((List.range n).map λi:Nat=>((i:Int),l.getD i zr)) j=if 0<=j/\j<(n:Int)then rv (l.getD j.toNat zr)else 0
 |0,_=>by rw[qL ω];rfl
 |n+1,h=>by
  rw[g2q,vP,R2,cF l j n ω];simp only[rW,g2l,A4,rD];by_cases b:(n:Int)=j
  . subst b;rw[qL ω,qT rfl,sX,qT ω,qO]
  rw[qL b,rD];by_cases a:0<=j/\j<(n:Int)
  . rw[qT a,qT ω]
  rw[qL a,qL ω]
def FK:sr Bu Sz:=λx u r=>by
 obtain⟨(l:List D4),_⟩:=x;obtain⟨t,s⟩:l.length<=100000/\eV K1 l:=r;simp only[Sz,iB,SP];refine⟨λp=>0<=p.2.1/\p.2.1<=(l.length:Int)/\p.1=(List.range p.2.1.toNat).map λi:Nat=>((i:Int),l.getD i zr),λp=>((l.length:Int)-p.2.1).toNat,⟨qH _,qF _,rfl⟩,?_⟩;rintro⟨(v:List C8),(i:Int),_⟩ _ ⟨b,n,a⟩;simp only at b n a|-;have o:v.length=i.toNat:=by rw[a];simp
 refine⟨λh=>?_,λh=>?_⟩
 . have h:=qA h;rw[B8n b h,wv ω];refine⟨⟨b,h⟩,⟨by simp only[qX];omega,by simp only[qX];omega⟩,⟨ω,ω,?_⟩,ω⟩;rw[B1o _ b,a,(ω:((i.toNat:Nat):Int)=i)]
 have h:=qB h;have d:i.toNat=l.length:=ω
 rw[d]at a o;have c:=λj=>cF l j l.length (qU _)
 rw[<-a]at c;refine⟨.inl ⟨?_,λe g=>?_,ω⟩,?_⟩
 . rw[a];unfold asc;rw[wU];exact List.pairwise_lt_range.imp λh=>by show((_:Nat):Int)<((_:Nat):Int);omega
 . rw[a]at g;obtain⟨j,f,rfl⟩:=tX.1 g;rw[zX]at f;exact s _ (E2 f)
 rintro⟨w,_⟩ _ k;simp only at k|-;exact TK k (λi d=>by rw[c,qL d]) λj f=>by rw[c,qT ω,qO]
def SZ:sr Ft MD:=λx E z=>by
 obtain⟨v,n,_⟩:=x;have y:Xd v:=Ue E.1.2;change List C8 at v;change Int at n;obtain⟨d,D,r,H⟩:ER K1 v/\F1 v n/\0<=n/\n<=16384:=z;simp only[MD,iB,P6];have g:M0 (decide (n<0)) true (decide (16384<n))=false:=by
  rw[H5];simp only[rE,rO];omega
 refine⟨λ_=> .inl d,?_⟩;rintro⟨(f:List C8),_⟩ u;obtain⟨_,a,j⟩:=u g;simp only at a j|-;have A:∀i,qs K1 (A4 f i):=λi=>by rw[j];exact CK d.1 y d.2.1 δ i
 refine⟨λ_=>Tt a A,?_⟩;rintro⟨l,_⟩ b;have b:=(b g).2;simp only at b|-;have w:F1 f n:=⟨a.1,λe he=>by
  have:A4 v e.1≠0:=by rw[<-j,N2 a.1 he];exact(a.2 e he).1
  have:=YX D this;exact⟨this.1,this.2,(a.2 e he).1⟩⟩
 have t:l=true:=by rw[b];exact rF w
 have s:(M0 (M0 (decide (n<0)) true (decide (16384<n))) true !l)=false:=by rw[g,t];rfl
 refine⟨λh=>(by rw[s]at h;cases h),λ_=>⟨⟨r,qH _,ω,ω⟩,?_⟩⟩;have B:(List.replicate n.toNat dQ).length=n.toNat:=rK;refine⟨λp=>0<=p.1/\p.1<=n/\fill n.toNat p.1.toNat (λG:Nat=>rc (A4 v (G:Int))) p.2.1,λp=>(n-p.1).toNat,⟨qH _,r,B0a B⟩,?_⟩;rintro⟨(i:Int),(out:List D4),_⟩ _ ⟨k,F,c⟩;simp only at k F c|-;refine⟨λh=>⟨.inl d,?_⟩,λh=>?_⟩
 . have h:=qA h;have:=c.1;rintro⟨I,_⟩ _ o;simp only at o|-;rw[wv ω];exact⟨⟨k,ω⟩,⟨ω,ω,JU c k ω (by rw[o,(ω:((i.toNat:Nat):Int)=i)])⟩,ω⟩
 have h:=qB h;exact⟨VW c ω,by trivial⟩
def CZ {D:List (List C8)} {R C:Int} (h:∀x∈D,List.length x<=9223372036854775807/\∀y∈x,WfE y):WH (R,C,D):=λv a=>Ue (h v a).2
def Li {D:List (List C8)} {i:Int} (a:0<=i) (b:i<(D.length:Int)):gx [] D i=D.getD i.toNat []:=L3 a b
def AX:sr U5 Oo:=λx a _=>by
 simp only[Oo];rw[J4,Bool.decide_and]
def IF:sr J6 We:=λx u _=>by
 obtain⟨⟨R,C,D⟩,_⟩:=x;have y:D.length<=9223372036854775807:=u.1.2.2.1;change Int at R C;change List (List C8)at D;simp only[We,iB,Od];refine⟨trivial,?_⟩;rintro⟨r,_⟩ _ c;simp only at c|-;refine⟨λ_=>trivial,?_⟩;rintro⟨z,_⟩ k;simp only at k|-;rw[H5,H5];by_cases g:0<=R/\R<=16384
 . have c:r=true:=by rw[c];exact rF g
   have k:=(k (by rw[c];rfl)).2;rw[c,k];refine⟨λh=>?_,λh=>?_⟩
   . refine(rI λf=>?_).symm;obtain⟨_,_,o,s,t,_⟩:=f;simp only at o s t;rw[rF (show 0<=C/\C<=16384 from⟨o,s⟩)]at h;simp at h;exact h t
   simp only[zD,wE,rE,g0y,rU,rO,tS]at h;refine⟨λp=>0<=p.1/\∀v∈D.take p.1.toNat,F1 v C,λp=>((D.length:Int)-p.1).toNat,⟨qH _,by simp⟩,?_⟩;rintro⟨(n:Int),_⟩ _ ⟨i,j⟩;simp only at i j|-;refine⟨λb=>?_,λb=>?_⟩
   . have b:=qA b;refine⟨⟨i,b⟩,trivial,?_⟩;rintro⟨w,_⟩ _ l;simp only at l|-;refine⟨λa=>?_,λa=>?_⟩
     . refine(rI λf=>?_).symm;rw[l]at a;have:=f.2.2.2.2.2 _ (G4 (d:=([]:List C8)) i b);rw[rF this]at a;cases a
     rw[l]at a;have a:decide (F1 (gx [] D n) C)=true:=by simpa using a
     rw[wv ω];exact⟨⟨ω,Nr (d:=([]:List C8)) (q:=λv=>F1 v C) i b j (qA a)⟩,ω⟩
   have b:=qB b;rw[E9 ω]at j;exact(rF ⟨g.1,g.2,h.1.1,h.1.2,h.2,j⟩).symm
 have c:r=false:=by rw[c];exact rI g
 rw[c];refine⟨λ_=>(rI λf=>g ⟨f.1,f.2.1⟩).symm,λh=>(by simp at h)⟩
def PO:sr Gx GH:=λx O z=>by
 obtain⟨⟨(R:Int),(C:Int),D⟩,k,⟨(R':Int),(C':Int),D'⟩,_⟩:=x;change List (List C8)at D D';change D4 at k;obtain⟨A,w,B⟩:S4 K1 (R,C,D)/\sz K1 k/\S4 K1 (R',C',D'):=z;simp only[GH,iB,SP,Od];refine⟨trivial,?_⟩;rintro⟨v,_⟩ _ b;simp only at b|-;refine⟨λ_=>trivial,?_⟩;rintro⟨P,_⟩ j;simp only at j|-;rw[H5,H5];by_cases f:A7 (R,C,D)
 . have b:v=true:=by rw[b];exact rF f
   have j:=(j (by rw[b];rfl)).2;rw[b,j];by_cases c:A7 (R',C',D')
   . rw[rF c];refine⟨λh=>(by cases h),λ_=>⟨λh=>?_,λh=>?_⟩⟩
     . simp only[uE,rU]at h;exact⟨λh=>absurd ⟨f,c⟩ h,λ_=>⟨λ_=>⟨rfl,by trivial⟩,λn=>absurd n ω⟩⟩
     simp only[rE,rO,tS]at h;obtain⟨rfl,rfl⟩:=h;obtain⟨r,G,H,I,J,M⟩:=id f;have T:(D'.length:Int)=R:=c.2.2.2.2.1;have N:=c.2.2.2.2.2;simp only at r G H I J;refine⟨⟨r,qH _,ω,ω⟩,?_⟩;refine⟨λp=>0<=p.1/\p.1<=R/\VV R.toNat p.1.toNat (λi=>Vx C.toNat λo=>el (R,C,D) i o+rv k*el (R,C,D') i o) p.2.1,λp=>(R-p.1).toNat,⟨qH _,r,A0j rK⟩,?_⟩;rintro⟨(E:Int),rows,_⟩ _ ⟨a,F,g⟩;change List (List C8)at rows;simp only at a F g|-;have:=g.1;refine⟨λh=>?_,λh=>?_⟩
     . have h:=qA h;have s:=G4 (d:=([]:List C8)) a h;have t:=G4 (d:=([]:List C8)) (l:=D') a ω;refine⟨⟨a,h⟩,⟨a,ω⟩,⟨Uy f A s,w,Uy c B t⟩,?_⟩;rintro⟨Q,_⟩ _ u;simp only at u|-;rw[wv ω];refine⟨⟨a,ω⟩,⟨ω,ω,NV g a ω ?_⟩,ω⟩;refine TK u (λi y=>?_) λo _=>?_
       . rw[DX (M _ s) (ω:¬(0<=i/\i<C)),DX (N _ t) (ω:¬(0<=i/\i<C)),sN,rD]
       rw[Li a h,Li (D:=D') a ω];rfl
     have h:=qB h;exact⟨λh=>absurd ⟨f,c⟩ h,λ_=>⟨λn=>(by simp at n),λ_=>⟨⟨by show R= _;omega,by show C= _;omega,g.1,λi y=>g.2 i ω⟩,by trivial⟩⟩⟩
   rw[rI c];exact⟨λ_=>⟨λ_=>⟨rfl,by trivial⟩,λh=>absurd h.2 c⟩,λh=>(by cases h)⟩
 have b:v=false:=by rw[b];exact rI f
 rw[b];exact⟨λ_=>⟨λ_=>⟨rfl,by trivial⟩,λh=>absurd h.1 f⟩,λh=>(by simp at h)⟩
def A9m {R C:Int} {D:List (List C8)} (i:Nat) (j:Int) (h:0<=j):A4 (D.getD i []) j=el (R,C,D) i j.toNat:=by
 unfold el;rw[(ω:((j.toNat:Nat):Int)=j)]
def CL {d:C8} {v:List C8} {i:Int} (a:0<=i) (b:i<(v.length:Int)) (j:Int):A4 (v.take (i+1).toNat) j=A4 (v.take i.toNat) j+if(gx d v i).1=j then rv (gx d v i).2 else 0:=by
 rw[(ω:(i+1).toNat=i.toNat+1),rP,H3 (d:=d) a b,R2];simp only[g1h,A4,rD]
def B6u {R C:Int} {D:List (List C8)} {k:Nat} (f:A7 (R,C,D)) (c:WH (R,C,D)) (d:S4 k (R,C,D)) (b:1<=k) {v:List C8} (a:v∈D) (j:Int):qs k (A4 v j):=CK (f.2.2.2.2.2 v a).1 (c v a) (d v a) b j
end Go.Proofs.YtdbnghliccifcaaGreat
