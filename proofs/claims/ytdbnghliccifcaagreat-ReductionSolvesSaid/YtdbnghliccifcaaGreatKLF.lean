/- Part. -/
import Derived.Test.YtdbnghliccifcaaGreatRows
import Derived.Test.YtdbnghliccifcaaGreatKLE
set_option linter.all false
namespace Go.Proofs.YtdbnghliccifcaaGreat
open Go.Proofs.Tryz
open Go.Vc Go.Gw
open Go.IntKind (i64 u64 u32)
abbrev O5 (a:Int):Prop:=i64.min<=a/\a<=i64.max
abbrev KL (a:Int):Prop:=u64.min<=a/\a<=u64.max
abbrev Hu (l:Wf):Prop:=List.length l<=(9223372036854775807:Nat)/\∀(x:Int),x∈l->u32.min<=x/\x<=u32.max
abbrev WA (l:Wf):Prop:=List.length l<=(9223372036854775807:Nat)/\∀(x:Int),x∈l->i64.min<=x/\x<=i64.max
abbrev lV (z:Bool×Wf):Prop:=True/\Hu z.2
abbrev RR (q:(Bool×Wf)×Wf):Prop:=lV q.1/\Hu q.2
abbrev WfE (e:Int×(Bool×Wf)×Wf):Prop:=O5 e.1/\lV e.2.1/\Hu e.2.2
abbrev KN (l:List (Int×(Bool×Wf)×Wf)):Prop:=List.length l<=(9223372036854775807:Nat)/\∀(x:Int×(Bool×Wf)×Wf),x∈l->WfE x
abbrev QQ:=(Bool×Wf)×Wf
abbrev EE:=Int×(Bool×Wf)×Wf
abbrev dQ:QQ:=((false,[]),[])
abbrev D8:EE:=((0:Int),(false,[]),[])
abbrev MM:=Int×Int×List (List EE)
abbrev WB (l:List QQ):Prop:=List.length l<=9223372036854775807/\∀(x:QQ),x∈l->RR x
abbrev B7d (l:List (List QQ)):Prop:=List.length l<=9223372036854775807/\∀(x:List QQ),x∈l->x.length<=9223372036854775807/\∀(y:QQ),y∈x->RR y
abbrev Oa (l:List (List EE)):Prop:=List.length l<=9223372036854775807/\∀(x:List EE),x∈l->x.length<=9223372036854775807/\∀(y:EE),y∈x->WfE y
abbrev WfM (m:MM):Prop:=O5 m.1/\O5 m.2.1/\Oa m.2.2
abbrev tQ:Ty:=(.pair (.pair .bool (.sl (.int .u32))) (.sl (.int .u32)))
abbrev tE:Ty:=(.pair (.int .i64) tQ)
abbrev tM:Ty:=(.pair (.int .i64) (.pair (.int .i64) (.sl (.sl tE))))
def tys:List (Nat×TI):= [(2,{ty:=(.int .i64),agg:=false}),
 (3,{ty:=(.int .i64),agg:=false}),
 (4,{ty:= .bool,agg:=false}),
 (5,{ty:=(.int .u8),agg:=false}),
 (9,{ty:= .str,agg:=false}),
 (22,{ty:=(.sl (.sl tE)),agg:=false,elem:=49,bytes:=24}),
 (24,{ty:=tM,agg:=true,fields:= [(0,1,false),(1,1,false),(2,1,false)]}),
 (25,{ty:=(.sl (.int .i64)),agg:=false,elem:=3,bytes:=8}),
 (38,{ty:=(.pair (.sl (.int .i64)) (.pair tM tM)),agg:=true,fields:= [(0,1,false),(1,3,true),(4,3,true)]}),
 (44,{ty:=(.sl (.pair (.int .i64) (.pair (.int .i64) (.pair tQ tQ)))),agg:=false,elem:=72,bytes:=128}),
 (46,{ty:=(.pair (.int .i64) (.sl (.pair (.int .i64) (.pair (.int .i64) (.pair tQ tQ))))),agg:=true,fields:= [(0,1,false),(1,1,false)]}),
 (49,{ty:=(.sl tE),agg:=false,elem:=105,bytes:=64}),
 (52,{ty:=(.sl (.sl tQ)),agg:=false,elem:=63,bytes:=24}),
 (54,{ty:=(.sl (.int .u32)),agg:=false,elem:=108,bytes:=4}),
 (56,{ty:=(.pair .bool (.sl (.int .u32))),agg:=true,fields:= [(0,1,false),(1,1,false)]}),
 (58,{ty:=tQ,agg:=true,fields:= [(0,2,true),(2,1,false)]}),
 (63,{ty:=(.sl tQ),agg:=false,elem:=58,bytes:=56}),
 (72,{ty:=(.pair (.int .i64) (.pair (.int .i64) (.pair tQ tQ))),agg:=true,fields:= [(0,1,false),(1,1,false),(2,3,true),(5,3,true)]}),
 (83,{ty:=(.pair (.sl (.int .i64)) (.int .i64)),agg:=true,fields:= [(0,1,false),(1,1,false)]}),
 (89,{ty:=(.int .u64),agg:=false}),
 (91,{ty:=(.sl .bool),agg:=false,elem:=4,bytes:=1}),
 (94,{ty:=(.pair tM (.pair tM (.pair tM tM))),agg:=true,elem:=24,arr:=4}),
 (95,{ty:=(.pair (.sl (.int .i64)) (.sl (.int .i64))),agg:=true,elem:=25,arr:=2}),
 (96,{ty:=(.pair (.pair (.sl (.int .i64)) (.sl (.int .i64))) (.pair (.pair (.sl (.int .i64)) (.sl (.int .i64))) (.pair (.pair (.sl (.int .i64)) (.sl (.int .i64))) (.pair (.sl (.int .i64)) (.sl (.int .i64)))))),agg:=true,elem:=95,arr:=4}),
 (101,{ty:=(.sl (.pair (.int .i64) (.int .i64))),agg:=false,elem:=144,bytes:=16}),
 (105,{ty:=tE,agg:=true,fields:= [(0,1,false),(1,3,true)]}),
 (108,{ty:=(.int .u32),agg:=false}),
 (132,{ty:=(.mp false (.int .i64) false (.sl (.int .i64))),agg:=false,elem:=25,key:=3}),
 (136,{ty:=(.pair (.sl (.int .i64)) (.pair (.sl (.int .i64)) (.pair tM tM))),agg:=true,fields:= [(0,1,false),(1,1,false),(2,3,true),(5,3,true)]}),
 (144,{ty:=(.pair (.int .i64) (.int .i64)),agg:=true,elem:=3,arr:=2}),
 (168,{ty:=(.int .u64),agg:=false}),
 (169,{ty:=(.ptr (.pair (.sl (.sl tE)) (.pair (.sl (.sl tE)) (.pair (.sl (.mp false (.int .i64) false .bool)) (.sl (.int .i64)))))),agg:=false}),
 (174,{ty:=(.sl (.mp false (.int .i64) false .bool)),agg:=false,elem:=204,bytes:=8}),
 (176,{ty:=(.pair (.sl (.sl tE)) (.pair (.sl (.sl tE)) (.pair (.sl (.mp false (.int .i64) false .bool)) (.sl (.int .i64))))),agg:=true,fields:= [(0,1,false),(1,1,false),(2,1,false),(3,1,false)]}),
 (183,{ty:=(.mp false (.int .i64) true tQ),agg:=false,elem:=58,key:=3}),
 (204,{ty:=(.mp false (.int .i64) false .bool),agg:=false,elem:=4,key:=3}),
 (214,{ty:=(.pair (.int .u64) (.pair (.int .u64) (.pair (.int .u64) (.pair (.int .u64) .bool)))),agg:=true,fields:= [(0,1,false),(1,1,false),(2,1,false),(3,1,false),(4,1,false)]})]
def A7:G7 prog tys=true:=by kernel_rfl
def aP:List (Nat×TI):= [(2,{ty:=(.int .i64),agg:=false}),
 (3,{ty:=(.int .i64),agg:=false}),
 (4,{ty:= .bool,agg:=false}),
 (5,{ty:=(.int .u8),agg:=false}),
 (9,{ty:= .str,agg:=false}),
 (22,{ty:=(.sl (.sl tE)),agg:=false,elem:=49,bytes:=24,rows:=true}),
 (24,{ty:=tM,agg:=true,fields:= [(0,1,false),(1,1,false),(2,1,false)]}),
 (25,{ty:=(.sl (.int .i64)),agg:=false,elem:=3,bytes:=8}),
 (38,{ty:=(.pair (.sl (.int .i64)) (.pair tM tM)),agg:=true,fields:= [(0,1,false),(1,3,true),(4,3,true)]}),
 (44,{ty:=(.sl (.pair (.int .i64) (.pair (.int .i64) (.pair tQ tQ)))),agg:=false,elem:=72,bytes:=128}),
 (46,{ty:=(.pair (.int .i64) (.sl (.pair (.int .i64) (.pair (.int .i64) (.pair tQ tQ))))),agg:=true,fields:= [(0,1,false),(1,1,false)]}),
 (49,{ty:=(.sl tE),agg:=false,elem:=105,bytes:=64}),
 (52,{ty:=(.sl (.sl tQ)),agg:=false,elem:=63,bytes:=24,rows:=true}),
 (54,{ty:=(.sl (.int .u32)),agg:=false,elem:=108,bytes:=4}),
 (56,{ty:=(.pair .bool (.sl (.int .u32))),agg:=true,fields:= [(0,1,false),(1,1,false)]}),
 (58,{ty:=tQ,agg:=true,fields:= [(0,2,true),(2,1,false)]}),
 (63,{ty:=(.sl tQ),agg:=false,elem:=58,bytes:=56}),
 (72,{ty:=(.pair (.int .i64) (.pair (.int .i64) (.pair tQ tQ))),agg:=true,fields:= [(0,1,false),(1,1,false),(2,3,true),(5,3,true)]}),
 (83,{ty:=(.pair (.sl (.int .i64)) (.int .i64)),agg:=true,fields:= [(0,1,false),(1,1,false)]}),
 (89,{ty:=(.int .u64),agg:=false}),
 (91,{ty:=(.sl .bool),agg:=false,elem:=4,bytes:=1}),
 (94,{ty:=(.pair tM (.pair tM (.pair tM tM))),agg:=true,elem:=24,arr:=4}),
 (95,{ty:=(.pair (.sl (.int .i64)) (.sl (.int .i64))),agg:=true,elem:=25,arr:=2}),
 (96,{ty:=(.pair (.pair (.sl (.int .i64)) (.sl (.int .i64))) (.pair (.pair (.sl (.int .i64)) (.sl (.int .i64))) (.pair (.pair (.sl (.int .i64)) (.sl (.int .i64))) (.pair (.sl (.int .i64)) (.sl (.int .i64)))))),agg:=true,elem:=95,arr:=4}),
 (101,{ty:=(.sl (.pair (.int .i64) (.int .i64))),agg:=false,elem:=144,bytes:=16}),
 (105,{ty:=tE,agg:=true,fields:= [(0,1,false),(1,3,true)]}),
 (108,{ty:=(.int .u32),agg:=false}),
 (132,{ty:=(.mp false (.int .i64) false (.sl (.int .i64))),agg:=false,elem:=25,key:=3,rows:=true}),
 (136,{ty:=(.pair (.sl (.int .i64)) (.pair (.sl (.int .i64)) (.pair tM tM))),agg:=true,fields:= [(0,1,false),(1,1,false),(2,3,true),(5,3,true)]}),
 (144,{ty:=(.pair (.int .i64) (.int .i64)),agg:=true,elem:=3,arr:=2}),
 (168,{ty:=(.int .u64),agg:=false}),
 (169,{ty:=(.ptr (.pair (.sl (.sl tE)) (.pair (.sl (.sl tE)) (.pair (.sl (.mp false (.int .i64) false .bool)) (.sl (.int .i64)))))),agg:=false}),
 (174,{ty:=(.sl (.mp false (.int .i64) false .bool)),agg:=false,elem:=204,bytes:=8}),
 (176,{ty:=(.pair (.sl (.sl tE)) (.pair (.sl (.sl tE)) (.pair (.sl (.mp false (.int .i64) false .bool)) (.sl (.int .i64))))),agg:=true,fields:= [(0,1,false),(1,1,false),(2,1,false),(3,1,false)]}),
 (183,{ty:=(.mp false (.int .i64) true tQ),agg:=false,elem:=58,key:=3}),
 (204,{ty:=(.mp false (.int .i64) false .bool),agg:=false,elem:=4,key:=3}),
 (214,{ty:=(.pair (.int .u64) (.pair (.int .u64) (.pair (.int .u64) (.pair (.int .u64) .bool)))),agg:=true,fields:= [(0,1,false),(1,1,false),(2,1,false),(3,1,false),(4,1,false)]})]
def Lj:G7 prog aP=true:=by kernel_rfl
def US:List (Nat×TI):= [(2,{ty:=(.int .i64),agg:=false}),
 (3,{ty:=(.int .i64),agg:=false}),
 (4,{ty:= .bool,agg:=false}),
 (5,{ty:=(.int .u8),agg:=false}),
 (9,{ty:= .str,agg:=false}),
 (22,{ty:=(.sl (.sl tE)),agg:=false,elem:=49,bytes:=24,nest:= [14]}),
 (24,{ty:=tM,agg:=true,fields:= [(0,1,false),(1,1,false),(2,1,false)]}),
 (25,{ty:=(.sl (.int .i64)),agg:=false,elem:=3,bytes:=8}),
 (38,{ty:=(.pair (.sl (.int .i64)) (.pair tM tM)),agg:=true,fields:= [(0,1,false),(1,3,true),(4,3,true)]}),
 (44,{ty:=(.sl (.pair (.int .i64) (.pair (.int .i64) (.pair tQ tQ)))),agg:=false,elem:=72,bytes:=128}),
 (46,{ty:=(.pair (.int .i64) (.sl (.pair (.int .i64) (.pair (.int .i64) (.pair tQ tQ))))),agg:=true,fields:= [(0,1,false),(1,1,false)]}),
 (49,{ty:=(.sl tE),agg:=false,elem:=105,bytes:=64}),
 (52,{ty:=(.sl (.sl tQ)),agg:=false,elem:=63,bytes:=24}),
 (54,{ty:=(.sl (.int .u32)),agg:=false,elem:=108,bytes:=4}),
 (56,{ty:=(.pair .bool (.sl (.int .u32))),agg:=true,fields:= [(0,1,false),(1,1,false)]}),
 (58,{ty:=tQ,agg:=true,fields:= [(0,2,true),(2,1,false)]}),
 (63,{ty:=(.sl tQ),agg:=false,elem:=58,bytes:=56}),
 (72,{ty:=(.pair (.int .i64) (.pair (.int .i64) (.pair tQ tQ))),agg:=true,fields:= [(0,1,false),(1,1,false),(2,3,true),(5,3,true)]}),
 (83,{ty:=(.pair (.sl (.int .i64)) (.int .i64)),agg:=true,fields:= [(0,1,false),(1,1,false)]}),
 (89,{ty:=(.int .u64),agg:=false}),
 (91,{ty:=(.sl .bool),agg:=false,elem:=4,bytes:=1}),
 (94,{ty:=(.pair tM (.pair tM (.pair tM tM))),agg:=true,elem:=24,arr:=4}),
 (95,{ty:=(.pair (.sl (.int .i64)) (.sl (.int .i64))),agg:=true,elem:=25,arr:=2}),
 (96,{ty:=(.pair (.pair (.sl (.int .i64)) (.sl (.int .i64))) (.pair (.pair (.sl (.int .i64)) (.sl (.int .i64))) (.pair (.pair (.sl (.int .i64)) (.sl (.int .i64))) (.pair (.sl (.int .i64)) (.sl (.int .i64)))))),agg:=true,elem:=95,arr:=4}),
 (101,{ty:=(.sl (.pair (.int .i64) (.int .i64))),agg:=false,elem:=144,bytes:=16}),
 (105,{ty:=tE,agg:=true,fields:= [(0,1,false),(1,3,true)]}),
 (108,{ty:=(.int .u32),agg:=false}),
 (132,{ty:=(.mp false (.int .i64) false (.sl (.int .i64))),agg:=false,elem:=25,key:=3}),
 (136,{ty:=(.pair (.sl (.int .i64)) (.pair (.sl (.int .i64)) (.pair tM tM))),agg:=true,fields:= [(0,1,false),(1,1,false),(2,3,true),(5,3,true)]}),
 (144,{ty:=(.pair (.int .i64) (.int .i64)),agg:=true,elem:=3,arr:=2}),
 (168,{ty:=(.int .u64),agg:=false}),
 (169,{ty:=(.ptr (.pair (.sl (.sl tE)) (.pair (.sl (.sl tE)) (.pair (.sl (.mp false (.int .i64) false .bool)) (.sl (.int .i64)))))),agg:=false}),
 (174,{ty:=(.sl (.mp false (.int .i64) false .bool)),agg:=false,elem:=204,bytes:=8,nest:= [17]}),
 (176,{ty:=(.pair (.sl (.sl tE)) (.pair (.sl (.sl tE)) (.pair (.sl (.mp false (.int .i64) false .bool)) (.sl (.int .i64))))),agg:=true,fields:= [(0,1,false),(1,1,false),(2,1,false),(3,1,false)]}),
 (183,{ty:=(.mp false (.int .i64) true tQ),agg:=false,elem:=58,key:=3}),
 (204,{ty:=(.mp false (.int .i64) false .bool),agg:=false,elem:=4,key:=3,nest:= [44,66]}),
 (214,{ty:=(.pair (.int .u64) (.pair (.int .u64) (.pair (.int .u64) (.pair (.int .u64) .bool)))),agg:=true,fields:= [(0,1,false),(1,1,false),(2,1,false),(3,1,false),(4,1,false)]})]
def EO:G7 prog US=true:=by kernel_rfl
abbrev W2 (a:List AM) (r:List RT) (p:A3 a->Prop) (q:A3 a->Br r->Prop):A8:= {args:=a,res:=r,shared:=true,pre:=p,post:=q}
abbrev mkM (a:List AM) (r:List RT) (p:A3 a->Prop) (q:A3 a->Br r->Prop) (m:A3 a->Br r->Od a->Prop):A8:= {args:=a,res:=r,shared:=true,pre:=p,post:=q,mpost:=m}
abbrev C8:=QQ×Unit
abbrev su (s:A8) (v:A3 s.args->Prop):Prop:=∀x,awf s.args x->s.pre x->v x
abbrev qb:Ty:=.int .i64
abbrev qd:Ty:=.sl tE
abbrev qe:Ty:=.mp false qb false .bool
abbrev qf:Ty:=.sl qb
abbrev qg:Ty:=.int .u32
abbrev qa:Ty:=.sl qg
abbrev qc:Ty:=.pair .bool qa
abbrev qh:Ty:=.pair qf (.pair tM tM)
abbrev qi:Ty:=.int .u64
abbrev qj:Ty:=.sl tQ
abbrev qk:Ty:=.sl qd
abbrev ql:Ty:=.pair qf qb
abbrev qm:Ty:=.pair qf qh
abbrev qn:List RT:=[.val false .bool]
abbrev qo:List RT:=[.val true tQ]
abbrev qp:List RT:=[.val false qb]
abbrev qq:List RT:=[.val true qc]
abbrev qr:List AM:=[.val false qa, .val false qa]
abbrev qt:List RT:=[.val false qa]
abbrev qu:List AM:=[.val true tQ]
abbrev qv:List AM:=[.val true qc, .val true qc]
abbrev qw:List AM:=[.val true tQ, .val true tQ]
abbrev qx:List AM:=[.val false qb]
abbrev qy:List AM:=[.val false qa]
abbrev qz:List AM:=[.val true qc]
abbrev re:List AM:=[.val false qd, .val false qb]
abbrev rf:List RT:=[.val false qd]
abbrev rh:List AM:=[.val false qb, .val false qb]
abbrev rj:List RT:=[.val true tM, .val false qb]
abbrev rk:List AM:=[.val true tM]
abbrev rn:List AM:=[.val false qd]
abbrev ro:List RT:=[.val false qj, .val false qb]
abbrev rp:List AM:=[.box 83 ql, .val false qb]
abbrev rq:List RT:=[.val false qa, .val false .bool]
abbrev rr:List AM:=[.val false qa, .val false qb]
abbrev rt:List AM:=[.val false qf, .val false qb]
abbrev rx:List RT:=[.val false qf]
abbrev ry:List RT:=[.val false qi]
abbrev rz:List AM:=[.val true tM, .val true tM]
abbrev sc:List RT:=[.val true tM]
abbrev sd:List RT:=[.val true tQ, .val false .bool]
abbrev se:List AM:=[.val false .bool, .val false qa]
abbrev sf:List RT:=[.val false qa, .val false qa, .val false .bool]
abbrev si:List RT:=[.val false qa, .val false qa]
abbrev sj:List AM:=[.val false qf, .fn [(false,qb)] false .bool]
abbrev sk:List AM:=[.val false qf, .val false qf]
abbrev sm:List RT:=[.val false qi, .val false .bool]
abbrev sn:List AM:=[.val true qm, .val false qj]
abbrev so:List AM:=[.val true tM, .val false qj]
abbrev sq:List AM:=[.val true tQ, .val true tQ, .val false (.ptr tQ)]
abbrev sr (a:List AM) (r:List RT) (p:A3 a->Prop) (q:A3 a->Br r->Prop):A8:={args:=a,res:=r,pre:=p,post:=q}
def Nc:A8:=W2 [] qo (fun(x:Unit)=>True) (fun(x:Unit) (r:C8)=>r.1=rc 0)
abbrev D7:=Int×Unit
def Nb:A8:=sr qu qp (fun(x:C8)=>J8 x.1) (fun(x:C8) (r:D7)=>r.1=(rv x.1).num.sign)
abbrev W4:=Bool×Unit
abbrev R2:=QQ×QQ×Unit
def Ju:A8:=sr qw qn (fun(x:R2)=>True) (fun(x:R2) (r:W4)=>r.1=decide (x.1=x.2.1))
def Tc:A8:=W2 qu qo (fun(x:C8)=>J8 x.1) (fun(x:C8) (r:C8)=>r.1=rc (-(rv x.1)))
def Lq:A8:=W2 qw qo (fun(x:R2)=>J8 x.1/\J8 x.2.1) (fun(x:R2) (r:C8)=>r.1=rc (rv x.1+rv x.2.1))
def Na:A8:=W2 qu qo (fun(x:C8)=>J8 x.1) (fun(x:C8) (r:C8)=>r.1=rc (rv x.1))
def Cm:A8:=W2 qx qo (fun(x:D7)=>True) (fun(x:D7) (r:C8)=>r.1=ri x.1)
abbrev Ch:=Int×Int×Unit
def AU:A8:=W2 rh qo (fun(x:Ch)=>True) (fun(x:Ch) (r:C8)=>r.1=rc (Rat.divInt x.1 x.2.1))
def N6:A8:=Cm
def Au:A8:=Tc
abbrev KI:=(Bool×Wf)×Unit
def My:A8:=sr qz qp (fun(x:KI)=>Ht x.1.2) (fun(x:KI) (r:D7)=>r.1=(iv x.1).sign)
abbrev iD:=(Bool×Wf)×(Bool×Wf)×Unit
def Jt:A8:=sr qv qn (fun(x:iD)=>True) (fun(x:iD) (r:W4)=>r.1=decide (x.1=x.2.1))
abbrev Cr:=Wf×Wf×Unit
def Js:A8:=sr qr qn (fun(x:Cr)=>True) (fun(x:Cr) (r:W4)=>r.1=decide (x.1=x.2.1))
def Mz:A8:=W2 qv qo (fun(x:iD)=>Gf x.1.2/\Gf x.2.1.2) (fun(x:iD) (r:C8)=>r.1=rc (Oc x.1 x.2.1))
def Sy:A8:=W2 qz qq (fun(x:KI)=>Ht x.1.2) (fun(x:KI) (r:KI)=>r.1=ic (-iv x.1))
def Td:A8:=W2 qu qq (fun(x:C8)=>J8 x.1) (fun(x:C8) (r:KI)=>r.1=ic ((rv x.1).den:Int))
def Sv:A8:=W2 qv qq (fun(x:iD)=>N8 x.1.2/\N8 x.2.1.2) (fun(x:iD) (r:KI)=>r.1=ic (iv x.1+iv x.2.1))
def Sx:A8:=W2 qv qq (fun(x:iD)=>N8 x.1.2/\N8 x.2.1.2) (fun(x:iD) (r:KI)=>r.1=ic (iv x.1*iv x.2.1))
def P8:A8:=Na
def Tb:A8:=W2 qw qo (fun(x:R2)=>J8 x.1/\J8 x.2.1) (fun(x:R2) (r:C8)=>r.1=rc (rv x.1*rv x.2.1))
def Bz:A8:=sr qu qn (fun(x:C8)=>J8 x.1) (fun(x:C8) (r:W4)=>r.1=decide (x.1=rc (rv x.1)))
def Fl:A8:=W2 qx qq (fun(x:D7)=>True) (fun(x:D7) (r:KI)=>r.1=ic x.1)
def X5:A8:=sr rh qp (fun(x:Ch)=>True) (fun(x:Ch) (r:D7)=>r.1=N3 x.1 x.2.1)
def X8:A8:=Fl
def Fb:A8:=Sy
def Mx:A8:=W2 qz qq (fun(x:KI)=>Ht x.1.2) (fun(x:KI) (r:KI)=>r.1=ic (iv x.1))
def Sw:A8:=W2 qv qq (fun(x:iD)=>Gf x.1.2/\Gf x.2.1.2) (fun(x:iD) (r:KI)=>r.1=ic (Nat.gcd (nv x.1.2) (nv x.2.1.2):Int))
def Hn:A8:=W2 qv [.val true qc, .val true qc, .val false .bool] (fun(x:iD)=>Gf x.1.2/\Gf x.2.1.2) (fun(x:iD) (r:(Bool×Wf)×(Bool×Wf)×Bool×Unit)=>iv x.2.1≠0->r.1=ic (iv x.1/iv x.2.1)/\r.2.1=ic (iv x.1%iv x.2.1)/\r.2.2.1=true)
abbrev C0n:=Bool×Wf×Unit
def Mw:A8:=W2 se qq (fun(x:C0n)=>Ht x.2.1) (fun(x:C0n) (r:KI)=>r.1=ic (iv (x.1,x.2.1)))
abbrev Dx:=Wf×Unit
def So:A8:=W2 qr qt (fun(x:Cr)=>N8 x.1/\N8 x.2.1) (fun(x:Cr) (r:Dx)=>r.1=nc (nv x.1+nv x.2.1))
abbrev C4t:=Wf×Bool×Unit
def Sr:A8:=W2 qr rq (fun(x:Cr)=>N8 x.1/\N8 x.2.1) (fun(x:Cr) (r:C4t)=>(nv x.1<nv x.2.1->r.1= []/\r.2.1=false)/\(nv x.2.1<=nv x.1->r.1=nc (nv x.1-nv x.2.1)/\r.2.1=true))
def Sq:A8:=W2 qr qt (fun(x:Cr)=>N8 x.1/\N8 x.2.1) (fun(x:Cr) (r:Dx)=>r.1=nc (nv x.1*nv x.2.1))
def Aq:A8:=Lq
def V7:A8:=Tb
abbrev A0s:=Int×Int×Bool×Unit
def Aw:A8:=sr qu [.val false qb, .val false qb, .val false .bool] (fun(x:C8)=>True) (fun(x:C8) (r:A0s)=>(L3 x.1->r.1=Ry x.1/\r.2.1=Ob x.1/\r.2.2.1=true)/\(¬L3 x.1->r.2.2.1=false))
def T8:A8:=W2 rh qo (fun(x:Ch)=>0<x.2.1) (fun(x:Ch) (r:C8)=>r.1=rc (mkRat x.1 x.2.1.toNat))
abbrev ty8:=(Bool×Wf)×Wf×Unit
def Y3:A8:=W2 [.val true qc, .val false qa] qo (fun(x:ty8)=>nv x.2.1≠0/\Gf x.1.2/\Gf x.2.1) (fun(x:ty8) (r:C8)=>r.1=rc (mkRat (iv x.1) (nv x.2.1)))
def Av:A8:=W2 qu [.val true qc, .val false qa] (fun(x:C8)=>True) (fun(x:C8) (r:ty8)=>(nv x.1.2=0->r.1=zi/\r.2.1= [1])/\(nv x.1.2≠0->r.1=x.1.1/\r.2.1=x.1.2))
def Ap:A8:=W2 [.val false qi] qt (fun(x:D7)=>True) (fun(x:D7) (r:Dx)=>r.1=nc x.1.toNat)
def W9:A8:=sr qu qp (fun(x:C8)=>True) (fun(x:C8) (r:D7)=>r.1=(rv x.1).num.sign)
def Bu:A8:=sr qx qn (fun(x:D7)=>True) (fun(x:D7) (r:W4)=>r.1=false)
abbrev iC:=QQ×Bool×Unit
def Ds:A8:=W2 qw sd (fun(x:R2)=>J8 x.1/\J8 x.2.1) (fun(x:R2) (r:iC)=>(rv x.2.1=0->r.2.1=false)/\(rv x.2.1≠0->r.1=rc (rv x.1/rv x.2.1)/\r.2.1=true))
def Ai:A8:=W2 se qq (fun(x:C0n)=>True) (fun(x:C0n) (r:KI)=>r.1=(x.1&&decide (x.2.1≠ []),x.2.1))
def R9:A8:=Ap
def Dp:A8:=W2 qy qt (fun(x:Dx)=>Ht x.1) (fun(x:Dx) (r:Dx)=>r.1=nc (nv x.1))
def Sp:A8:=W2 qr qt (fun(x:Cr)=>Gf x.1/\Gf x.2.1) (fun(x:Cr) (r:Dx)=>r.1=nc (Nat.gcd (nv x.1) (nv x.2.1)))
abbrev C7c:=Wf×Wf×Bool×Unit
def Hl:A8:=W2 qr sf (fun(x:Cr)=>Gf x.1/\Gf x.2.1) (fun(x:Cr) (r:C7c)=>(nv x.2.1=0->r.2.2.1=false)/\(nv x.2.1≠0->r.1=nc (nv x.1/nv x.2.1)/\r.2.1=nc (nv x.1%nv x.2.1)/\r.2.2.1=true))
def Su:A8:=W2 qz qq (fun(x:KI)=>Ht x.1.2) (fun(x:KI) (r:KI)=>r.1=ic ((iv x.1).natAbs:Int))
def Sz:A8:=W2 qv qq (fun(x:iD)=>N8 x.1.2/\N8 x.2.1.2) (fun(x:iD) (r:KI)=>r.1=ic (iv x.1-iv x.2.1))
def Mv:A8:=Dp
def Fj:A8:=sr qr qp (fun(x:Cr)=>N8 x.1/\N8 x.2.1) (fun(x:Cr) (r:D7)=>r.1=Dg (nv x.1) (nv x.2.1))
def X9:A8:=sr qr qp (fun(x:Cr)=>True) (fun(x:Cr) (r:D7)=>r.1=Dg (nv x.1) (nv x.2.1))
def Ez:A8:=Sv
def Fa:A8:=Sx
def Fh:A8:=Sq
abbrev B0i:=Int×Bool×Unit
def Am:A8:=sr qy sm (fun(x:Dx)=>True) (fun(x:Dx) (r:B0i)=>(nv x.1<18446744073709551616->r.1=(nv x.1:Int)/\r.2.1=true)/\(18446744073709551616<=nv x.1->r.2.1=false))
def Dk:A8:=Mx
def Fg:A8:=Sp
def Al:A8:=W2 qr sf (fun(x:Cr)=>N8 x.1) (fun(x:Cr) (r:C7c)=>(nv x.2.1=0->r.1= []/\r.2.1= []/\r.2.2.1=false)/\(nv x.2.1≠0->r.1=nc (nv x.1/nv x.2.1)/\r.2.1=nc (nv x.1%nv x.2.1)/\r.2.2.1=true))
def Dl:A8:=sr qz qp (fun(x:KI)=>True) (fun(x:KI) (r:D7)=>r.1=(iv x.1).sign)
def Hh:A8:=sr [.val false qg] qp (fun(x:D7)=>True) (fun(x:D7) (r:D7)=>r.1=(M9 x.1.toNat:Int))
def Ar:A8:=W2 qu sd (fun(x:C8)=>J8 x.1) (fun(x:C8) (r:iC)=>(rv x.1=0->r.2.1=false)/\(rv x.1≠0->r.1=rc (rv x.1)⁻¹/\r.2.1=true))
def Dt:A8:=W2 qw qo (fun(x:R2)=>J8 x.1/\J8 x.2.1) (fun(x:R2) (r:C8)=>r.1=rc (rv x.1-rv x.2.1))
def Cl:A8:=W2 qy qt (fun(x:Dx)=>True) (fun(x:Dx) (r:Dx)=>r.1=nc (nv x.1))
def Hm:A8:=sr qy sm (fun(x:Dx)=>Ht x.1) (fun(x:Dx) (r:B0i)=>(nv x.1<18446744073709551616->r.1=(nv x.1:Int)/\r.2.1=true)/\(18446744073709551616<=nv x.1->r.2.1=false))
def Mu:A8:=sr qy qp (fun(x:Dx)=>N8 x.1) (fun(x:Dx) (r:D7)=>r.1=(M9 (nv x.1):Int))
abbrev NA:=Wf×Int×Unit
def Ss:A8:=sr rr [.val false qg] (fun(x:NA)=>0<=x.2.1) (fun(x:NA) (r:D7)=>r.1=((nv x.1/2^x.2.1.toNat%2:Nat):Int))
def Ff:A8:=So
def Fi:A8:=Sr
def Dq:A8:=sr qy ry (fun(x:Dx)=>x.1.length<=2) (fun(x:Dx) (r:D7)=>r.1=(nv x.1:Int))
def Y2:A8:=sr qr [.val true (.pair qi (.pair qi (.pair qi (.pair qi .bool))))] (fun(x:Cr)=>N8 x.1/\3<=x.1.length/\Ni x.1/\nv x.2.1<=nv x.1/\x.2.1.length<=x.1.length) (fun(x:Cr) (r:(Int×(Int×(Int×(Int×Bool))))×Unit)=>C3k (nv x.1) (nv x.2.1) r.1.1 r.1.2.1 r.1.2.2.1 r.1.2.2.2.1 r.1.2.2.2.2)
abbrev C7d:=Wf×Int×Wf×Int×Unit
def Y1:A8:=W2 [.val false qa, .val false qi, .val false qa, .val false qi] qt (fun(x:C7d)=>Gf x.1/\Gf x.2.2.1/\nv x.2.2.1*x.2.2.2.1.toNat<=nv x.1*x.2.1.toNat) (fun(x:C7d) (r:Dx)=>r.1=nc (nv x.1*x.2.1.toNat-nv x.2.2.1*x.2.2.2.1.toNat))
def P3:A8:=W2 [.val false qa, .val false qg] si (fun(x:NA)=>N8 x.1/\x.2.1≠0) (fun(x:NA) (r:Cr)=>r.1=nc (nv x.1/x.2.1.toNat)/\r.2.1=nc (nv x.1%x.2.1.toNat))
def S0:A8:=W2 qr si (fun(x:Cr)=>N8 x.1/\2<=x.2.1.length/\x.2.1.length<=x.1.length/\Ni x.2.1) (fun(x:Cr) (r:Cr)=>r.1=nc (nv x.1/nv x.2.1)/\r.2.1=nc (nv x.1%nv x.2.1))
def V6:A8:=sr qw qp (fun(x:R2)=>J8 x.1/\J8 x.2.1) (fun(x:R2) (r:D7)=>r.1=XA (rv x.1) (rv x.2.1))
def M8:A8:=sr [.val false qg] qp (fun(x:D7)=>True) (fun(x:D7) (r:D7)=>r.1=32-(M9 x.1.toNat:Int))
abbrev C7e:=Wf×Int×Int×Unit
def Ao:A8:=sr [.val false qa, .val false qb, .val false qb] ry (fun(x:C7e)=>3<=x.2.1/\(x.1.length:Int)<=x.2.1/\x.2.1<=17592186044416/\0<=x.2.2.1/\x.2.2.1<=31/\nv x.1*2^x.2.2.1.toNat<4294967296^x.2.1.toNat) (fun(x:C7e) (r:D7)=>r.1=((nv x.1*2^x.2.2.1.toNat/4294967296^(x.2.1.toNat-2):Nat):Int))
def S8:A8:=sr rr [.own qg 108] (fun(x:NA)=>N8 x.1/\0<=x.2.1/\x.2.1<=31) (fun(x:NA) (r:Dx)=>r.1.length=x.1.length+1/\nv r.1=nv x.1*2^x.2.1.toNat)
def O3:A8:=W2 rr rq (fun(x:NA)=>N8 x.1) (fun(x:NA) (r:C4t)=>(x.2.1<0->r.1= []/\r.2.1=false)/\(0<=x.2.1->r.1=nc (nv x.1/2^x.2.1.toNat)/\r.2.1=true))
def T6:A8:=X5
def X7:A8:=sr qv qp (fun(x:iD)=>True) (fun(x:iD) (r:D7)=>r.1=N3 (iv x.1) (iv x.2.1))
def V5:A8:=sr [.val false qb, .val false (.ptr qa)] ry (fun(x:Int×Wf×Unit)=>0<=x.1) (fun(x:Int×Wf×Unit) (r:D7)=>r.1=(if x.1<(x.2.1.length:Int)then x.2.1.getD x.1.toNat 0 else 0))
def X6:A8:=Bu
def H2:A8:=sr sk qn (fun(x:Cr)=>True) (fun(x:Cr) (r:W4)=>r.1=true)
abbrev ty6:=(Wf×Int)×Unit
def Ix:A8:=W2 [.val false qf] [.obox 83 ql] (fun(x:Dx)=>True) (fun(x:Dx) (r:ty6)=>r.1=(x.1,0))
abbrev ty4:=(Wf×Int)×Int×Int×Unit
abbrev Cg:=MM×Unit
def Q8:A8:=mkM [.box 83 ql, .val false qb, .val false qb] sc (fun(x:ty4)=>0<=x.2.1/\x.2.1<=20/\0<=x.2.2.1/\x.2.2.1<=20/\0<=x.1.2/\x.1.2<=(x.1.1.length:Int)) (fun(x:ty4) (r:Cg)=>C3a x.2.1.toNat x.2.2.1.toNat r.1) (fun(x:ty4) (r:Cg) (o:ty6)=>o.1.1=x.1.1/\0<=o.1.2/\o.1.2<=(x.1.1.length:Int))
abbrev ty5:=(Wf×Int)×Int×Unit
def U6:A8:=mkM rp qp (fun(x:ty5)=>0<x.2.1/\0<=x.1.2/\x.1.2<=(x.1.1.length:Int)) (fun(x:ty5) (r:D7)=>0<=r.1/\r.1<x.2.1) (fun(x:ty5) (r:D7) (o:ty6)=>o.1.1=x.1.1/\0<=o.1.2/\o.1.2<=(x.1.1.length:Int))
def Fe:A8:=W2 rt sc (fun(x:NA)=>1<=x.2.1/\x.2.1<=20) (fun(x:NA) (r:Cg)=>sqG x.2.1 r.1)
def Fc:A8:=sr [] qn (fun(x:Unit)=>True) (fun(x:Unit) (r:W4)=>r.1=true)
def Hi:A8:=W2 rt rx (fun(x:NA)=>0<=x.2.1/\x.2.1<=100) (fun(x:NA) (r:Dx)=>(∀g∈r.1,0<=g/\g<x.2.1)/\r.1.Nodup)
def Ms:A8:=sr rh qp (fun(x:Ch)=>0<x.2.1) (fun(x:Ch) (r:D7)=>0<x.2.1->0<=r.1/\r.1<x.2.1/\r.1=(u64.wrap x.1).tmod x.2.1)
def Q5:A8:=W2 [.val true tM, .val false qf] [.val true qh, .val false qb] (fun(x:MM×Wf×Unit)=>A2j x.1) (fun(x:MM×Wf×Unit) (r:(Wf×(MM×MM))×Int×Unit)=>Rc x.1 x.2.1 r.1 r.2.1)
abbrev MY:=MM×MM×Unit
def Cc:A8:=sr rz qn (fun(x:MY)=>N4 K1 x.1) (fun(x:MY) (r:W4)=>r.1=true↔x.1=x.2.1/\∀v∈x.1.2.2,∀e∈v,e.2=rc (rv e.2))
def Dr:A8:=W2 rk [.val false (.sl qj)] (fun(x:Cg)=>N4 K1 x.1/\A4 x.1) (fun(x:Cg) (r:(List (List QQ))×Unit)=>r.1=els x.1)
abbrev UQ:=(List EE)×Int×Unit
def Te:A8:=W2 re qo (fun(x:UQ)=>Kn x.1) (fun(x:UQ) (r:C8)=>r.1=rc (A5 x.1 x.2.1))
abbrev A4k:=(List QQ)×Unit
def Ak:A8:=mkM rp [.own tQ 58] (fun(x:ty5)=>x.2.1<=1000/\0<=x.1.2/\x.1.2<=(x.1.1.length:Int)) (fun(x:ty5) (r:A4k)=>(r.1.length:Int)=max x.2.1 0/\∀e∈r.1,LN e) (fun(x:ty5) (r:A4k) (o:ty6)=>o.1.1=x.1.1/\0<=o.1.2/\o.1.2<=(x.1.1.length:Int))
abbrev ty2:=(Wf×(MM×MM))×(List QQ)×Unit
abbrev C0m:=(List QQ)×Int×Unit
def V8:A8:=W2 [.val true qh, .val false qj] ro (fun(x:ty2)=>∃A T c:Nat,1<=A/\1<=T/\N4 A x.1.2.2/\Tj T x.2.1/\x.1.2.2.2.1<=(c:Int)/\(A+T+1)*(c+1)<=2199023255552/\A<=K1/\T<=K1/\N4 K1 x.1.2.1) (fun(x:ty2) (r:C0m)=>A7p x.1 x.2.1 r.1 r.2.1)
abbrev C0v:=MM×(List QQ)×Unit
def Jw:A8:=W2 so ro (fun(x:C0v)=>∃A T c:Nat,1<=A/\1<=T/\N4 A x.1/\Tj T x.2.1/\x.1.2.1<=(c:Int)/\(A+T+1)*(c+1)<=2199023255552/\A<=K1) (fun(x:C0v) (r:C0m)=>(¬A4 x.1->r.1= []/\r.2.1=1)/\(A4 x.1->((x.2.1.length:Int)≠x.1.2.1->r.1= []/\r.2.1=4)/\((x.2.1.length:Int)=x.1.2.1->r.1=(List.range x.1.1.toNat).map (λi=>rc (B8 x.2.1.length λj=>el x.1 i j*rv (x.2.1.getD j zr)))/\r.2.1=0)))
abbrev C6x:=(List EE)×(List EE)×Unit
def Cb:A8:=sr [.val false qd, .val false qd] qn (fun(x:C6x)=>HC K1 x.1) (fun(x:C6x) (r:W4)=>r.1=decide (x.1=x.2.1/\∀e∈x.1,e.2=rc (rv e.2)))
def Bv:A8:=mkM [.box 83 ql] qo (fun(x:ty6)=>0<=x.1.2/\x.1.2<=(x.1.1.length:Int)) (fun(x:ty6) (r:C8)=>LN r.1) (fun(x:ty6) (r:C8) (o:ty6)=>o.1.1=x.1.1/\0<=o.1.2/\o.1.2<=(x.1.1.length:Int))
abbrev C6w:=(List (List QQ))×Int×Unit
def Iy:A8:=W2 [.val false (.sl qj), .val false qb] sc (fun(x:C6w)=>(∀l∈x.1,Tj K1 l/\(l.length:Int)=x.2.1)/\0<=x.2.1/\x.2.1<=16384/\x.1.length<=16384) (fun(x:C6w) (r:Cg)=>Ep x.1.length x.2.1.toNat (λi j=>rv ((x.1.getD i []).getD j zr)) r.1)
def Ah:A8:=sr sk qn (fun(x:Cr)=>True) (fun(x:Cr) (r:W4)=>r.1=decide (x.1=x.2.1))
def Aj:A8:=mkM rp rx (fun(x:ty5)=>0<=x.2.1/\x.2.1<=100/\0<=x.1.2/\x.1.2<=(x.1.1.length:Int)) (fun(x:ty5) (r:Dx)=>K7 r.1 x.2.1) (fun(x:ty5) (r:Dx) (o:ty6)=>o.1.1=x.1.1/\0<=o.1.2/\o.1.2<=(x.1.1.length:Int))
def K2:A8:=sr rk qn (fun(x:Cg)=>True) (fun(x:Cg) (r:W4)=>r.1=decide (A4 x.1))
def Y4:A8:=W2 [.val false (.sl .bool)] [.val false qf, .val false qf] (fun(x:(List Bool)×Unit)=>x.1.length<=100000) (fun(x:(List Bool)×Unit) (r:Cr)=>r.1=Z8 x.1.length (λi=>x.1.getD i false)/\r.2.1=Z8 x.1.length (λi=> !x.1.getD i false))
abbrev C8h:=MM×Wf×Wf×Unit
abbrev Nj:=MM×Int×Unit
def Bw:A8:=W2 [.val true tM, .val false qf, .val false qf] rj (fun(x:C8h)=>N4 K1 x.1/\x.2.1.length<=1000/\x.2.2.1.length<=1000/\x.2.2.1.Nodup) (fun(x:C8h) (r:Nj)=>(¬A4 x.1->r.1=zm/\r.2.1=1)/\(A4 x.1->(((∃i∈x.2.1,i<0\/x.1.1<=i)\/(∃i∈x.2.2.1,i<0\/x.1.2.1<=i))->r.1=zm/\r.2.1=3)/\(¬((∃i∈x.2.1,i<0\/x.1.1<=i)\/(∃i∈x.2.2.1,i<0\/x.1.2.1<=i))->((16384<x.2.1.length\/16384<x.2.2.1.length)->r.1=zm/\r.2.1=8)/\(x.2.1.length<=16384/\x.2.2.1.length<=16384->Ep x.2.1.length x.2.2.1.length (λi j=>el x.1 (x.2.1.getD i 0).toNat (x.2.2.1.getD j 0).toNat) r.1/\r.2.1=0))))
def S1:A8:=W2 rz rj (fun(x:MY)=>∃n k s:Nat,Ep n n (el x.1) x.1/\Ep n k (el x.2.1) x.2.1/\n<=900/\k<=900/\1<=s/\N4 s x.1/\N4 s x.2.1/\rY s n<=268435456) (fun(x:MY) (r:Nj)=>mD x.1 x.2.1 r.1 r.2.1)
def Hk:A8:=W2 rz rj (fun(x:MY)=>N4 K0 x.1/\N4 K0 x.2.1/\x.1.2.1<=1000) (fun(x:MY) (r:Nj)=>(¬(A4 x.1/\A4 x.2.1)->r.1=zm/\r.2.1=1)/\(A4 x.1/\A4 x.2.1->(x.1.2.1≠x.2.1.1->r.1=zm/\r.2.1=4)/\(x.1.2.1=x.2.1.1->Ep x.1.1.toNat x.2.1.2.1.toNat (λi j=>B8 x.1.2.1.toNat λk=>el x.1 i k*el x.2.1 k j) r.1/\r.2.1=0)))
abbrev B6l:=MM×QQ×MM×Unit
def Hj:A8:=W2 [.val true tM, .val true tQ, .val true tM] rj (fun(x:B6l)=>N4 K1 x.1/\sz K1 x.2.1/\N4 K1 x.2.2.1) (fun(x:B6l) (r:Nj)=>(¬(A4 x.1/\A4 x.2.2.1)->r.1=zm/\r.2.1=1)/\(A4 x.1/\A4 x.2.2.1->(¬(x.1.1=x.2.2.1.1/\x.1.2.1=x.2.2.1.2.1)->r.1=zm/\r.2.1=4)/\(x.1.1=x.2.2.1.1/\x.1.2.1=x.2.2.1.2.1->Ep x.1.1.toNat x.1.2.1.toNat (λi j=>el x.1 i j+rv x.2.1*el x.2.2.1 i j) r.1/\r.2.1=0)))
abbrev ty3:=(Wf×(MM×MM))×Unit
def V9:A8:=sr [.val true qh] qn (fun(x:ty3)=>True) (fun(x:ty3) (r:W4)=>r.1=decide (fmd x.1))
def Ge:A8:=W2 re [.own tQ 58, .val false .bool] (fun(x:UQ)=>ED K1 x.1/\E3 x.1 x.2.1/\0<=x.2.1/\x.2.1<=16384) (fun(x:UQ) (r:(List QQ)×Bool×Unit)=>r.1=dl x.2.1 (A5 x.1)/\r.2.1=true)
def Dm:A8:=Jw
def Jx:A8:=sr rk qn (fun(x:Cg)=>N4 K1 x.1) (fun(x:Cg) (r:W4)=>r.1=decide (A4 x.1))
abbrev C7f:=(List QQ)×(List QQ)×Unit
def Ta:A8:=W2 [.val false qj, .val false qj] sd (fun(x:C7f)=>∃A T c:Nat,1<=A/\1<=T/\Tj A x.1/\Tj T x.2.1/\x.1.length<=c/\(A+T+1)*(c+1)<=2199023255552) (fun(x:C7f) (r:iC)=>x.1.length=x.2.1.length->r.1=rc (B8 x.1.length λi=>rv (x.1.getD i zr)*rv (x.2.1.getD i zr))/\r.2.1=true)
abbrev Tl:=(List EE)×Unit
def Nf:A8:=W2 rn rf (fun(x:Tl)=>Kn x.1) (fun(x:Tl) (r:Tl)=>KH (A5 x.1) r.1)
def Ca:A8:=W2 [.val false qj] rf (fun(x:A4k)=>x.1.length<=100000/\Tj K1 x.1) (fun(x:A4k) (r:Tl)=>Ws x.1.length (λj=>rv (x.1.getD j zr)) r.1)
def U7:A8:=sr qx qn (fun(x:D7)=>True) (fun(x:D7) (r:W4)=>r.1=decide (0<=x.1/\x.1<=16384))
def Du:A8:=sr re qn (fun(x:UQ)=>True) (fun(x:UQ) (r:W4)=>r.1=decide (E3 x.1 x.2.1))
def M0:A8:=sr [.val false qb, .val false (.ptr qb)] qn (fun(x:Ch)=>True) (fun(x:Ch) (r:W4)=>r.1=decide (x.1<0\/x.2.1<=x.1))
def F8:A8:=sr sj qn (fun(x:Wf×(((Int×Unit)->Prop)×((Int×Unit)->Bool))×Unit)=>∀i∈x.1,x.2.1.1 (i,())) (fun(x:Wf×(((Int×Unit)->Prop)×((Int×Unit)->Bool))×Unit) (r:W4)=>r.1=decide (∃i∈x.1,x.2.1.2 (i,())=true))
abbrev ty1:=(Wf×(Wf×(MM×MM)))×Int×Unit
def P7:A8:=W2 rk [.val true qm, .val false qb] (fun(x:Cg)=>N4 K1 x.1/\(A4 x.1->x.1.1=x.1.2.1->∃T:Nat,1<=T/\8*T+8<=K1/\cR x.1.1.toNat x.1.1.toNat (el x.1) T)) (fun(x:Cg) (r:ty1)=>(¬A4 x.1->r.1=lY/\r.2.1=1)/\(A4 x.1->(x.1.1≠x.1.2.1->r.1=lY/\r.2.1=4)/\(x.1.1=x.1.2.1->(¬nonsing x.1.1.toNat (el x.1)->r.1=lY/\r.2.1=6)/\(nonsing x.1.1.toNat (el x.1)->Bo r.1 x.1.1/\r.2.1=0/\(∀v∈r.1.2.2.1.2.2,V2 v)/\(∀v∈r.1.2.2.2.2.2,V2 v)/\(∀T:Nat,1<=T->cR x.1.1.toNat x.1.1.toNat (el x.1) T->∀i j:Nat,i<x.1.1.toNat->qs (T+T) (el r.1.2.2.1 i j)/\qs (T+T) (el r.1.2.2.2 i j))/\∀i j:Nat,i<x.1.1.toNat->j<x.1.1.toNat->luM r.1 x.1.1.toNat i j=el x.1 (ix r.1.1 i) (ix r.1.2.1 j)))))
def Q9:A8:=W2 rk rj (fun(x:Cg)=>N4 K1 x.1) (fun(x:Cg) (r:Nj)=>(¬A4 x.1->r.1=zm/\r.2.1=1)/\(A4 x.1->Ep x.1.2.1.toNat x.1.1.toNat (λi j=>el x.1 j i) r.1/\r.2.1=0))
def Ax:A8:=W2 re [.val false qj, .val false .bool] (fun(x:UQ)=>ED K1 x.1/\E3 x.1 x.2.1/\0<=x.2.1/\x.2.1<=16384) (fun(x:UQ) (r:(List QQ)×Bool×Unit)=>r.1=dl x.2.1 (A5 x.1)/\r.2.1=true)
abbrev ty0:=(Wf×(Wf×(MM×MM)))×(List QQ)×Unit
def Af:A8:=W2 sn ro (fun(x:ty0)=>x.1.1.length<=16384/\N4 K1 x.1.2.2.1/\N4 K1 x.1.2.2.2/\(Bo x.1 x.1.1.length->x.2.1.length=x.1.1.length->∃s T Y:Nat,1<=s/\1<=T/\T<=Y/\N4 s x.1.2.2.1/\N4 s x.1.2.2.2/\Tj T x.2.1/\C0c Y x.1 x.2.1/\Y+x.1.1.length*(s+Y+1)+s<=K1)) (fun(x:ty0) (r:C0m)=>(¬Bo x.1 x.1.1.length->r.1= []/\r.2.1=1)/\(Bo x.1 x.1.1.length->(x.2.1.length≠x.1.1.length->r.1= []/\r.2.1=4)/\(x.2.1.length=x.1.1.length->r.2.1=0/\r.1.length=x.1.1.length/\(∀e∈r.1,e=rc (rv e))/\∀i:Nat,i<x.1.1.length->B8 x.1.1.length (λj=>luM x.1 x.1.1.length i j*rv (r.1.getD (ix x.1.2.1 j) zr))=rv (x.2.1.getD (ix x.1.1 i) zr))))
def Ay:A8:=W2 [.val true tQ, .val false qd] [.own tE 105] (fun(x:QQ×(List EE)×Unit)=>sz K1 x.1/\ED K1 x.2.1) (fun(x:QQ×(List EE)×Unit) (r:Tl)=>KH (λi=>rv x.1*A5 x.2.1 i) r.1)
def R0:A8:=Ca
def O2:A8:=W2 [.val false qd, .val true tM] rf (fun(x:(List EE)×MM×Unit)=>ED K0 x.1/\N4 K0 x.2.1/\A4 x.2.1/\E3 x.1 x.2.1.1/\x.2.1.1<=1000) (fun(x:(List EE)×MM×Unit) (r:Tl)=>KH (λj=>U5 x.1 λk=>A5 (x.2.1.2.2.getD k.toNat []) j) r.1)
abbrev C6z:=(List EE)×QQ×(List EE)×Unit
def N7:A8:=W2 [.val false qd, .val true tQ, .val false qd] rf (fun(x:C6z)=>ED K1 x.1/\sz K1 x.2.1/\ED K1 x.2.2.1) (fun(x:C6z) (r:Tl)=>KH (λi=>A5 x.1 i+rv x.2.1*A5 x.2.2.1 i) r.1)
def Jv:A8:=sr re qn (fun(x:UQ)=>HC K1 x.1) (fun(x:UQ) (r:W4)=>r.1=decide (E3 x.1 x.2.1))
def Dn:A8:=W2 qx [.own tQ 58] (fun(x:D7)=>0<=x.1/\x.1<=16384) (fun(x:D7) (r:A4k)=>r.1=List.replicate x.1.toNat (rc 0))
def Fo:A8:=W2 [.val false qk] rx (fun(x:(List (List EE))×Unit)=>x.1.length<=4/\∀v∈x.1,v.length<=100000) (fun(x:(List (List EE))×Unit) (r:Dx)=>r.1.Pairwise (· < ·)/\∀i,i∈r.1↔∃v∈x.1,∃e∈v,e.1=i)
def W0:A8:=sr rn qn (fun(x:Tl)=>True) (fun(x:Tl) (r:W4)=>r.1=decide (asc x.1))
def J6:A8:=sr sj qp (fun(x:Wf×(((Int×Unit)->Prop)×((Int×Unit)->Bool))×Unit)=>∀i∈x.1,x.2.1.1 (i,())) (fun(x:Wf×(((Int×Unit)->Prop)×((Int×Unit)->Bool))×Unit) (r:D7)=>r.1=oM (λi=>x.2.1.2 (i,())) x.1)
abbrev C6y:=(List EE)×Wf×Unit
def U8:A8:=W2 [.val false qd, .val false qf] [.val false qd, .val false .bool] (fun(x:C6y)=>ED K1 x.1/\x.2.1.length<=100000) (fun(x:C6y) (r:(List EE)×Bool×Unit)=>K7 x.2.1 x.2.1.length->(∀j,A5 x.1 j≠0->0<=j/\j<x.2.1.length)->KH (λi=>if 0<=i/\i<x.2.1.length then A5 x.1 (((List.idxOf i x.2.1:Nat)):Int)else 0) r.1/\r.2.1=true)
def Cn:A8:=W2 rn [.own tE 105] (fun(x:Tl)=>Kn x.1) (fun(x:Tl) (r:Tl)=>KH (A5 x.1) r.1)
def Ag:A8:=sr sn qp (fun(x:ty0)=>x.1.1.length<=16384/\N4 K1 x.1.2.2.1/\N4 K1 x.1.2.2.2) (fun(x:ty0) (r:D7)=>(¬Bo x.1 x.1.1.length->r.1=1)/\(Bo x.1 x.1.1.length->(x.2.1.length≠x.1.1.length->r.1=4)/\(x.2.1.length=x.1.1.length->r.1=0)))
abbrev MZ:=QQ×QQ×QQ×Unit
def Ey:A8:=W2 [.val true tQ, .val true tQ, .val true tQ] qo (fun(x:MZ)=>sz K1 x.1/\sz K1 x.2.1/\sz K1 x.2.2.1) (fun(x:MZ) (r:C8)=>(rv x.2.2.1=0->r.1=x.1)/\(rv x.2.2.1≠0->r.1=rc (rv x.1-rv x.2.1*rv x.2.2.1)))
def Dv:A8:=W2 [.val false qd, .val false qd, .fn [(true,tQ),(true,tQ)] true tQ] [.own tE 105] (fun(x:(List EE)×(List EE)×(((QQ×QQ×Unit)->Prop)×((QQ×QQ×Unit)->QQ))×Unit)=>x.1.length<=100000/\x.2.1.length<=100000/\∀u v,(u=zr\/∃e∈x.1,e.2=u)->(v=zr\/∃e∈x.2.1,e.2=v)->x.2.2.1.1 (u,v,())) (fun(x:(List EE)×(List EE)×(((QQ×QQ×Unit)->Prop)×((QQ×QQ×Unit)->QQ))×Unit) (r:Tl)=>r.1=J1 x.2.2.1.2 x.1 x.2.1)
def Ba:A8:=W2 rn rf (fun(x:Tl)=>WU x.1) (fun(x:Tl) (r:Tl)=>(asc x.1->r.1=x.1)/\(¬asc x.1->asc r.1/\(∀j,A5 r.1 j=A5 x.1 j)/\r.1.length<=20/\HC 16777216 r.1))
def Az:A8:=W2 sq qo (fun(x:MZ)=>sz K1 x.1/\sz K1 x.2.2.1) (fun(x:MZ) (r:C8)=>r.1=rc (rv x.2.2.1*rv x.1))
def S2:A8:=W2 sq qo (fun(x:MZ)=>sz K1 x.1/\sz K1 x.2.1/\sz K1 x.2.2.1) (fun(x:MZ) (r:C8)=>r.1=rc (rv x.1+rv x.2.2.1*rv x.2.1))
def F7:A8:=mkM [.row tE 105, .val false qb, .val false qb, .fn [(true,tE),(true,tE)] false qb] [] (fun(x:(List EE)×Int×Int×(((EE×EE×Unit)->Prop)×((EE×EE×Unit)->Int))×Unit)=>Zz x.2.2.2.1.1 x.2.2.2.1.2/\0<=x.2.1/\x.2.1<=x.2.2.1/\x.2.2.1<=(x.1.length:Int)/\x.1.length<=100000) (fun(x:(List EE)×Int×Int×(((EE×EE×Unit)->Prop)×((EE×EE×Unit)->Int))×Unit) (r:Unit)=>True) (fun(x:(List EE)×Int×Int×(((EE×EE×Unit)->Prop)×((EE×EE×Unit)->Int))×Unit) (r:Unit) (o:Tl)=>o.1.Perm x.1/\o.1.take x.2.1.toNat=x.1.take x.2.1.toNat/\o.1.drop x.2.2.1.toNat=x.1.drop x.2.2.1.toNat/\Yk x.2.2.2.1.2 ((o.1.drop x.2.1.toNat).take (x.2.2.1.toNat-x.2.1.toNat)))
def Eh:A8:=W2 re qo (fun(x:UQ)=>ED K1 x.1) (fun(x:UQ) (r:C8)=>r.1=rc (A5 x.1 x.2.1))
def P4:A8:=sr [.val false qf] qn (fun(x:Dx)=>x.1.length<=100000) (fun(x:Dx) (r:W4)=>r.1=decide (K7 x.1 x.1.length))
abbrev UR:=EE×EE×Unit
def Bb:A8:=sr [.val true tE, .val true tE] qp (fun(x:UR)=>True) (fun(x:UR) (r:D7)=>r.1=N3 x.1.1 x.2.1.1)
def Cd:A8:=W2 qw qo (fun(x:R2)=>J8 x.1) (fun(x:R2) (r:C8)=>r.1=rc (rv x.1))
def T7:A8:=sr [.val true qm, .val false qb] qn (fun(x:ty1)=>0<=x.2.1/\x.2.1<=16384/\N4 K1 x.1.2.2.1/\N4 K1 x.1.2.2.2) (fun(x:ty1) (r:W4)=>r.1=true↔Bo x.1 x.2.1)
def F5:A8:=mkM [.row tE 105, .fn [(true,tE),(true,tE)] false (.int .i64)] [] (fun(x:(List EE)×(((EE×EE×Unit)->Prop)×((EE×EE×Unit)->Int))×Unit)=>Zz x.2.1.1 x.2.1.2/\x.1.length<=20) (fun(x:(List EE)×(((EE×EE×Unit)->Prop)×((EE×EE×Unit)->Int))×Unit) (r:Unit)=>True) (fun(x:(List EE)×(((EE×EE×Unit)->Prop)×((EE×EE×Unit)->Int))×Unit) (r:Unit) (o:Tl)=>o.1.Perm x.1/\Yk x.2.1.2 o.1)
def O9:A8:=sr rt qn (fun(x:NA)=>0<=x.2.1/\x.2.1<=16384) (fun(x:NA) (r:W4)=>r.1=decide (K7 x.1 x.2.1))
def Q4:A8:=sr [.val true tM, .val false (.ptr qb)] qn (fun(x:Nj)=>True) (fun(x:Nj) (r:W4)=>r.1=decide (sqr x.1 x.2.1))
def I5:A8:=mkM [.row tE 105, .val false qb, .fn [(true,tE),(true,tE)] false qb] [] (fun(x:(List EE)×Int×(((EE×EE×Unit)->Prop)×((EE×EE×Unit)->Int))×Unit)=>Zz x.2.2.1.1 x.2.2.1.2/\x.2.1=(x.1.length:Int)/\x.1.length<=20) (fun(x:(List EE)×Int×(((EE×EE×Unit)->Prop)×((EE×EE×Unit)->Int))×Unit) (r:Unit)=>True) (fun(x:(List EE)×Int×(((EE×EE×Unit)->Prop)×((EE×EE×Unit)->Int))×Unit) (r:Unit) (o:Tl)=>o.1.Perm x.1/\Yk x.2.2.1.2 o.1)
def Iz:A8:=W2 [.row tE 105, .val false qb, .val false qb, .val false qb, .fn [(true,tE),(true,tE)] false qb] [] (fun(x:(List EE)×Int×Int×Int×(((EE×EE×Unit)->Prop)×((EE×EE×Unit)->Int))×Unit)=>False) (fun(x:(List EE)×Int×Int×Int×(((EE×EE×Unit)->Prop)×((EE×EE×Unit)->Int))×Unit) (r:Unit)=>True)
noncomputable def MW:G1:= [(64,Ge)]
def pZ9:Nat→Nat→Pl→Pl
 | _,0,k=>k
 |i,n+1,k=> .p i (pZ9 (i+1) n k)
def vI:List Wq:= [.val (.int .i64)]
def vU:List Wq:= [.val (.int .u64)]
def KR:An:= {loop:= [(3,⟨[1,3],[0,2,3],[(4,false,vI)],[],[(4, .rows tQ 63 58)]⟩)],plan:= [(5,[3,6,8],[14],true, .done)]}
def WJ:An:= {join:= [(11,⟨[4,7],[0],[],[(2,24,[.val qb, .val qb, .val qk])],[]⟩)],loop:= [(7,⟨[4,6,7,8],[0,2],[(9,false,vI)],[],[(4, .rows tQ 63 58)]⟩)],plan:= [(9,[3,8,11],[15],true, .done)]}
noncomputable def aH:G1:= [(9,Ix),(11,Q8),(12,U6),(30,Lq),(46,Iy),(47,Cm),(24,W1 (Md ⟨prog,aP⟩ [(24,MW,KR)] f24.results.toList (f24.body.getD .skip) f24.ntmps))]
def rT1 (P:MM×Unit->Prop):Prop:=∀r:MM×Unit,WfM r.1/\True->P r
def N2 (P:QQ×Unit->Prop):Prop:=∀r:QQ×Unit,RR r.1/\True->P r
abbrev GC:=(Wf×Int)×Unit
abbrev C0r:=Int×Int×List (List EE)×Unit
abbrev A4l:=Int×List (List QQ)×Unit
abbrev aN:=Wf×Int×Unit
abbrev C4w:=List QQ×Bool×Unit
def BL(x:aN):Prop:=let h:=(1:Int);let d:=(0:Int);let b:(A4l)->Prop:=(λp=>d<=p.1/\p.1<(p.2.1.length:Int));True/\∀(r:GC),let u:=(r.1.1.length:Int);(WA r.1.1/\O5 r.1.2)/\True->r.1=(x.1,d)->(d<x.2.1/\d<=r.1.2/\r.1.2<=u)/\∀(w:D7) (o:GC),let v:=(o.1.1.length:Int);let q:=(i64.wrap (h+w.1));O5 w.1/\True->((Ty.int i64).sl.pair (Ty.int i64)).wf o.1/\True->d<=w.1/\w.1<x.2.1->o.1.1=r.1.1/\d<=o.1.2/\o.1.2<=u->(d<=i64.wrap (h+w.1)/\i64.wrap (h+w.1)<=(20:Int)/\d<=i64.wrap (h+w.1)/\i64.wrap (h+w.1)<=(20:Int)/\d<=o.1.2/\o.1.2<=v)/\∀(r:Cg) (y:GC),let t:=(y.1.1.length:Int);WfM r.1/\True->((Ty.int i64).sl.pair (Ty.int i64)).wf y.1/\True->C3a q.toNat q.toNat r.1->y.1.1=o.1.1/\d<=y.1.2/\y.1.2<=v->∃(J:C0r->Prop),((d<(4:Int)/\d<=y.1.2/\y.1.2<=t)/\∀(A:D7) (o:GC),O5 A.1/\True->((Ty.int i64).sl.pair (Ty.int i64)).wf o.1/\True->d<=A.1/\A.1<4->o.1.1=y.1.1/\d<=o.1.2/\o.1.2<=t->(iB (decide (d<A.1)) ((d<=r.1.1/\r.1.1<=r.1.1/\(↑(24:Nat):Int)*r.1.1<=281474976710656/\r.1.1<=9223372036854775807)/\∃(I:A4l->Prop),∃(a: _->Nat),I (d,List.replicate r.1.1.toNat [],())/\∀(p:A4l),let s:=(gx [] r.1.2.2 p.1);(Ty.int i64).wf p.1/\B7d p.2.1/\True->I p->(iB (decide (p.1<r.1.1)) ((d<=p.1/\p.1<(r.1.2.2.length:Int))/\(ED K1 s/\E3 s r.1.2.1/\d<=r.1.2.1/\r.1.2.1<=16384)/\∀(z:C4w),let k:=(i64.wrap (p.1+h),List.set p.2.1 p.1.toNat z.1,());WB z.1/\True/\True->z.1=dl r.1.2.1 (A5 s)/\z.2.1=true->(b p)/\I k/\a k<a p) (∃(I:A4l->Prop),∃(a: _->Nat),I (d,p.2.1,())/\∀(p:A4l),let m:=p.1.toNat;let e:=(List.getD p.2.1 m []);let f:Prop:=(p.1<i64.wrap (h+w.1));let c:Prop:=(d<=p.1/\p.1<(↑e.length:Int));(Ty.int i64).wf p.1/\B7d p.2.1/\True->I p->(iB (decide f) ((b p)/\(b p)/\c/\True/\N2 λr=>r.1=ri (20:Int)->(J8 (e.getD m dQ)/\J8 r.1)/\N2 λz=>let g:=(i64.wrap (p.1+h),List.set p.2.1 m (e.set m z.1),());z.1=rc (rv (e.getD m dQ)+rv r.1)->c/\I g/\a g<a p) (((∀(l:List QQ),l∈p.2.1->Tj K1 l/\(↑l.length:Int)=i64.wrap (h+w.1))/\d<=i64.wrap (h+w.1)/\i64.wrap (h+w.1)<=(16384:Int)/\List.length p.2.1<=16384)/\rT1 λr=>Ep p.2.1.length q.toNat (fun(i j:Nat)=>rv ((List.getD p.2.1 i []).getD j zr)) r.1->J (r.1.1,r.1.2.1,r.1.2.2,())))))) (J (r.1.1,r.1.2.1,r.1.2.2,()))))/\∀(p:C0r),(Ty.int i64).wf p.1/\(Ty.int i64).wf p.2.1/\tE.sl.sl.wf p.2.2.1/\True->J p->∃(n:Nat),(1:Nat)<=n/\(↑n:Int)<=x.2.1/\∃(f:Nat->Nat->Rat),(∀(i j:Nat),qs (4:Nat) (f i j))/\Ep n n f (p.1,p.2.1,p.2.2.1)
def iN:An:= {loop:= [(4,⟨[1],[0],[(3,false,vI)],[],[]⟩)],plan:= [(6,[1,4,6],[],true, .done)]}
def mU:An:= {loop:= [(3,⟨[0,4,5],[0],[(6,false,vI)],[(1,24,[.val qb, .val qb, .own qd 49])],[]⟩)],plan:= [(5,[1,5],[8,10],false, .done)]}
def TP:An:= {loop:= [(3,⟨[1,3],[0],[(4,false,vI)],[],[(1, .row qj 63)]⟩)],plan:= [(5,[3,6,8],[14],true, .done)]}
def OU:An:= {loop:= [(4,⟨[2,3],[0,1],[(5,false,vI)],[],[]⟩)],plan:= [(6,[1,4,6,9],[],true, .done)]}
def Jp (P:Bool×Unit->Prop):Prop:=∀r:Bool×Unit,True/\True->P r
def OC(x:Cg):Prop:=let f:=(0:Int);let b:=(x.1.2.2.length:Int);let e:=(decide (b≠x.1.1));let c:=(L5 (L5 (L5 (decide (x.1.1<f)) true (decide (16384<x.1.1))) true (decide (x.1.2.1<f))) true (decide (16384<x.1.2.1)));(iB (L5 c true e) (false=decide (A4 x.1)) (∃(I:D7->Prop),∃(a: _->Nat),I (f,())/\∀(p:D7),let d:=(gx [] x.1.2.2 p.1);let c:=(i64.wrap (p.1+1),());(Ty.int i64).wf p.1/\True->I p->(iB (decide (p.1<x.1.1)) ((f<=p.1/\p.1<b)/\HC K1 d/\Jp λr=>r.1=decide (E3 d x.1.2.1)->(iB ((!r.1)) (false=decide (A4 x.1)) (I c/\a c<a p))) (true=decide (A4 x.1)))))
def UP (P:List EE×Unit->Prop):Prop:=∀r:List EE×Unit,KN r.1/\True->P r
abbrev C7l:=Int×Int×Int×List (List EE)×Unit
def TD(x:List (List QQ)×Int×Unit):Prop:=let d:=(↑x.2.1.toNat:Int);let b:=(x.1.length:Int);∃(I:C7l->Prop),∃(f: _->Nat),I ((0:Int),b,x.2.1,[],())/\∀(p:C7l),let c:=(gx [] x.1 p.1);(Ty.int i64).wf p.1/\(Ty.int i64).wf p.2.1/\(Ty.int i64).wf p.2.2.1/\tE.sl.sl.wf p.2.2.2.1/\True->I p->(iB (decide (p.1<b)) ((0<=p.1/\p.1<b)/\(c.length<=(100000:Nat)/\Tj K1 c)/\UP λr=>let a:=(i64.wrap (p.1+1),p.2.1,p.2.2.1,p.2.2.2.1++ [r.1],());Ws c.length (fun(j:Nat)=>rv (c.getD j zr)) r.1->((p.2.2.2.1.length+ [r.1].length)*(24:Nat)<=(140737488355328:Nat)/\p.2.2.2.1.length+ [r.1].length<=9223372036854775807)/\I a/\f a<f p) (p.2.1=(↑x.1.length:Int)/\p.2.2.1=d/\p.2.2.2.1.length=x.1.length/\∀(i:Nat),i<x.1.length->V2 (p.2.2.2.1.getD i [])/\(∀(e:D5),e∈p.2.2.2.1.getD i []->0<=e.1/\e.1<d)/\∀(j:Nat),j<x.2.1.toNat->A5 (p.2.2.2.1.getD i []) (↑j:Int)=rv ((x.1.getD i []).getD j zr)))
def Xe(x:Cg):Prop:=let c:=(0:Int);(c<=x.1.1/\x.1.1<=x.1.1/\(↑(24:Nat):Int)*x.1.1<=281474976710656/\x.1.1<=9223372036854775807)/\∃(I:A4l->Prop),∃(d: _->Nat),I (c,List.replicate x.1.1.toNat [],())/\∀(p:A4l),let b:=(gx [] x.1.2.2 p.1);(Ty.int i64).wf p.1/\B7d p.2.1/\True->I p->(iB (decide (p.1<x.1.1)) ((c<=p.1/\p.1<(x.1.2.2.length:Int))/\(ED K1 b/\E3 b x.1.2.1/\c<=x.1.2.1/\x.1.2.1<=16384)/\∀(r:C4w),let a:=(i64.wrap (p.1+1),List.set p.2.1 p.1.toNat r.1,());WB r.1/\True/\True->r.1=dl x.1.2.1 (A5 b)/\r.2.1=true->(c<=p.1/\p.1<(p.2.1.length:Int))/\I a/\d a<d p) (p.2.1=els x.1))
def Tw(x:MY):Prop:=let d:=(x.2.1.2.2.length:Int);let g:=(L5 (decide (x.1.1≠x.2.1.1)) true (decide (x.1.2.1≠x.2.1.2.1)));let b:Prop:=(false=true↔x.1=x.2.1/\∀(v:List EE),v∈x.1.2.2->∀(e:EE),e∈v->e.2=rc (rv e.2));let a:=(x.1.2.2.length:Int);(iB (L5 g true (decide (a≠d))) (b) (∃(I:D7->Prop),∃(c: _->Nat),I ((0:Int),())/\∀(p:D7),let f:=(i64.wrap (p.1+1),());(Ty.int i64).wf p.1/\True->I p->(iB (decide (p.1<a)) ((0<=p.1/\p.1<a)/\(0<=p.1/\p.1<d)/\HC K1 (gx [] x.1.2.2 p.1)/\Jp λr=>r.1=decide (gx [] x.1.2.2 p.1=gx [] x.2.1.2.2 p.1/\∀(e:EE),e∈gx [] x.1.2.2 p.1->e.2=rc (rv e.2))->(iB ((!r.1)) (b) (I f/\c f<c p))) ((true=true↔x.1=x.2.1/\∀(v:List EE),v∈x.1.2.2->∀(e:EE),e∈v->e.2=rc (rv e.2))))))
noncomputable def Qp:G1:= []
def Pz:An:= {}
def Xs:An:= {join:= [(17,⟨[5,48,49,50],[1,3],[(10,false,[.own tE 105])],[],[]⟩)],loop:= [(6,⟨[3,5,7,14,15,16,25,26],[0,2],[(27,false,vI)],[],[(1, .map false qb true tQ)]⟩),(3,⟨[3,5,14,15],[0],[(16,false,vI)],[],[(1, .map false qb true tQ)]⟩),(13,⟨[5,48,49],[1,3],[(10,false,[.own tE 105]),(50,false,vI)],[],[]⟩)],plan:= [(8,[2,5,6,8,10],[13],true, .done)]}
noncomputable def Yh:G1:= [(122,Aq),(123,V7),(135,W9),(151,W1 (jX 195 3)),(152,W1 (Md ⟨prog,tys⟩ [(47,Qp,Pz)] f152.results.toList (f152.body.getD .skip) f152.ntmps))]
noncomputable def QW:G1:= []
def OO:An:= {}
def cH:An:= {loop:= [(7,⟨[3,4,6,30,31],[1,2,5],[(32,false,vI)],[],[(4, .row qd 49)]⟩)],plan:= [(9,[1,4],[7],true, .done)]}
noncomputable def dD:G1:= [(52,K2),(109,O2),(99,W1 (Md ⟨prog,tys⟩ [(28,QW,OO)] f99.results.toList (f99.body.getD .skip) f99.ntmps))]
def Et (P:Int×Unit->Prop):Prop:=∀r:Int×Unit,O5 r.1/\True->P r
abbrev ND:=Int×List EE×Unit
abbrev Ym:=List EE×Int×Unit
abbrev Qs:=List EE×Unit
def Ie(x:List EE×MM×Unit):Prop:=let h:=(0:Int);∃(I:ND->Prop),∃(a: _->Nat),I (h,[],())/\∀(p:ND),let g:=(gx D8 x.1 p.1);let o:=(gx [] x.2.1.2.2 g.1);let b:Prop:=(p.1<(x.1.length:Int));(Ty.int i64).wf p.1/\(∀(x:Int×(Bool×Wf)×Wf),x∈p.2.1->WfE x)/\True->I p->(iB (decide b) ((h<=p.1/\b)/\(h<=g.1/\g.1<(x.2.1.2.2.length:Int))/\∃(I_1:ND->Prop),∃(c: _->Nat),I_1 (h,p.2.1,())/\∀(q:ND),let j:=(i64.wrap (p.1+1),q.2.1,());let d:=(gx D8 o q.1);let b:Prop:=(q.1<(↑o.length:Int));(Ty.int i64).wf q.1/\(∀(x:Int×(Bool×Wf)×Wf),x∈q.2.1->WfE x)/\True->I_1 q->(iB (decide b) ((h<=q.1/\b)/\(J8 g.2/\J8 d.2)/\N2 λr=>r.1=rc (rv g.2*rv d.2)->(J8 ((I9 (Ty.int i64) d.1 q.2.1).getD dQ)/\J8 r.1)/\N2 λs=>let f:=(i64.wrap (q.1+1),Ev (Ty.int i64) d.1 s.1 q.2.1,());s.1=rc (rv ((I9 (Ty.int i64) d.1 q.2.1).getD dQ)+rv r.1)->I_1 f/\c f<c q) (I j/\a j<a p))) ((List.length p.2.1<=100000/\(List.map (fun(x:Int×(Bool×Wf)×Wf)=>x.1) p.2.1).Nodup)/\∀(l:Wf),l.Perm (List.map (fun(x:Int×(Bool×Wf)×Wf)=>x.1) p.2.1)->List.Pairwise (fun(b c:Int)=>b<=c) l->∃(I:Ym->Prop),∃(a: _->Nat),I ([],h,())/\∀(q:Ym),let n:=q.2.1.toNat;let e:=(l.getD n h,(I9 (Ty.int i64) (l.getD n h) p.2.1).getD dQ);let c:Prop:=(q.2.1<(↑l.length:Int));tE.sl.wf q.1/\(Ty.int i64).wf q.2.1/\True->I q->(iB (decide c) (∃(J:Qs->Prop),((h<=q.2.1/\c)/\True/\Et λr=>r.1=(rv ((I9 (Ty.int i64) (l.getD n h) p.2.1).getD dQ)).num.sign->(iB (decide (r.1≠h)) (((q.1.length+ [e].length)*(64:Nat)<=(140737488355328:Nat)/\q.1.length+ [e].length<=9223372036854775807)/\J (q.1++ [e],())) (J (q.1,()))))/\∀(p:Qs),let m:=(p.1,i64.wrap (q.2.1+1),());tE.sl.wf p.1/\True->J p->I m/\a m<a q) (V2 q.1/\∀(i:Int),A5 q.1 i=U5 x.1 fun(k:Int)=>A5 (x.2.1.2.2.getD k.toNat []) i))))
abbrev GD:=Int×List (List EE)×Unit
def HJ(x:MY):Prop:=let l:Prop:=(x.1.2.1≠x.2.1.1);let h:=(4:Int);let g:=(1:Int);let e:Prop:=(A4 x.1/\A4 x.2.1);let d:=(x.1.2.2.length:Int);let a:=(0:Int);True/\Jp λr=>r.1=decide (A4 x.1)->((!r.1)=false->True)/\∀(m:W4),((!r.1)=false->(True/\True)/\m.1=decide (A4 x.2.1))->(iB ((L5 (!r.1) true !m.1)) ((¬e->(a,a,[])=zm/\g=g)/\(A4 x.1/\A4 x.2.1->(x.1.2.1≠x.2.1.1->(a,a,[])=zm/\g=h)/\(x.1.2.1=x.2.1.1->Ep x.1.1.toNat x.2.1.2.1.toNat (fun(i j:Nat)=>B8 x.1.2.1.toNat fun(k:Nat)=>el x.1 i k*el x.2.1 k j) (a,a,[])/\g=a))) ((iB (decide l) ((¬e->(a,a,[])=zm/\h=g)/\(A4 x.1/\A4 x.2.1->(x.1.2.1≠x.2.1.1->(a,a,[])=zm/\h=h)/\(x.1.2.1=x.2.1.1->Ep x.1.1.toNat x.2.1.2.1.toNat (fun(i j:Nat)=>B8 x.1.2.1.toNat fun(k:Nat)=>el x.1 i k*el x.2.1 k j) (a,a,[])/\h=a))) ((a<=x.1.1/\x.1.1<=x.1.1/\(↑(24:Nat):Int)*x.1.1<=281474976710656/\x.1.1<=9223372036854775807)/\∃(I:GD->Prop),∃(l: _->Nat),I (a,List.replicate x.1.1.toNat [],())/\∀(p:GD),let f:=(gx [] x.1.2.2 p.1);let c:=(x.1.1,x.2.1.2.1,p.2.1);(Ty.int i64).wf p.1/\Oa p.2.1/\True->I p->(iB (decide (p.1<d)) ((a<=p.1/\p.1<d)/\(ED K0 f/\N4 K0 x.2.1/\A4 x.2.1/\E3 f x.2.1.1/\x.2.1.1<=1000)/\UP λr=>let b:=(i64.wrap (p.1+g),List.set p.2.1 p.1.toNat r.1,());KH (fun(j:Int)=>U5 f fun(k:Int)=>A5 (List.getD x.2.1.2.2 k.toNat []) j) r.1->(a<=p.1/\p.1<(p.2.1.length:Int))/\I b/\l b<l p) ((¬e->c=zm/\a=g)/\(A4 x.1/\A4 x.2.1->(x.1.2.1≠x.2.1.1->c=zm/\a=h)/\(x.1.2.1=x.2.1.1->Ep x.1.1.toNat x.2.1.2.1.toNat (fun(i j:Nat)=>B8 x.1.2.1.toNat fun(k:Nat)=>el x.1 i k*el x.2.1 k j) c/\a=a))))))))
noncomputable def GA:G1:= []
def EV:An:= {}
def OP:An:= {loop:= [(10,⟨[1,2,3,6,9,51,52],[0,1],[(53,false,vI)],[],[(2, .map false qb false qf)]⟩),(23,⟨[3,6,9,12,13,17,72,73,74,83,84,85,92,93],[0,1,2,4,5,7],[(15,false,[.own tE 105]),(94,false,vI)],[],[]⟩),(20,⟨[3,6,9,12,13,72,73,74,83,84],[0,1,2,4,5],[(15,false,[.own tE 105]),(85,false,vI)],[],[]⟩),(16,⟨[3,6,9,12,72,73],[0,1,2,5],[(74,false,vI)],[],[(4, .rows tE 49 105)]⟩)]}
noncomputable def QX:G1:= [(52,K2),(74,P8),(94,U7),(96,W1 (B2y prog [(false, .int .i64)] false .bool (.int .i64) (λn x=>decide (x.1<0\/n<=x.1)))),(98,F8),(100,W1 (VQ 101 tE 105 (λa b=>N3 a.1 b.1))),(99,W1 (Md ⟨prog,aP⟩ [(71,GA,EV)] f99.results.toList (f99.body.getD .skip) f99.ntmps))]
def Zd:An:= {}
def Hv:An:= {}
def Kg:An:= {loop:= [(2,⟨[0,1,7],[],[(8,false,vI)],[],[]⟩)]}
abbrev C7m:=Int×List (Int×Wf)×Unit
def Tr(x:MM×Wf×Wf×Unit):Prop:=let D:=(140737488355328:Nat);let w:=(8:Int);let v:=(3:Int);let s:=(1:Int);let q:=(fun(x:D7)=>True,fun(z:D7)=>decide (z.1<(0:(Ty.int i64).den)\/x.1.1<=z.1));let o:=(fun(x:D7)=>True,fun(z:D7)=>decide (z.1<(0:(Ty.int i64).den)\/x.1.2.1<=z.1));let n:=(16384:Nat);let m:=(x.2.2.1.length:Int);let k:=(x.2.1.length:Int);let h:=(0:Int);let c:Prop:=((∃(i:Int),i∈x.2.1/\(i<h\/x.1.1<=i))\/∃(i:Int),i∈x.2.2.1/\(i<h\/x.1.2.1<=i));True/\Jp λr=>r.1=decide (A4 x.1)->(iB ((!r.1)) ((¬A4 x.1->(h,h,[])=zm/\s=s)/\(A4 x.1->(c->(h,h,[])=zm/\s=v)/\(¬c->(n<x.2.1.length\/n<x.2.2.1.length->(h,h,[])=zm/\s=w)/\(x.2.1.length<=n/\x.2.2.1.length<=n->Ep x.2.1.length x.2.2.1.length (fun(i j:Nat)=>el x.1 (x.2.1.getD i h).toNat (x.2.2.1.getD j h).toNat) (h,h,[])/\s=h)))) (Go.Proofs.Tryz.prog=Go.Proofs.Tryz.prog/\false=false/\(∀(i:Int),i∈x.2.1->q.1 (i,()))/\Jp λJ=>J.1=decide (∃(i:Int),i∈x.2.1/\q.2 (i,())=true)->Go.Proofs.Tryz.prog=Go.Proofs.Tryz.prog/\false=false/\(J.1=false->∀(i:Int),i∈x.2.2.1->o.1 (i,()))/\∀(L:W4),(J.1=false->(True/\True)/\L.1=decide (∃(i:Int),i∈x.2.2.1/\o.2 (i,())=true))->(iB (L5 J.1 true L.1) ((¬A4 x.1->(h,h,[])=zm/\v=s)/\(A4 x.1->(c->(h,h,[])=zm/\v=v)/\(¬c->(n<x.2.1.length\/n<x.2.2.1.length->(h,h,[])=zm/\v=w)/\(x.2.1.length<=n/\x.2.2.1.length<=n->Ep x.2.1.length x.2.2.1.length (fun(i j:Nat)=>el x.1 (x.2.1.getD i h).toNat (x.2.2.1.getD j h).toNat) (h,h,[])/\v=h)))) (True/\Jp λK=>K.1=decide (h<=k/\k<=(16384:Int))->((!K.1)=false->True)/\∀(M:W4),((!K.1)=false->(True/\True)/\M.1=decide (h<=m/\m<=(16384:Int)))->(iB ((L5 (!K.1) true !M.1)) ((¬A4 x.1->(h,h,[])=zm/\w=s)/\(A4 x.1->(c->(h,h,[])=zm/\w=v)/\(¬c->(n<x.2.1.length\/n<x.2.2.1.length->(h,h,[])=zm/\w=w)/\(x.2.1.length<=n/\x.2.2.1.length<=n->Ep x.2.1.length x.2.2.1.length (fun(i j:Nat)=>el x.1 (x.2.1.getD i h).toNat (x.2.2.1.getD j h).toNat) (h,h,[])/\w=h)))) (∃(I:C7m->Prop),∃(a: _->Nat),I (h,[],())/\∀(p:C7m),let C:=(gx h x.2.2.1 p.1);let t:=(i64.wrap (p.1+s),Ev (Ty.int i64) C [p.1] p.2.1,());let f:Prop:=(p.1<m);(Ty.int i64).wf p.1/\(∀(x:Int×Wf),x∈p.2.1->O5 x.1/\WA x.2)/\True->I p->(iB (decide f) ((h<=p.1/\f)/\I9 (Ty.int i64) C p.2.1=Option.none/\(((0:Nat)+ [p.1].length)*(8:Nat)<=D/\(0:Nat)+ [p.1].length<=9223372036854775807)/\I t/\a t<a p) ((h<=k/\k<=k/\(↑(24:Nat):Int)*k<=(281474976710656:Int)/\k<=(9223372036854775807:Int))/\∃(I:GD->Prop),∃(a: _->Nat),I (h,List.replicate k.toNat [],())/\∀(G:GD),let B:=(gx [] x.1.2.2 (gx h x.2.1 G.1));let y:=(k,m,G.2.1);let g:Prop:=(G.1<k);(Ty.int i64).wf G.1/\Oa G.2.1/\True->I G->(iB (decide g) ((h<=G.1/\g)/\(h<=gx h x.2.1 G.1/\gx h x.2.1 G.1<(x.1.2.2.length:Int))/\∃(I_1:Ym->Prop),∃(f: _->Nat),I_1 ([],h,())/\∀(H:Ym),let l:=(gx D8 B H.2.1);let e:Prop:=(H.2.1<(↑B.length:Int));tE.sl.wf H.1/\(Ty.int i64).wf H.2.1/\True->I_1 H->(iB (decide e) ((h<=H.2.1/\e)/\∃(I:Ym->Prop),∃(a: _->Nat),I (H.1,h,())/\∀(F:Ym),let A:=(F.1,i64.wrap (H.2.1+s),());let d:Prop:=(F.2.1<(↑((I9 (Ty.int i64) l.1 p.2.1).getD []).length:Int));tE.sl.wf F.1/\(Ty.int i64).wf F.2.1/\True->I F->(iB (decide d) ((h<=F.2.1/\d)/\J8 l.2/\N2 λr=>r.1=rc (rv l.2)->((F.1.length+ [(gx h ((I9 (Ty.int i64) l.1 p.2.1).getD []) F.2.1,r.1)].length)*(64:Nat)<=D/\F.1.length+ [(gx h ((I9 (Ty.int i64) l.1 p.2.1).getD []) F.2.1,r.1)].length<=9223372036854775807)/\I (F.1++ [(gx h ((I9 (Ty.int i64) l.1 p.2.1).getD []) F.2.1,r.1)],i64.wrap (F.2.1+s),())/\a (F.1++ [(gx h ((I9 (Ty.int i64) l.1 p.2.1).getD []) F.2.1,r.1)],i64.wrap (F.2.1+s),())<a F) (I_1 A/\f A<f H))) (H.1.length<=(100000:Nat)/\∀(b:List EE),let u:=(i64.wrap (G.1+s),List.set G.2.1 G.1.toNat b,());tE.sl.wf b->b.Perm H.1->List.Pairwise (fun(d f:Int×(Bool×Wf)×Wf)=>¬N3 f.1 d.1<h) b->(h<=G.1/\G.1<(G.2.1.length:Int))/\I u/\a u<a G))) ((¬A4 x.1->y=zm/\h=s)/\(A4 x.1->(c->y=zm/\h=v)/\(¬c->(n<x.2.1.length\/n<x.2.2.1.length->y=zm/\h=w)/\(x.2.1.length<=n/\x.2.2.1.length<=n->Ep x.2.1.length x.2.2.1.length (fun(i j:Nat)=>el x.1 (x.2.1.getD i h).toNat (x.2.2.1.getD j h).toNat) y/\h=h)))))))))))))
def Kc(x:Ch):Prop:=L5 (decide (x.1<0)) true (decide (x.2.1<=x.1))=decide (x.1<0\/x.2.1<=x.1)
def Z6(x:Wf×((Int×Unit->Prop)×(Int×Unit->Bool))×Unit):Prop:=let a:=(x.2.1.1,fun(z:D7)=>x.2.1.2 z);Go.Proofs.Tryz.prog=Go.Proofs.Tryz.prog/\false=false/\(∀(i:Int),i∈x.1->a.1 (i,()))/\Et λr=>r.1=oM (fun(i:Int)=>a.2 (i,())) x.1->decide (0<=r.1)=decide (∃(i:Int),i∈x.1/\x.2.1.2 (i,())=true)
def Ci(x:Wf×((Int×Unit->Prop)×(Int×Unit->Bool))×Unit):Prop:=let b:=(x.1.length:Int);∃(I:D7->Prop),∃(d: _->Nat),I ((0:Int),())/\∀(p:D7),let c:=(i64.wrap (p.1+1),());let a:=(gx (0:Int) x.1 p.1,());(Ty.int i64).wf p.1/\True->I p->(iB (decide (p.1<b)) ((0<=p.1/\p.1<b)/\Go.Proofs.Tryz.prog=Go.Proofs.Tryz.prog/\x.2.1.1 a/\(Ty.bool.wf (x.2.1.2 a)->(iB (x.2.1.2 a) (p.1=oM (fun(i:Int)=>x.2.1.2 (i,())) x.1) (I c/\d c<d p)))) ((-1:Int)=oM (fun(i:Int)=>x.2.1.2 (i,())) x.1))
def KV:An:= {}
def TL:An:= {loop:= [(4,⟨[1,24,25],[0],[(26,false,vI)],[],[]⟩)]}
def TM:An:= {loop:= [(3,⟨[3,8],[],[(9,false,vI)],[],[(0, .row tQ 58)]⟩)]}
def TK:An:= {loop:= [(10,⟨[1,6,7,23,24,25,30,31],[],[(32,false,vI)],[],[(1, .row tQ 58)]⟩),(7,⟨[1,6,23,24],[],[(25,false,vI)],[],[(1, .row tQ 58)]⟩)],plan:= [(12,[5,7,10,12],[16],true, .done)]}
noncomputable def QV:G1:= []
def ON:An:= {}
def cG:An:= {loop:= [(7,⟨[4,5,6,8,39,40],[1,2,3,6],[(41,false,vI)],[],[(5, .row qd 49)]⟩)],plan:= [(9,[1,4,6,9],[12],true, .done)]}
noncomputable def dC:G1:= [(52,K2),(110,N7),(99,W1 (Md ⟨prog,tys⟩ [(37,QV,ON)] f99.results.toList (f99.body.getD .skip) f99.ntmps))]
noncomputable def Vy:G1:= []
def Uj:An:= {}
def EW:An:= {loop:= [(8,⟨[2,4,5,19,20,21,26,27],[1,4],[(28,false,vI)],[],[(3, .rows tE 49 105)]⟩),(5,⟨[2,4,19,20],[1,4],[(21,false,vI)],[],[(3, .rows tE 49 105)]⟩)],plan:= [(10,[5,7,9,12],[16,18],false, .done)]}
noncomputable def GB:G1:= [(52,K2),(74,P8),(99,W1 (Md ⟨prog,aP⟩ [(17,Vy,Uj)] f99.results.toList (f99.body.getD .skip) f99.ntmps))]
def Pn(x:D7):Prop:=L5 (decide (0<=x.1)) (decide (x.1<=16384)) false=decide (0<=x.1/\x.1<=16384)
def Xa(x:Cg):Prop:=let d:=(0:Int);let a:=(x.1.2.2.length:Int);let f:=(decide (a≠x.1.1));True/\Jp λr=>r.1=decide (d<=x.1.1/\x.1.1<=16384)->((!r.1)=false->True)/\∀(e:W4),((!r.1)=false->(True/\True)/\e.1=decide (d<=x.1.2.1/\x.1.2.1<=16384))->(iB (L5 (L5 (!r.1) true !e.1) true f) (false=decide (A4 x.1)) (∃(I:D7->Prop),∃(c: _->Nat),I (d,())/\∀(p:D7),let b:=(i64.wrap (p.1+1),());(Ty.int i64).wf p.1/\True->I p->(iB (decide (p.1<a)) ((d<=p.1/\p.1<a)/\True/\Jp λr=>r.1=decide (E3 (gx [] x.1.2.2 p.1) x.1.2.1)->(iB ((!r.1)) (false=decide (A4 x.1)) (I b/\c b<c p))) (true=decide (A4 x.1)))))
abbrev GE:=Int×List QQ×Unit
def Xb(x:D7):Prop:=let c:=(0:Int);(c<=x.1/\x.1<=x.1/\(↑(56:Nat):Int)*x.1<=281474976710656/\x.1<=9223372036854775807)/\∃(I:GE->Prop),∃(b: _->Nat),I (c,List.replicate x.1.toNat dQ,())/\∀(p:GE),let a:Prop:=(p.1<(↑(List.replicate x.1.toNat dQ).length:Int));(Ty.int i64).wf p.1/\WB p.2.1/\True->I p->(iB (decide a) (True/\N2 λr=>let a:=(i64.wrap (p.1+1),List.set p.2.1 p.1.toNat r.1,());r.1=ri c->(c<=p.1/\p.1<(p.2.1.length:Int))/\I a/\b a<b p) (p.2.1=List.replicate x.1.toNat (rc (0:Rat))))
abbrev C0u:=List QQ×Unit
def Wz(x:MM×List QQ×Unit):Prop:=let o:=(x.2.1.length:Int);let n:=(4:Int);let k:=(1:Int);let g:=(0:Int);let f:=(↑x.2.1.length:Int);let d:Prop:=(o≠x.1.2.1);True/\Jp λr=>r.1=decide (A4 x.1)->(iB ((!r.1)) ((¬A4 x.1->Er QQ= []/\k=k)/\(A4 x.1->(f≠x.1.2.1->Er QQ= []/\k=n)/\(f=x.1.2.1->Er QQ=List.map (fun(i:Nat)=>rc (B8 x.2.1.length fun(j:Nat)=>el x.1 i j*rv (x.2.1.getD j zr))) (List.range x.1.1.toNat)/\k=g))) ((iB (decide d) ((¬A4 x.1->Er QQ= []/\n=k)/\(A4 x.1->(f≠x.1.2.1->Er QQ= []/\n=n)/\(f=x.1.2.1->Er QQ=List.map (fun(i:Nat)=>rc (B8 x.2.1.length fun(j:Nat)=>el x.1 i j*rv (x.2.1.getD j zr))) (List.range x.1.1.toNat)/\n=g))) ((g<=x.1.1/\x.1.1<=16384)/\∀(r:C0u),WB r.1/\True->r.1=List.replicate x.1.1.toNat (rc (0:Rat))->∃(I:GE->Prop),∃(d: _->Nat),I (g,r)/\∀(p:GE),let q:=(gx [] x.1.2.2 p.1);let b:Prop:=(p.1<(x.1.2.2.length:Int));(Ty.int i64).wf p.1/\WB p.2.1/\True->I p->(iB (decide b) ((g<=p.1/\b)/\∃(I_1:GE->Prop),∃(v: _->Nat),I_1 (g,p.2.1,())/\∀(t:GE),let m:=(List.getD t.2.1 p.1.toNat dQ);let l:=(i64.wrap (p.1+k),t.2.1,());let e:=(gx D8 q t.1);let s:=(gx dQ x.2.1 e.1);let c:Prop:=(g<=p.1/\p.1<(t.2.1.length:Int));let a:Prop:=(t.1<(↑q.length:Int));(Ty.int i64).wf t.1/\WB t.2.1/\True->I_1 t->(iB (decide a) ((g<=t.1/\a)/\c/\(g<=e.1/\e.1<o)/\(J8 e.2/\J8 s)/\N2 λr=>r.1=rc (rv e.2*rv s)->(J8 m/\J8 r.1)/\N2 λu=>let h:=(i64.wrap (t.1+k),List.set t.2.1 p.1.toNat u.1,());u.1=rc (rv m+rv r.1)->c/\I_1 h/\v h<v t) (I l/\d l<d p))) ((¬A4 x.1->p.2.1= []/\g=k)/\(A4 x.1->(f≠x.1.2.1->p.2.1= []/\g=n)/\(f=x.1.2.1->p.2.1=List.map (fun(i:Nat)=>rc (B8 x.2.1.length fun(j:Nat)=>el x.1 i j*rv (x.2.1.getD j zr))) (List.range x.1.1.toNat)/\g=g))))))))
def HI(x:B6l):Prop:=let l:=(4:Int);let k:=(1:Int);let f:=(0:Int);let e:Prop:=(x.1.1≠x.2.2.1.1);let d:Prop:=(x.1.2.1≠x.2.2.1.2.1);let c:Prop:=(A4 x.1/\A4 x.2.2.1);let a:Prop:=(x.1.1=x.2.2.1.1/\x.1.2.1=x.2.2.1.2.1);True/\Jp λr=>r.1=decide (A4 x.1)->((!r.1)=false->True)/\∀(o:W4),((!r.1)=false->(True/\True)/\o.1=decide (A4 x.2.2.1))->(iB ((L5 (!r.1) true !o.1)) ((¬c->(f,f,[])=zm/\k=k)/\(A4 x.1/\A4 x.2.2.1->(¬a->(f,f,[])=zm/\k=l)/\(x.1.1=x.2.2.1.1/\x.1.2.1=x.2.2.1.2.1->Ep x.1.1.toNat x.1.2.1.toNat (fun(i j:Nat)=>el x.1 i j+rv x.2.1*el x.2.2.1 i j) (f,f,[])/\k=f))) ((iB (L5 (decide e) true (decide d)) ((¬c->(f,f,[])=zm/\l=k)/\(A4 x.1/\A4 x.2.2.1->(¬a->(f,f,[])=zm/\l=l)/\(x.1.1=x.2.2.1.1/\x.1.2.1=x.2.2.1.2.1->Ep x.1.1.toNat x.1.2.1.toNat (fun(i j:Nat)=>el x.1 i j+rv x.2.1*el x.2.2.1 i j) (f,f,[])/\l=f))) ((f<=x.1.1/\x.1.1<=x.1.1/\(↑(24:Nat):Int)*x.1.1<=281474976710656/\x.1.1<=9223372036854775807)/\∃(I:GD->Prop),∃(d: _->Nat),I (f,List.replicate x.1.1.toNat [],())/\∀(p:GD),let n:=(gx [] x.1.2.2 p.1);let m:=(gx [] x.2.2.1.2.2 p.1);let h:=(x.1.1,x.1.2.1,p.2.1);let b:Prop:=(p.1<(x.1.2.2.length:Int));(Ty.int i64).wf p.1/\Oa p.2.1/\True->I p->(iB (decide b) ((f<=p.1/\b)/\(f<=p.1/\p.1<(x.2.2.1.2.2.length:Int))/\(ED K1 n/\sz K1 x.2.1/\ED K1 m)/\UP λr=>let g:=(i64.wrap (p.1+k),List.set p.2.1 p.1.toNat r.1,());KH (fun(i:Int)=>A5 n i+rv x.2.1*A5 m i) r.1->(f<=p.1/\p.1<(p.2.1.length:Int))/\I g/\d g<d p) ((¬c->h=zm/\f=k)/\(A4 x.1/\A4 x.2.2.1->(¬a->h=zm/\f=l)/\(x.1.1=x.2.2.1.1/\x.1.2.1=x.2.2.1.2.1->Ep x.1.1.toNat x.1.2.1.toNat (fun(i j:Nat)=>el x.1 i j+rv x.2.1*el x.2.2.1 i j) h/\f=f))))))))
def Kr(x:Cg):Prop:=let A:=(140737488355328:Nat);let o:=(1:Int);let m:=(0:Int);True/\Jp λr=>r.1=decide (A4 x.1)->(iB ((!r.1)) ((¬A4 x.1->(m,m,[])=zm/\o=o)/\(A4 x.1->Ep x.1.2.1.toNat x.1.1.toNat (fun(i j:Nat)=>el x.1 j i) (m,m,[])/\o=m)) ((m<=x.1.2.1/\x.1.2.1<=x.1.2.1/\(↑(24:Nat):Int)*x.1.2.1<=281474976710656/\x.1.2.1<=9223372036854775807)/\∃(I:GD->Prop),∃(k: _->Nat),I (m,List.replicate x.1.2.1.toNat [],())/\∀(p:GD),let y:=(gx [] x.1.2.2 p.1);let w:=(x.1.2.1,x.1.1,p.2.1);let f:Prop:=(p.1<(x.1.2.2.length:Int));(Ty.int i64).wf p.1/\Oa p.2.1/\True->I p->(iB (decide f) ((m<=p.1/\f)/\∃(I_1:GD->Prop),∃(b: _->Nat),I_1 (m,p.2.1,())/\∀(B:GD),let v:=(i64.wrap (p.1+o),B.2.1,());let g:=(gx D8 y B.1);let h:=g.1.toNat;let n:=(List.getD B.2.1 h []);let e:Prop:=(B.1<(↑y.length:Int));let f:(C8)->Prop:=(λr=>(n.length+ [(p.1,r.1)].length)*(64:Nat)<=A/\n.length+ [(p.1,r.1)].length<=9223372036854775807);let c:Prop:=(m<=g.1/\g.1<(B.2.1.length:Int));let a:(C8)->Prop:=(λr=>let z:=(p.1,r.1);let q:=(List.getD B.2.1 h []++ [z]);let s:=(i64.wrap (B.1+o),List.set B.2.1 h q,());((n.length+ [z].length)*(64:Nat)<=A/\n.length+ [z].length<=9223372036854775807)/\c/\Int.toNat g.1=Int.toNat g.1/\I_1 s/\b s<b B);let d:Prop:=((J8 g.2/\N2 λr=>r.1=rc (rv g.2)->a r)/\J8 g.2/\N2 λr=>let t:=(List.getD B.2.1 h []++ [(p.1,r.1)]);let u:=(i64.wrap (B.1+o),List.set B.2.1 h t,());r.1=rc (rv g.2)->(a r)/\(a r)/\(f r)/\c/\Int.toNat g.1=Int.toNat g.1/\I_1 u/\b u<b B);(Ty.int i64).wf B.1/\Oa B.2.1/\True->I_1 B->(iB (decide e) ((m<=B.1/\e)/\c/\d/\d/\J8 g.2/\N2 λr=>let d:=(List.getD B.2.1 h []++ [(p.1,r.1)]);let l:=(i64.wrap (B.1+o),List.set B.2.1 h d,());r.1=rc (rv g.2)->((a r)/\(a r)/\a r)/\((a r)/\(a r)/\a r)/\((a r)/\a r)/\((a r)/\a r)/\(f r)/\(c/\Int.toNat g.1=Int.toNat g.1/\I_1 l/\b l<b B)/\c/\Int.toNat g.1=Int.toNat g.1/\I_1 l/\b l<b B) (I v/\k v<k p))) ((¬A4 x.1->w=zm/\m=o)/\(A4 x.1->Ep x.1.2.1.toNat x.1.1.toNat (fun(i j:Nat)=>el x.1 j i) w/\m=m)))))
def A1y:An:= {join:= [(4,⟨[0,1,4,5,6],[0],[],[(1,58,[.val .bool, .val qa, .val qa])],[]⟩)],loop:= [(3,⟨[0,1,4,5],[0],[(6,false,vI)],[(1,58,[.val .bool, .val qa, .val qa])],[]⟩)],plan:= [(6,[0,5],[7],true, .done)]}
def WS:An:= {join:= [(7,⟨[5,6,9,10,11],[],[(3,false,[.own qb 3])],[],[]⟩)],loop:= [(9,⟨[3,5,6,9,10,11],[1],[(7,false,vI)],[],[]⟩),(6,⟨[5,9,10,11],[],[(3,false,[.own qb 3]),(6,false,vI)],[],[]⟩),(3,⟨[9,10],[],[(3,false,[.own qb 3]),(11,false,vI)],[],[]⟩)],plan:= [(9,[8,13],[],true, .done),(11,[8,13],[],true, .done)]}
def mT:An:= {join:= [(8,⟨[0,9,10,11],[],[(3,false,[.own tE 105])],[],[]⟩)],loop:= [(3,⟨[0,9,10],[],[(3,false,[.own tE 105]),(11,false,vI)],[],[]⟩)]}
def OT:An:= {loop:= [(4,⟨[0,1],[],[(5,false,vI)],[],[]⟩)],plan:= [(6,[4,9,16,25,30],[],false, .done)]}
def iL:An:= {loop:= [(2,⟨[0,1],[],[(5,false,vI)],[],[]⟩)],plan:= [(4,[4,11,23,29,38],[],true, .done)]}
def OR:An:= {loop:= [(3,⟨[0],[],[(3,false,[.own tE 105]),(4,false,vI)],[],[]⟩)]}
def iK:An:= {loop:= [(5,⟨[0,1,6],[],[(7,false,vI)],[],[(0, .row tQ 58)]⟩)]}
def A1u:An:= {loop:= [(5,⟨[0,1,4,6],[0],[(7,false,vI)],[(1,58,[.val .bool, .val qa, .val qa])],[]⟩)],plan:= [(7,[0,4,8],[11],true, .done)]}
abbrev B0g:=Bool×Wf×Wf×Unit
abbrev B0h:=Int×Bool×Wf×Wf×Unit
def bV(x:Ym):Prop:=let b:=(x.1.length:Int);True/\N2 λr=>r.1=rc (0:Rat)->∃(I:B0h->Prop),∃(g: _->Nat),I ((0:Int),r.1.1.1,r.1.1.2,r.1.2,())/\∀(p:B0h),let e:Prop:=(0<=p.1/\p.1<b);let d:=(gx D8 x.1 p.1);let a:=((p.2.1,p.2.2.1),p.2.2.2.1);(Ty.int i64).wf p.1/\Ty.bool.wf p.2.1/\(Ty.int u32).sl.wf p.2.2.1/\(Ty.int u32).sl.wf p.2.2.2.1/\True->I p->(iB (decide (p.1<b)) (∃(J:B0g->Prop),(e/\(iB (decide (d.1=x.2.1)) (e/\(J8 a/\J8 d.2)/\N2 λr=>r.1=rc (rv a+rv d.2)->J (r.1.1.1,r.1.1.2,r.1.2,())) (J (p.2.1,p.2.2.1,p.2.2.2.1,()))))/\∀(f:B0g),let c:=(i64.wrap (p.1+1),f.1,f.2.1,f.2.2.1,());Ty.bool.wf f.1/\(Ty.int u32).sl.wf f.2.1/\(Ty.int u32).sl.wf f.2.2.1/\True->J f->I c/\g c<g p) (a=rc (A5 x.1 x.2.1)))
abbrev C4u:=List (List EE)×Unit
abbrev Qt:=Wf×Unit
def CH(x:C4u):Prop:=let s:=(140737488355328:Nat);let m:=(0:Int);let n:=m.toNat;∃(I:aN->Prop),∃(a: _->Nat),I ([],m,())/\∀(p:aN),let r:=(gx [] x.1 p.2.1);let f:Prop:=(p.2.1<(x.1.length:Int));(Ty.int i64).sl.wf p.1/\(Ty.int i64).wf p.2.1/\True->I p->(iB (decide f) ((m<=p.2.1/\f)/\∃(I_1:aN->Prop),∃(d: _->Nat),I_1 (p.1,m,())/\∀(w:aN),let q:=(w.1,i64.wrap (p.2.1+1),());let l:=(↑w.1.length:Int);let j:=(gx D8 r w.2.1);let h:Prop:=(w.2.1<(↑r.length:Int));let c:Prop:=(m<=w.2.1/\w.2.1<(↑r.length:Int));(Ty.int i64).sl.wf w.1/\(Ty.int i64).wf w.2.1/\True->I_1 w->(iB (decide h) (∃(J:Qt->Prop),(∃(I:D7->Prop),∃(a: _->Nat),I (m,())/\∀(y:D7),let t:=(i64.wrap (y.1+1),());let k:=y.1.toNat;let h:Prop:=(w.1.getD k m=j.1);let f:Prop:=(w.1.getD k m<j.1);let b:Prop:=(y.1<l);let u:=(decide b);let g:Prop:=(decide b=true->m<=y.1/\y.1<l);(Ty.int i64).wf y.1/\True->I y->g/\(decide b=true->c)/\(iB (L5 u (decide f) false) (I t/\a t<a y) (g/\(decide b=true->c)/\(iB (L5 u (decide h) false) (J (w.1,())) ((m<=m/\m<=y.1/\y.1<=l)/\(((0:Nat)+(List.drop n (List.take k w.1)).length)*(8:Nat)<=s/\(0:Nat)+(List.drop n (List.take k w.1)).length<=9223372036854775807)/\c/\(((List.drop n (List.take k w.1)).length+ [j.1].length)*(8:Nat)<=s/\(List.drop n (List.take k w.1)).length+ [j.1].length<=9223372036854775807)/\(m<=y.1/\y.1<=l/\l<=l)/\(((List.drop n (List.take k w.1)++ [j.1]).length+(List.drop k (List.take l.toNat w.1)).length)*(8:Nat)<=s/\(List.drop n (List.take k w.1)++ [j.1]).length+(List.drop k (List.take l.toNat w.1)).length<=9223372036854775807)/\J (List.drop n (List.take k w.1)++ [j.1]++List.drop k (List.take l.toNat w.1),()))))))/\∀(p:Qt),let o:=(p.1,i64.wrap (w.2.1+1),());(Ty.int i64).sl.wf p.1/\True->J p->I_1 o/\d o<d w) (I q/\a q<a p))) (List.Pairwise (fun(b c:Int)=>b<c) p.1/\∀(i:Int),i∈p.1↔∃(v:List EE),v∈x.1/\∃(e:EE),e∈v/\e.1=i))
def TC(x:Qs):Prop:=let d:=(0:Int);([x.1].length<=(4:Nat)/\∀(v:List EE),v∈ [x.1]->v.length<=(100000:Nat))/\∀(r:Qt),let b:=(r.1.length:Int);WA r.1/\True->(List.Pairwise (fun(a c:Int)=>a<c) r.1/\∀(i:Int),i∈r.1↔∃(v:List EE),v∈ [x.1]/\∃(e:EE),e∈v/\e.1=i)->∃(I:Ym->Prop),∃(j: _->Nat),I ([],d,())/\∀(p:Ym),tE.sl.wf p.1/\(Ty.int i64).wf p.2.1/\True->I p->(iB (decide (p.2.1<b)) (∃(J:Qs->Prop),((d<=p.2.1/\p.2.1<b)/\Kn x.1/\N2 λf=>let a:=(gx d r.1 p.2.1,f.1);f.1=rc (A5 x.1 (gx d r.1 p.2.1))->J8 f.1/\Et λh=>h.1=(rv f.1).num.sign->(iB (decide (h.1≠d)) (((p.1.length+ [a].length)*(64:Nat)<=(140737488355328:Nat)/\p.1.length+ [a].length<=9223372036854775807)/\J (p.1++ [a],())) (J (p.1,()))))/\∀(g:Qs),let c:=(g.1,i64.wrap (p.2.1+1),());tE.sl.wf g.1/\True->J g->I c/\j c<j p) (V2 p.1/\∀(i:Int),A5 p.1 i=A5 x.1 i))
def Tv(x:List EE×List EE×Unit):Prop:=let i:=(0:Int);let d:=(x.2.1.length:Int);let c:Prop:=(x.1=x.2.1/\∀(e:EE),e∈x.1->e.2=rc (rv e.2));let b:=(x.1.length:Int);(iB (decide (b≠d)) (false=decide c) (∃(I:D7->Prop),∃(l: _->Nat),I (i,())/\∀(p:D7),let j:=(gx D8 x.2.1 p.1);let h:=(i64.wrap (p.1+1),());let f:=(gx D8 x.1 p.1);let a:Prop:=(f.1≠j.1);let g:=(decide a);(Ty.int i64).wf p.1/\True->I p->(iB (decide (p.1<b)) ((i<=p.1/\p.1<b)/\(i<=p.1/\p.1<d)/\(decide a=false->i<=p.1/\p.1<b)/\(decide a=false->J8 f.2)/\∀(r:W4),(decide a=false->(True/\True)/\r.1=decide (f.2=rc (rv f.2)))->((L5 g true !r.1)=false->i<=p.1/\p.1<b)/\((L5 g true !r.1)=false->i<=p.1/\p.1<d)/\((L5 g true !r.1)=false->True)/\∀(k:W4),((L5 g true !r.1)=false->(True/\True)/\k.1=decide (f.2=j.2))->(iB ((L5 (L5 g true !r.1) true !k.1)) (false=decide c) (I h/\l h<l p))) (true=decide c))))
def OA(x:Ym):Prop:=let i:=(1:Int);let e:=(0:Int);let c:=(x.1.length:Int);∃(I:D7->Prop),∃(j: _->Nat),I (e,())/\∀(p:D7),let g:=(i64.wrap (p.1+i),());let d:=(gx D8 x.1 p.1);let h:=(decide (d.1<e));let f:=(decide (x.2.1<=d.1));let b:=(L5 h true f);let a:=(L5 (decide (e<p.1)) (decide (d.1<=(gx D8 x.1 (i64.wrap (p.1-i))).1)) false);(Ty.int i64).wf p.1/\True->I p->(iB (decide (p.1<c)) ((e<=p.1/\p.1<c)/\(decide (d.1<e)=false->e<=p.1/\p.1<c)/\(decide (e<p.1)=true/\L5 h true f=false->e<=p.1/\p.1<c)/\(decide (e<p.1)=true/\L5 h true f=false->e<=i64.wrap (p.1-i)/\i64.wrap (p.1-i)<c)/\(L5 b true a=false->e<=p.1/\p.1<c)/\(L5 b true a=false->J8 d.2)/\∀(r:D7),(L5 b true a=false->(O5 r.1/\True)/\r.1=(rv d.2).num.sign)->(iB (L5 (L5 b true a) true (decide (r.1=e))) (false=decide (E3 x.1 x.2.1)) (I g/\j g<j p))) (true=decide (E3 x.1 x.2.1)))
def Tu(x:C0u):Prop:=let c:=(x.1.length:Int);∃(I:Ym->Prop),∃(d: _->Nat),I ([],(0:Int),())/\∀(p:Ym),let a:=(p.2.1,gx dQ x.1 p.2.1);let b:=(p.1++ [a],i64.wrap (p.2.1+1),());tE.sl.wf p.1/\(Ty.int i64).wf p.2.1/\True->I p->(iB (decide (p.2.1<c)) ((0<=p.2.1/\p.2.1<c)/\((p.1.length+ [a].length)*(64:Nat)<=(140737488355328:Nat)/\p.1.length+ [a].length<=9223372036854775807)/\I b/\d b<d p) (Kn p.1/\UP λr=>KH (A5 p.1) r.1->V2 r.1/\(∀(e:D5),e∈r.1->0<=e.1/\e.1<(↑x.1.length:Int))/\∀(j:Nat),j<x.1.length->A5 r.1 (↑j:Int)=rv (x.1.getD j zr)))
def NY(x:Ym):Prop:=let d:=(0:Int);let b:=(decide (x.2.1<d));let a:=(decide (16384<x.2.1));(L5 b true a=false->Kn x.1)/\∀(r:Qs),(L5 b true a=false->(KN r.1/\True)/\KH (A5 x.1) r.1)->(L5 b true a=false->HC K1 r.1)/\∀(e:W4),(L5 b true a=false->(True/\True)/\e.1=decide (E3 r.1 x.2.1))->(iB ((L5 (L5 b true a) true !e.1)) (Er QQ=dl x.2.1 (A5 x.1)/\false=true) ((d<=x.2.1/\x.2.1<=x.2.1/\(↑(56:Nat):Int)*x.2.1<=281474976710656/\x.2.1<=9223372036854775807)/\∃(I:GE->Prop),∃(f: _->Nat),I (d,List.replicate x.2.1.toNat dQ,())/\∀(p:GE),(Ty.int i64).wf p.1/\WB p.2.1/\True->I p->(iB (decide (p.1<x.2.1)) (Kn x.1/\N2 λr=>let c:=(i64.wrap (p.1+1),List.set p.2.1 p.1.toNat r.1,());r.1=rc (A5 x.1 p.1)->(d<=p.1/\p.1<(p.2.1.length:Int))/\I c/\f c<f p) (p.2.1=dl x.2.1 (A5 x.1)/\true=true))))
def bN(x:List QQ×List QQ×Unit):Prop:=let d:=(x.2.1.length:Int);let a:=(x.1.length:Int);(iB (decide (a≠d)) (x.1.length=x.2.1.length->dQ=rc (B8 x.1.length fun(i:Nat)=>rv (x.1.getD i zr)*rv (x.2.1.getD i zr))/\false=true) (True/\N2 λr=>r.1=rc (0:Rat)->∃(I:B0h->Prop),∃(g: _->Nat),I ((0:Int),r.1.1.1,r.1.1.2,r.1.2,())/\∀(p:B0h),let e:=(gx dQ x.2.1 p.1);let b:=((p.2.1,p.2.2.1),p.2.2.2.1);(Ty.int i64).wf p.1/\Ty.bool.wf p.2.1/\(Ty.int u32).sl.wf p.2.2.1/\(Ty.int u32).sl.wf p.2.2.2.1/\True->I p->(iB (decide (p.1<a)) ((0<=p.1/\p.1<a)/\(0<=p.1/\p.1<d)/\(J8 (gx dQ x.1 p.1)/\J8 e)/\N2 λr=>r.1=rc (rv (gx dQ x.1 p.1)*rv e)->(J8 b/\J8 r.1)/\N2 λf=>let c:=(i64.wrap (p.1+1),f.1.1.1,f.1.1.2,f.1.2,());f.1=rc (rv b+rv r.1)->I c/\g c<g p) (x.1.length=x.2.1.length->b=rc (B8 x.1.length fun(i:Nat)=>rv (x.1.getD i zr)*rv (x.2.1.getD i zr))/\true=true))))
def FF:An:= {loop:= [(2,⟨[0],[],[(3,false,vI)],[],[]⟩)],plan:= [(4,[5,10],[],true, .done)]}
def UA:An:= {join:= [(13,⟨[2,7,9,10],[1],[(0,false,[.val qd]),(1,false,[.val qd]),(8,false,vI)],[(2,58,[.val .bool, .val qa, .val qa]),(3,58,[.val .bool, .val qa, .val qa])],[]⟩)],loop:= [(2,⟨[2],[],[(0,false,[.val qd]),(1,false,[.val qd]),(7,false,[.own tE 105])],[],[]⟩)],plan:= [(5,[11,15],[],true, .done),(6,[3,7],[9],true, .done),(11,[3,7],[9],true, .done)]}
def TZ:An:= {loop:= [(4,⟨[1,10,11],[],[(12,false,vI)],[],[]⟩)]}
def OX:An:= {}
def WT:An:= {}
def cM:An:= {join:= [(7,⟨[1,4,5,9,10,11],[0],[],[(1,58,[.val .bool, .val qa, .val qa])],[]⟩)],loop:= [(3,⟨[1,4,5,9,10],[0],[(11,false,vI)],[(1,58,[.val .bool, .val qa, .val qa])],[]⟩)]}
def FE:An:= {join:= [(7,⟨[6,7,8],[],[(3,false,[.own tE 105])],[],[]⟩)],loop:= [(3,⟨[6,7],[],[(3,false,[.own tE 105]),(8,false,vI)],[],[]⟩)]}
def TX:An:= {join:= [(14,⟨[7,41,42],[],[(6,false,[.val qd])],[],[(1, .row tQ 58)]⟩)],loop:= [(8,⟨[7,41],[],[(6,false,[.val qd]),(42,false,vI)],[],[(1, .row tQ 58)]⟩)]}
def Xx:An:= {plan:= [(3,[0,1,2],[5],true, .done)]}
def FD:An:= {}
def Rj:An:= {loop:= [(3,⟨[0,3,9,10],[],[(11,false,vI)],[],[(0, .row .bool 4)]⟩)]}
def Kz(x:Qs):Prop:=let d:=(1:Int);let a:=(x.1.length:Int);∃(I:D7->Prop),∃(b: _->Nat),I (d,())/\∀(p:D7),let c:=(i64.wrap (p.1+d),());let f:Prop:=((gx D8 x.1 p.1).1<=(gx D8 x.1 (i64.wrap (p.1-d))).1);(Ty.int i64).wf p.1/\True->I p->(iB (decide (p.1<a)) (((0:Int)<=i64.wrap (p.1-d)/\i64.wrap (p.1-d)<a)/\(0<=p.1/\p.1<a)/\(iB (decide f) (false=decide (asc x.1)) (I c/\b c<b p))) (true=decide (asc x.1)))
abbrev C7w:=List EE×List EE×Int×Bool×Wf×Wf×Bool×Wf×Wf×Unit
abbrev C7x:=List EE×List EE×List EE×Unit
def Xo:A3 Dv.args->Prop:=fun(x:List EE×List EE×((QQ×QQ×Unit->Prop)×(QQ×QQ×Unit->(Bool×Wf)×Wf))×Unit)=>let w:=(1:Int);let t:=(x.1.length:Int);let s:=w.toNat;let q:=(x.2.1.length:Int);let j:=(0:Int);(j<=j/\j<=Max.max t q/\(↑(64:Nat):Int)*Max.max t q<=(281474976710656:Int)/\Max.max t q<=(9223372036854775807:Int))/\∃(I:C7x->Prop),∃(a: _->Nat),I (x.1,x.2.1,List.replicate j.toNat D8,())/\∀(p:C7x),let n:=(gx D8 p.1 j);let m:=(gx D8 p.2.1 j);let l:=(p.1.length:Int);let k:=(p.2.1.length:Int);let g:Prop:=(m.1=n.1);let c:Prop:=(n.1<=m.1);let e:Prop:=(j<=j/\j<k);let d:Prop:=(k=j);let f:Prop:=(j<=w/\w<=k/\k<=k);let b:Prop:=(j<l);let y:=(L5 (decide b) (decide c) false);let c:Prop:=(j<k);let z:=(decide c);let h:Prop:=(j<=j/\c);tE.sl.wf p.1/\tE.sl.wf p.2.1/\tE.sl.wf p.2.2.1/\True->I p->(iB (L5 (decide b) true z) (∃(J:C7w->Prop),((decide b=true/\decide d=false->j<=j/\j<l)/\(decide b=true/\decide d=false->e)/\(iB (L5 (decide d) true y) ((j<=j/\b)/\(j<=j/\b)/\(j<=w/\w<=l/\l<=l)/\(decide c=true->e)/\(iB (L5 z (decide g) false) (h/\f/\J (List.drop s (List.take l.toNat p.1),List.drop s (List.take k.toNat p.2.1),n.1,n.2.1.1,n.2.1.2,n.2.2,m.2.1.1,m.2.1.2,m.2.2,())) (J (List.drop s (List.take l.toNat p.1),p.2.1,n.1,n.2.1.1,n.2.1.2,n.2.2,false,[],[],())))) (h/\h/\f/\J (p.1,List.drop s (List.take k.toNat p.2.1),m.1,false,[],[],m.2.1.1,m.2.1.2,m.2.2,()))))/\∀(A:C7w),let v:=(A.1,A.2.1,p.2.2.1,());let i:=(((A.2.2.2.1,A.2.2.2.2.1),A.2.2.2.2.2.1),((A.2.2.2.2.2.2.1,A.2.2.2.2.2.2.2.1),A.2.2.2.2.2.2.2.2.1),());let o:=(A.2.2.1,x.2.2.1.2 i);let u:=(A.1,A.2.1,p.2.2.1++ [o],());tE.sl.wf A.1/\tE.sl.wf A.2.1/\(Ty.int i64).wf A.2.2.1/\Ty.bool.wf A.2.2.2.1/\(Ty.int u32).sl.wf A.2.2.2.2.1/\(Ty.int u32).sl.wf A.2.2.2.2.2.1/\Ty.bool.wf A.2.2.2.2.2.2.1/\(Ty.int u32).sl.wf A.2.2.2.2.2.2.2.1/\(Ty.int u32).sl.wf A.2.2.2.2.2.2.2.2.1/\True->J A->Go.Proofs.Tryz.prog=Go.Proofs.Tryz.prog/\x.2.2.1.1 i/\(tQ.wf (x.2.2.1.2 i)->True/\Et λr=>r.1=(rv (x.2.2.1.2 i)).num.sign->(iB (decide (r.1≠j)) (((p.2.2.1.length+ [o].length)*(64:Nat)<=(140737488355328:Nat)/\p.2.2.1.length+ [o].length<=9223372036854775807)/\I u/\a u<a p) (I v/\a v<a p)))) (p.2.2.1=J1 x.2.2.1.2 x.1 x.2.1))
def Xn(x:Ym):Prop:=let f:=(0:Int);let d:=(x.1.length:Int);True/\Jp λr=>r.1=decide (asc x.1)->(iB ((!r.1)) (false=decide (E3 x.1 x.2.1)) (∃(I:D7->Prop),∃(g: _->Nat),I (f,())/\∀(p:D7),let e:=(i64.wrap (p.1+1),());let a:=(gx D8 x.1 p.1);let c:=(decide (a.1<f));let b:=(decide (x.2.1<=a.1));(Ty.int i64).wf p.1/\True->I p->(iB (decide (p.1<d)) ((f<=p.1/\p.1<d)/\(L5 c true b=false->True)/\∀(r:D7),(L5 c true b=false->(O5 r.1/\True)/\r.1=(rv a.2).num.sign)->(iB (L5 (L5 c true b) true (decide (r.1=f))) (false=decide (E3 x.1 x.2.1)) (I e/\g e<g p))) (true=decide (E3 x.1 x.2.1)))))
def Ub(x:R2):Prop:=J8 x.1/\N2 λr=>r.1=rc (rv x.1)->r.1=rc (rv x.1)
def CL(x:Qs):Prop:=WU x.1/\UP λr=>(asc x.1->r.1=x.1)/\(¬asc x.1->asc r.1/\(∀(j:Int),A5 r.1 j=A5 x.1 j)/\r.1.length<=(20:Nat)/\HC (16777216:Nat) r.1)->∃(c:R2->Prop),∃(b:R2->(Bool×Wf)×Wf),(∀(y:R2),tQ.wf y.1/\tQ.wf y.2.1/\True->c y->J8 y.1/\N2 λz=>z.1=rc (rv y.1)->true=true/\z.1=b y)/\(List.length r.1<=100000/\(0:Nat)<=(100000:Nat)/\∀(u v:C7),(u=zr\/∃(e:EE),e∈r.1/\e.2=u)->(v=zr\/∃(e:EE),e∈ []/\e.2=v)->(c,b).1 (u,v,()))/\UP λa=>a.1=J1 b r.1 []->V2 a.1/\∀(i:Int),A5 a.1 i=A5 x.1 i
def HN(x:Ym):Prop:=let c:=(x.1.length:Int);True/\N2 λr=>r.1=ri (0:Int)->∃(I:B0h->Prop),∃(f: _->Nat),I ((0:Int),r.1.1.1,r.1.1.2,r.1.2,())/\∀(p:B0h),let d:=(gx D8 x.1 p.1);let a:=((p.2.1,p.2.2.1),p.2.2.2.1);(Ty.int i64).wf p.1/\Ty.bool.wf p.2.1/\(Ty.int u32).sl.wf p.2.2.1/\(Ty.int u32).sl.wf p.2.2.2.1/\True->I p->(iB (decide (p.1<c)) (∃(J:B0g->Prop),((0<=p.1/\p.1<c)/\(iB (decide (d.1=x.2.1)) ((J8 a/\J8 d.2)/\N2 λr=>r.1=rc (rv a+rv d.2)->J (r.1.1.1,r.1.1.2,r.1.2,())) (J (p.2.1,p.2.2.1,p.2.2.2.1,()))))/\∀(e:B0g),let b:=(i64.wrap (p.1+1),e.1,e.2.1,e.2.2.1,());Ty.bool.wf e.1/\(Ty.int u32).sl.wf e.2.1/\(Ty.int u32).sl.wf e.2.2.1/\True->J e->I b/\f b<f p) (a=rc (A5 x.1 x.2.1)))
def Ky(x:C0u):Prop:=let f:=(0:Int);let a:=(x.1.length:Int);∃(I:Ym->Prop),∃(h: _->Nat),I ([],f,())/\∀(p:Ym),let c:=(gx dQ x.1 p.2.1);tE.sl.wf p.1/\(Ty.int i64).wf p.2.1/\True->I p->(iB (decide (p.2.1<a)) (∃(J:Qs->Prop),((f<=p.2.1/\p.2.1<a)/\True/\Et λr=>r.1=(rv c).num.sign->(iB (decide (r.1≠f)) (J8 c/\N2 λr=>let d:=(p.2.1,r.1);r.1=rc (rv c)->((p.1.length+ [d].length)*(64:Nat)<=(140737488355328:Nat)/\p.1.length+ [d].length<=9223372036854775807)/\J (p.1++ [d],())) (J (p.1,()))))/\∀(g:Qs),let b:=(g.1,i64.wrap (p.2.1+1),());tE.sl.wf g.1/\True->J g->I b/\h b<h p) (V2 p.1/\(∀(e:D5),e∈p.1->f<=e.1/\e.1<(↑x.1.length:Int))/\∀(j:Nat),j<x.1.length->A5 p.1 (↑j:Int)=rv (x.1.getD j zr)))
abbrev C7v:=List EE×Int×List QQ×Unit
def Xl(x:Ym):Prop:=let n:=(decide (16384<x.2.1));let m:=(1:Int);let i:=(0:Int);let q:=(decide (x.2.1<i));let g:Prop:=(Er QQ=dl x.2.1 (A5 x.1)/\false=true);(iB (L5 q true n) (g) (Kn x.1/\∀(r:Qs),let j:=(r.1.length:Int);let d:Prop:=(x.2.1<=(List.getD r.1 (i64.wrap (j-m)).toNat D8).1);let c:Prop:=((List.getD r.1 i.toNat D8).1<i);let o:=(L5 (decide c) true (decide d));let a:Prop:=(i<j);KN r.1/\True->KH (A5 x.1) r.1->(decide a=true->i<=i/\i<j)/\(decide c=false/\decide a=true->i<=i64.wrap (j-m)/\i64.wrap (j-m)<j)/\(iB (L5 (decide a) o false) (g) ((i<=x.2.1/\x.2.1<=x.2.1/\(↑(56:Nat):Int)*x.2.1<=281474976710656/\x.2.1<=9223372036854775807)/\∃(I:C7v->Prop),∃(d: _->Nat),I (r.1,i,List.replicate x.2.1.toNat dQ,())/\∀(p:C7v),let k:=(p.1.length:Int);let h:Prop:=((gx D8 p.1 i).1=p.2.1);let f:Prop:=(p.2.1<(↑(List.replicate x.2.1.toNat dQ).length:Int));let e:Prop:=(i<=p.2.1/\p.2.1<(p.2.2.1.length:Int));let b:Prop:=(i<k);tE.sl.wf p.1/\(Ty.int i64).wf p.2.1/\WB p.2.2.1/\True->I p->(iB (decide f) (∃(J:List EE×List QQ×Unit->Prop),((decide b=true->i<=i/\i<k)/\(iB (L5 (decide b) (decide h) false) ((i<=i/\b)/\e/\(i<=m/\m<=k/\k<=k)/\J (List.drop m.toNat (List.take k.toNat p.1),List.set p.2.2.1 p.2.1.toNat (gx D8 p.1 i).2,())) (True/\N2 λr=>r.1=ri i->e/\J (p.1,List.set p.2.2.1 p.2.1.toNat r.1,()))))/\∀(s:List EE×List QQ×Unit),let l:=(s.1,i64.wrap (p.2.1+m),s.2.1,());tE.sl.wf s.1/\WB s.2.1/\True->J s->I l/\d l<d p) (p.2.2.1=dl x.2.1 (A5 x.1)/\true=true))))))
def Ik(x:MZ):Prop:=let a:=(rv x.1+rv x.2.2.1*rv x.2.1);True/\Et λr=>r.1=(rv x.2.1).num.sign->(iB (decide (r.1=0)) (J8 x.1/\N2 λr=>r.1=rc (rv x.1)->r.1=rc a) ((J8 x.2.2.1/\J8 x.2.1)/\N2 λr=>r.1=rc (rv x.2.2.1*rv x.2.1)->(J8 x.1/\J8 r.1)/\N2 λb=>b.1=rc (rv x.1+rv r.1)->b.1=rc a))
def Kx(x:List EE×QQ×List EE×Unit):Prop:=WU x.1/\UP λr=>(asc x.1->r.1=x.1)/\(¬asc x.1->asc r.1/\(∀(j:Int),A5 r.1 j=A5 x.1 j)/\r.1.length<=(20:Nat)/\HC (16777216:Nat) r.1)->WU x.2.2.1/\UP λa=>(asc x.2.2.1->a.1=x.2.2.1)/\(¬asc x.2.2.1->asc a.1/\(∀(j:Int),A5 a.1 j=A5 x.2.2.1 j)/\a.1.length<=(20:Nat)/\HC (16777216:Nat) a.1)->∃(d:R2->Prop),∃(c:R2->(Bool×Wf)×Wf),(∀(y:R2),tQ.wf y.1/\tQ.wf y.2.1/\True->d y->(sz K1 y.1/\sz K1 y.2.1/\sz K1 x.2.1)/\N2 λz=>z.1=rc (rv y.1+rv x.2.1*rv y.2.1)->true=true/\z.1=c y)/\(List.length r.1<=100000/\List.length a.1<=100000/\∀(u v:C7),(u=zr\/∃(e:EE),e∈r.1/\e.2=u)->(v=zr\/∃(e:EE),e∈a.1/\e.2=v)->(d,c).1 (u,v,()))/\UP λb=>b.1=J1 c r.1 a.1->V2 b.1/\∀(i:Int),A5 b.1 i=A5 x.1 i+rv x.2.1*A5 x.2.2.1 i
abbrev B0k:=Int×List Bool×Unit
def Gi(x:Qt):Prop:=let i:=(↑x.1.length:Int);let b:=(0:Int);let a:=(x.1.length:Int);(b<=a/\a<=a/\(↑(1:Nat):Int)*a<=(281474976710656:Int)/\a<=(9223372036854775807:Int))/\∃(I:B0k->Prop),∃(d: _->Nat),I (b,List.replicate a.toNat false,())/\∀(p:B0k),let h:=(decide (gx b x.1 p.1<b));let g:=(decide (a<=gx b x.1 p.1));let f:=(p.2.1.length:Int);let e:=(List.getD p.2.1 (gx b x.1 p.1).toNat false);let j:=(L5 h true g);let c:=(i64.wrap (p.1+1),List.set p.2.1 (gx b x.1 p.1).toNat true,());(Ty.int i64).wf p.1/\(List.length p.2.1<=9223372036854775807/\∀(x:Bool),x∈p.2.1->True)/\True->I p->(iB (decide (p.1<a)) ((b<=p.1/\p.1<a)/\(L5 h true g=false->b<=gx b x.1 p.1/\gx b x.1 p.1<f)/\(iB (L5 j true e) (false=decide (K7 x.1 i)) ((b<=gx b x.1 p.1/\gx b x.1 p.1<f)/\I c/\d c<d p))) (true=decide (K7 x.1 i)))
def TQ:An:= {plan:= [(13,[0,4],[10],true, .done),(14,[0],[5],true, .done)]}
def TV:An:= {}
def TT:An:= {}
def TU:An:= {}
def EY:An:= {plan:= [(1,[0,2],[],true, .done),(10,[0,4],[],true, .done)]}
def TS:An:= {}
def TR:An:= {}
def W8 (P:(Bool×Wf)×Unit->Prop):Prop:=∀r:(Bool×Wf)×Unit,lV r.1/\True->P r
def R4 (P:Wf×Unit->Prop):Prop:=∀r:Wf×Unit,Hu r.1/\True->P r
abbrev lI:=(Bool×Wf)×Wf×Unit
abbrev Yl:=(Bool×Wf)×Unit
def Xf(x:R2):Prop:=let h:=(0:Nat);let g:=(0:Int);let e:=(rv x.1+rv x.2.1);True/\Et λr=>r.1=(rv x.1).num.sign->(iB (decide (r.1=g)) (J8 x.2.1/\N2 λr=>r.1=rc (rv x.2.1)->r.1=rc e) (True/\Et λr=>r.1=(rv x.2.1).num.sign->(iB (decide (r.1=g)) (J8 x.1/\N2 λr=>r.1=rc (rv x.1)->r.1=rc e) (True/\∀(r:A0s),O5 r.1/\O5 r.2.1/\True/\True->(L3 x.1->r.1=Ry x.1/\r.2.1=Ob x.1/\r.2.2.1=true)/\(¬L3 x.1->r.2.2.1=false)->True/\∀(m:A0s),O5 m.1/\O5 m.2.1/\True/\True->(L3 x.2.1->m.1=Ry x.2.1/\m.2.1=Ob x.2.1/\m.2.2.1=true)/\(¬L3 x.2.1->m.2.2.1=false)->(iB (L5 r.2.2.1 m.2.2.1 false) (g<i64.wrap (r.2.1*m.2.1)/\N2 λj=>j.1=rc (mkRat (i64.wrap (i64.wrap (r.1*m.2.1)+i64.wrap (m.1*r.2.1))) (i64.wrap (r.2.1*m.2.1)).toNat)->j.1=rc e) (True/\∀(r:lI),lV r.1/\Hu r.2.1/\True->(nv x.1.2=h->r.1=zi/\r.2.1= [(1:Int)])/\(nv x.1.2≠h->r.1=x.1.1/\r.2.1=x.1.2)->True/\∀(j:lI),let i:=(iv r.1*iv (false,j.2.1));let f:=(iv j.1*iv (false,r.2.1));let d:Prop:=(N8 r.1.2/\N8 j.2.1);let c:Prop:=(N8 j.1.2/\N8 r.2.1);let a:(Yl)->(Yl)->(Yl)->Prop:=(λl k n=>lV n.1/\True->n.1=ic (iv l.1+iv k.1)->(N8 r.2.1/\N8 j.2.1)/\R4 λo=>o.1=nc (nv r.2.1*nv j.2.1)->(nv o.1≠h/\Gf n.1.2/\Gf o.1)/\N2 λr=>r.1=rc (mkRat (iv n.1) (nv o.1))->r.1=rc e);let b:(Yl)->(Yl)->Prop:=(λl k=>(N8 l.1.2/\N8 k.1.2)/\∀(n:Yl),a l k n);lV j.1/\Hu j.2.1/\True->(nv x.2.1.2=h->j.1=zi/\j.2.1= [(1:Int)])/\(nv x.2.1.2≠h->j.1=x.2.1.1/\j.2.1=x.2.1.2)->True/\Et λp=>p.1=Dg (nv r.2.1) (nv j.2.1)->(iB (decide (p.1=g)) ((N8 r.1.2/\N8 j.1.2)/\W8 λl=>l.1=ic (iv r.1+iv j.1)->(nv r.2.1≠h/\Gf l.1.2/\Gf r.2.1)/\N2 λk=>k.1=rc (mkRat (iv l.1) (nv r.2.1))->k.1=rc e) ((d/\W8 λl=>l.1=ic i->(c/\W8 λk=>k.1=ic f->(b l k)/\(N8 l.1.2/\N8 k.1.2)/\∀(n:Yl),a l k n)/\c/\W8 λk=>k.1=ic f->b l k)/\d/\W8 λl=>l.1=ic i->c/\W8 λk=>k.1=ic f->b l k))))))))
def Xk(x:R2):Prop:=let a:=((!x.2.1.1.1,x.2.1.1.2),x.2.1.2);(J8 x.1/\J8 a)/\N2 λr=>r.1=rc (rv x.1+rv a)->r.1=rc (rv x.1-rv x.2.1)
def Xi(x:R2):Prop:=let b:=(rv x.1*rv x.2.1);let a:=(0:Nat);True/\∀(r:A0s),O5 r.1/\O5 r.2.1/\True/\True->(L3 x.1->r.1=Ry x.1/\r.2.1=Ob x.1/\r.2.2.1=true)/\(¬L3 x.1->r.2.2.1=false)->True/\∀(d:A0s),O5 d.1/\O5 d.2.1/\True/\True->(L3 x.2.1->d.1=Ry x.2.1/\d.2.1=Ob x.2.1/\d.2.2.1=true)/\(¬L3 x.2.1->d.2.2.1=false)->(iB (L5 r.2.2.1 d.2.2.1 false) ((0:Int)<i64.wrap (r.2.1*d.2.1)/\N2 λc=>c.1=rc (mkRat (i64.wrap (r.1*d.1)) (i64.wrap (r.2.1*d.2.1)).toNat)->c.1=rc b) (True/\∀(r:lI),lV r.1/\Hu r.2.1/\True->(nv x.1.2=a->r.1=zi/\r.2.1= [(1:Int)])/\(nv x.1.2≠a->r.1=x.1.1/\r.2.1=x.1.2)->True/\∀(c:lI),lV c.1/\Hu c.2.1/\True->(nv x.2.1.2=a->c.1=zi/\c.2.1= [(1:Int)])/\(nv x.2.1.2≠a->c.1=x.2.1.1/\c.2.1=x.2.1.2)->(N8 r.1.2/\N8 c.1.2)/\W8 λf=>f.1=ic (iv r.1*iv c.1)->(N8 r.2.1/\N8 c.2.1)/\R4 λe=>e.1=nc (nv r.2.1*nv c.2.1)->(nv e.1≠a/\Gf f.1.2/\Gf e.1)/\N2 λr=>r.1=rc (mkRat (iv f.1) (nv e.1))->r.1=rc b))
def Xj(x:C8):Prop:=J8 x.1/\N2 λr=>r.1=rc (rv x.1)->Ht r.1.1.2/\W8 λa=>a.1=ic (-iv r.1.1)->(a.1,r.1.2)=rc (-rv x.1)
def Kt(x:R2):Prop:=let c:=(0:Nat);let b:=(rv x.1);let a:=(rv x.2.1);True/\Et λr=>r.1=b.num.sign->True/\Et λf=>f.1=a.num.sign->(iB (decide (r.1≠f.1)) (True/\Et λe=>e.1=N3 r.1 f.1->e.1=XA b a) (True/\∀(r:A0s),O5 r.1/\O5 r.2.1/\True/\True->(L3 x.1->r.1=Ry x.1/\r.2.1=Ob x.1/\r.2.2.1=true)/\(¬L3 x.1->r.2.2.1=false)->True/\∀(e:A0s),O5 e.1/\O5 e.2.1/\True/\True->(L3 x.2.1->e.1=Ry x.2.1/\e.2.1=Ob x.2.1/\e.2.2.1=true)/\(¬L3 x.2.1->e.2.2.1=false)->(iB (L5 r.2.2.1 e.2.2.1 false) (True/\Et λd=>d.1=N3 (i64.wrap (r.1*e.2.1)) (i64.wrap (e.1*r.2.1))->d.1=XA b a) (True/\∀(r:lI),lV r.1/\Hu r.2.1/\True->(nv x.1.2=c->r.1=zi/\r.2.1= [(1:Int)])/\(nv x.1.2≠c->r.1=x.1.1/\r.2.1=x.1.2)->True/\∀(d:lI),lV d.1/\Hu d.2.1/\True->(nv x.2.1.2=c->d.1=zi/\d.2.1= [(1:Int)])/\(nv x.2.1.2≠c->d.1=x.2.1.1/\d.2.1=x.2.1.2)->(N8 r.1.2/\N8 d.2.1)/\W8 λg=>g.1=ic (iv r.1*iv (false,d.2.1))->(N8 d.1.2/\N8 r.2.1)/\W8 λh=>h.1=ic (iv d.1*iv (false,r.2.1))->True/\Et λr=>r.1=N3 (iv g.1) (iv h.1)->r.1=XA b a))))
def Xh(x:C8):Prop:=let a:=(rv x.1);True/\Et λr=>r.1=a.num.sign->(iB (decide (r.1=0)) ((rv x.1=(0:Rat)->false=false)/\(rv x.1≠(0:Rat)->dQ=rc a⁻¹/\false=true)) (J8 x.1/\N2 λr=>r.1=rc a->(rv x.1=(0:Rat)->true=false)/\(rv x.1≠(0:Rat)->((r.1.1.1,r.1.2),r.1.1.2)=rc a⁻¹/\true=true)))
def Xg(x:R2):Prop:=let b:=(rv x.1/rv x.2.1);let a:=((x.2.1.1.1,x.2.1.2),x.2.1.1.2);True/\Et λr=>r.1=(rv x.2.1).num.sign->(iB (decide (r.1=0)) ((rv x.2.1=(0:Rat)->false=false)/\(rv x.2.1≠(0:Rat)->dQ=rc b/\false=true)) ((J8 x.1/\J8 a)/\N2 λr=>r.1=rc (rv x.1*rv a)->(rv x.2.1=(0:Rat)->true=false)/\(rv x.2.1≠(0:Rat)->r.1=rc b/\true=true)))
def EZ:An:= {}
def LA:An:= {plan:= [(3,[1],[4],false, .done)]}
def OW:An:= {}
def LB:An:= {}
def Ze:An:= {join:= [(4,⟨[0,1,4],[0],[(5,false,vU)],[],[]⟩)],loop:= [(5,⟨[0,1,4,5],[0],[(6,false,vU),(7,false,vU)],[],[]⟩)],plan:= [(6,[],[],true, .done),(7,[],[13],true, .done)]}
def HX:An:= {join:= [(8,⟨[2,4],[1],[(1,false,[.val qa])],[(0,56,[.val .bool, .val qa])],[]⟩)]}
def OV:An:= {}
def Ku(x:D7):Prop:=True/\W8 λr=>r.1=ic x.1->(r.1,[(1:Int)])=ri x.1
def Ps(x:C8):Prop:=let d:=(1:Int);let c:=(0:Nat);let b:Prop:=(nv x.1.2=c->x.1.1=zi/\x.1.2= [d]);let a:Prop:=(nv x.1.2≠c->x.1.1=x.1.1/\x.1.2=x.1.2);True/\Et λr=>r.1=Dg (nv x.1.2) (nv [])->(iB (decide (r.1=0)) ((nv x.1.2=c->(false,[])=zi/\ [d]= [d])/\(nv x.1.2≠c->(false,[])=x.1.1/\ [d]=x.1.2)) ((b/\a)/\b/\a))
def Tz(x:C8):Prop:=True/\∀(r:lI),lV r.1/\Hu r.2.1/\True->(nv x.1.2=0->r.1=zi/\r.2.1= [(1:Int)])/\(nv x.1.2≠0->r.1=x.1.1/\r.2.1=x.1.2)->True/\Et λa=>a.1=(iv r.1).sign->a.1=(rv x.1).num.sign
def Pt(x:C8):Prop:=let e:=(0:Int);let c:Prop:=(¬L3 x.1->true=false);let b:=(18446744073709551616:Nat);True/\∀(r:B0i),KL r.1/\True/\True->(nv x.1.1.2<b->r.1=(↑(nv x.1.1.2):Int)/\r.2.1=true)/\(b<=nv x.1.1.2->r.2.1=false)->True/\∀(f:B0i),let d:=(decide (2147483648<=f.1));let a:=(L5 (L5 (!r.2.1) true !f.2.1) true (decide (2147483648<=r.1)));KL f.1/\True/\True->(nv x.1.2<b->f.1=(↑(nv x.1.2):Int)/\f.2.1=true)/\(b<=nv x.1.2->f.2.1=false)->(iB (L5 a true d) ((L3 x.1->e=Ry x.1/\e=Ob x.1/\false=true)/\(¬L3 x.1->false=false)) ((iB (decide (f.1=e)) ((L3 x.1->e=Ry x.1/\(1:Int)=Ob x.1/\true=true)/\c) ((iB x.1.1.1 ((L3 x.1->i64.wrap (-i64.wrap r.1)=Ry x.1/\i64.wrap f.1=Ob x.1/\true=true)/\c) ((L3 x.1->i64.wrap r.1=Ry x.1/\i64.wrap f.1=Ob x.1/\true=true)/\c))))))
def Kd(x:Ch):Prop:=let a:=(0:Int);∃(J:D7->Prop),((iB (decide (x.1<a)) (J (u64.wrap (-u64.wrap x.1),())) (J (u64.wrap x.1,()))))/\∀(p:D7),(Ty.int u64).wf p.1/\True->J p->∃(I:Ch->Prop),∃(d: _->Nat),I (u64.wrap x.2.1,p)/\∀(c:Ch),let b:=(c.2.1,Int.tmod c.1 c.2.1,());(Ty.int u64).wf c.1/\(Ty.int u64).wf c.2.1/\True->I c->(iB (decide (c.2.1≠a)) (c.2.1≠a/\I b/\d b<d c) (c.1≠a/\c.1≠a/\True/\R4 λr=>r.1=nc (u64.wrap (Int.tdiv p.1 c.1)).toNat->True/\R4 λd=>d.1=nc (u64.wrap ((u64.wrap x.2.1).tdiv c.1)).toNat->((decide (x.1<a),r.1),d.1)=rc (mkRat x.1 x.2.1.toNat)))
abbrev C8a:=Wf×Bool×Wf×Unit
abbrev B6m:=Wf×Wf×Bool×Unit
def Nu(x:lI):Prop:=let g:=(0:Nat);let f:=(nv x.2.1);let c:=(1:Int);let b:=(0:Int);Ht x.1.2/\W8 λr=>let d:=(r.1.2.length:Int);r.1=ic (iv x.1)->Ht x.2.1/\R4 λk=>k.1=nc f->(iB (decide (d=b)) (((false,[]),[c])=rc (mkRat (iv x.1) f)) ((Gf r.1.2/\Gf k.1)/\R4 λh=>let e:=(decide (gx b h.1 b≠c));let a:=(h.1.length:Int);h.1=nc ((nv r.1.2).gcd (nv k.1))->∃(J:C8a->Prop),((decide (a≠c)=false->b<=b/\b<a)/\(iB (L5 (decide (a≠c)) true e) (N8 r.1.2/\∀(i:B6m),Hu i.1/\Hu i.2.1/\True/\True->(nv h.1=g->i.1= []/\i.2.1= []/\i.2.2.1=false)/\(nv h.1≠g->i.1=nc (nv r.1.2/nv h.1)/\i.2.1=nc (nv r.1.2%nv h.1)/\i.2.2.1=true)->N8 k.1/\∀(j:B6m),Hu j.1/\Hu j.2.1/\True/\True->(nv h.1=g->j.1= []/\j.2.1= []/\j.2.2.1=false)/\(nv h.1≠g->j.1=nc (nv k.1/nv h.1)/\j.2.1=nc (nv k.1%nv h.1)/\j.2.2.1=true)->J (j.1,r.1.1,i.1,())) (J (k.1,r.1.1,r.1.2,()))))/\∀(p:C8a),(Ty.int u32).sl.wf p.1/\Ty.bool.wf p.2.1/\(Ty.int u32).sl.wf p.2.2.1/\True->J p->((p.2.1,p.2.2.1),p.1)=rc (mkRat (iv x.1) f)))
def Tx(x:C8):Prop:=True/\∀(r:A0s),O5 r.1/\O5 r.2.1/\True/\True->(L3 x.1->r.1=Ry x.1/\r.2.1=Ob x.1/\r.2.2.1=true)/\(¬L3 x.1->r.2.2.1=false)->(iB r.2.2.1 (0<r.2.1/\N2 λa=>a.1=rc (mkRat r.1 r.2.1.toNat)->a.1=rc (rv x.1)) (True/\∀(r:lI),lV r.1/\Hu r.2.1/\True->(nv x.1.2=0->r.1=zi/\r.2.1= [(1:Int)])/\(nv x.1.2≠0->r.1=x.1.1/\r.2.1=x.1.2)->(nv r.2.1≠0/\Gf r.1.2/\Gf r.2.1)/\N2 λa=>a.1=rc (mkRat (iv r.1) (nv r.2.1))->a.1=rc (rv x.1)))
def Wj:su N6 Ku:=λx b _=>by
 obtain⟨v,_⟩:=x;simp only[Ku,W8];refine⟨trivial,?_⟩;rintro⟨r,_⟩ _ a;simp only at a|-;rw[a];rfl
def CJ:su Av Ps:=λx d _=>by
 obtain⟨⟨c,(l:Wf)⟩,_⟩:=x;simp only[Ps,iB,Et];refine⟨trivial,?_⟩;rintro⟨r,_⟩ _ b;simp only at b|-;rw[kI]at b;refine⟨λh=>?_,λh=>?_⟩
 . have a:nv l=0:=YS.1 (b▸qA h);exact⟨λ_=>⟨rfl,by trivial⟩,λh=>absurd a h⟩
 have a:nv l≠0:=λe=>(qB h) (by rw[b,e];rfl)
 exact⟨⟨λh=>absurd h a,λ_=>⟨by trivial,by trivial⟩⟩,λh=>absurd h a,λ_=>⟨by trivial,by trivial⟩⟩
def GP:su W9 Tz:=λx g _=>by
 obtain⟨⟨d,(l:Wf)⟩,_⟩:=x;simp only[Tz,Et];refine⟨trivial,?_⟩;rintro⟨r,f,_⟩ _ ⟨a,b⟩;refine⟨trivial,?_⟩;rintro⟨s,_⟩ _ c;simp only at a b c|-;rw[c, <-B9s];unfold C4f;split
 . rename_i h;rw[(a h).1];rfl
 rename_i h;rw[(b h).1]
def CK:su Aw Pt:=λx O _=>by
 obtain⟨⟨⟨(g:Bool),(a:Wf)⟩,(l:Wf)⟩,_⟩:=x;simp only[Pt,iB];refine⟨trivial,?_⟩;rintro⟨u,f,_⟩ _ ⟨k,y⟩;refine⟨trivial,?_⟩;rintro⟨v,d,_⟩ _ ⟨n,z⟩;change Int at u v;change Bool at f d;simp only at k y n z|-;have r:L5 (L5 (L5 (!f) true !d) true (decide (2147483648<=u))) true (decide (2147483648<=v))=(!f|| !d||decide (2147483648<=u) ||decide (2147483648<=v)):=by simp only[H3]
 rw[r];have G:(!f|| !d||decide (2147483648<=u) ||decide (2147483648<=v))=false->L3 ((g,a),l)/\u=(nv a:Int)/\v=(nv l:Int):=λh=>by
  simp only[rE,zO,rM]at h;obtain⟨⟨⟨t,w⟩,M⟩,N⟩:=h;have D:nv a<18446744073709551616:=by
   rcases sH (nv a) 18446744073709551616 with h|h
   . exact h
   rw[y h]at t;cases t
  have E:nv l<18446744073709551616:=by
   rcases sH (nv l) 18446744073709551616 with h|h
   . exact h
   rw[z h]at w;cases w
  have I:=(k D).1;have J:=(n E).1;exact⟨⟨by show nv a< _;omega,by show nv l< _;omega⟩,I,J⟩
 have H:L3 ((g,a),l)->(!f|| !d||decide (2147483648<=u) ||decide (2147483648<=v))=false:=λh=>by
  obtain⟨(i:nv a< _),(j:nv l< _)⟩:=h;obtain⟨D,t⟩:=k ω;obtain⟨E,w⟩:=n ω;simp only[rE,zO,rM];exact⟨⟨⟨t,w⟩,ω⟩,ω⟩
 refine⟨λh=>⟨λr=>?_,λ_=>trivial⟩,λh=>?_⟩
 . rw[H r]at h;cases h
 obtain⟨A,F,B⟩:=G h;have s:=A;obtain⟨(i:nv a< _),(j:nv l< _)⟩:=A;refine⟨λc=>?_,λc=>⟨λo=>?_,λo=>?_⟩⟩
 . have c:=qA c;have b:nv l=0:=ω
   exact⟨λ_=>⟨by unfold Ry;rw[qR b],by unfold Ob;rw[qR b],trivial⟩,λh=>absurd s h⟩
 . have c:=qB c;have b:nv l≠0:=ω
   refine⟨λ_=>⟨?_,?_,trivial⟩,λh=>absurd s h⟩
   . unfold Ry;rw[qL b,wv (a:=u) ω,wv ω];unfold iv;simp only[o,wG];omega
   unfold Ob;rw[qL b,wv ω];exact B
 have c:=qB c;have b:nv l≠0:=ω
 refine⟨λ_=>⟨?_,?_,trivial⟩,λh=>absurd s h⟩
 . unfold Ry;rw[qL b,wv (a:=u) ω];unfold iv;simp only[o];simpa using F
 unfold Ob;rw[qL b,wv ω];exact B
def Ua:su T8 Kd:=λx A F=>by
 obtain⟨(n:Int),(d:Int),_⟩:=x;have I:0<d:=F;have c:=(show i64.min<=n/\n<=i64.max from A.1);have r:=(show i64.min<=d/\d<=i64.max from A.2.1);rw[Uv,DR]at c r;obtain⟨P,Q⟩:=c;have J:=r.2;have O:i64.min= -9223372036854775808:=Uv;simp only[Kd,iB,R4];refine⟨λp=>p.1=(n.natAbs:Int),⟨λh=>?_,λh=>?_⟩,?_⟩
 . have h:=qA h;show u64.wrap (-u64.wrap n)= _;rw[Cy,Cy];omega
 . have h:=qB h;show u64.wrap n= _;rw[Cy];omega
 rintro⟨T,_⟩ _ z;simp only at z|-;subst z;have o:u64.wrap d=d:=Y5 ω ω;refine⟨λp=>0<=p.1/\0<=p.2.1/\(p.1≠0\/p.2.1≠0)/\p.1.toNat.gcd p.2.1.toNat=d.toNat.gcd n.natAbs,λp=>p.2.1.toNat,?_,?_⟩
 . refine⟨ω,by show(0:Int)<=(n.natAbs:Int);omega, .inl ω,?_⟩;rw[o];rfl
 rintro⟨(g:Int),(t:Int),_⟩ _ ⟨j,a,D,k⟩;simp only at j a D k|-;refine⟨λh=>?_,λh=>?_⟩
 . have h:=qA h;have e:Int.tmod g t=g%t:=uN j;have i:=g2o g h;have M:=zP g (b:=t) ω;rw[e];refine⟨h,⟨a,i, .inl h,?_⟩,ω⟩;rw[<-k,Int.toNat_emod j a,xD t.toNat, <-g3l,xD]
 have h:t=0:=by simpa using h
 subst h;have u:g≠0:=ω
 refine⟨u,u,trivial,?_⟩;rintro⟨R,_⟩ _ y;refine⟨trivial,?_⟩;rintro⟨q,_⟩ _ w;simp only at y w|-;have hG:g.toNat=d.toNat.gcd n.natAbs:=by rw[<-k];simp
 have N:0<g:=ω
 have v:g=((d.toNat.gcd n.natAbs:Nat):Int):=ω
 obtain⟨c,E⟩:=Ot (x:=n) (d:=d.toNat) ω;have B:(u64.wrap (Int.tdiv (n.natAbs:Int) g)).toNat=n.natAbs/d.toNat.gcd n.natAbs:=by
  rw[IntWalk.u64_quo _ _ ⟨ω,ω,ω⟩,v, <-g4r,qQ]
 have i:(u64.wrap (Int.tdiv d g)).toNat=d.toNat/d.toNat.gcd n.natAbs:=by
  rw[IntWalk.u64_quo _ _ ⟨ω,ω,ω⟩,v]
  conv=>lhs;rw[(ω:d=((d.toNat:Nat):Int))]
  rw[<-g4r,qQ];simp only[qQ]
 rw[y,w,o,B,i];unfold rc;rw[c,E];unfold ic;have s:((d.toNat.gcd n.natAbs:Nat):Int)∣n:=yA.2 (yO ..);have l:0<d.toNat.gcd n.natAbs:=ω
 generalize d.toNat.gcd n.natAbs=G at s l;obtain⟨f,rfl⟩:=s;rw[xW _ ω];have H:(G:Int)*f<0↔f<0:=by
  constructor
  . intro h;rcases g4i f 0 with a|a
    . exact a
    have:=tO (xR (sY.2 l)) a;omega
  intro h;exact yZ ω h
 rw[vJ,vB,xY _ l];simp only[H]
def Vf (x:C7):mkRat (Ry x) (Ob x).toNat=rv x:=by
 unfold Ry Ob rv;split
 . rename_i h;rw[h,yS];rfl
 rename_i h;rw[qQ]
def B4v (x:C7):0<Ob x:=by
 unfold Ob;split
 . decide
 omega
def Yv:su Y3 Nu:=λx w H=>by
 obtain⟨⟨b,l⟩,k,_⟩:=x;have G:A9 l:=A6 w.1.2.2;have F:A9 k:=A6 w.2.1.2;change Bool at b;change Wf at l k;obtain⟨j,V,U⟩:nv k≠0/\l.length<=8796093022208/\k.length<=8796093022208:=H;simp only[Nu,iB,R4,W8];have N:=D6 G;have M:=D6 F;refine⟨by show l.length<=35184372088832;omega,?_⟩;rintro⟨⟨y,r⟩,_⟩ _ f;refine⟨by show k.length<=35184372088832;omega,?_⟩;rintro⟨d,_⟩ _ c;simp only at f c|-;have I:y=decide (iv (b,l)<0):=sA (·.1) f;have v:r=nc (iv (b,l)).natAbs:=sA (·.2) f;have A:(iv (b,l)).natAbs=nv l:=K8 _;have i:nv r=(iv (b,l)).natAbs:=by rw[v,F6]
 have o:nv d=nv k:=by rw[c,F6]
 have T:r.length<=l.length:=by rw[v,A];exact N
 have Q:d.length<=k.length:=by rw[c];exact M
 refine⟨λh=>?_,λh=>?_⟩
 . have h:=qA h;have B:r= []:=qN ω;rw[B,kI]at i;have:iv (b,l)=0:=Int.natAbs_eq_zero.1 i.symm;rw[this,Rat.zero_mkRat,A6y]
 have h:=qB h;refine⟨⟨ω,ω⟩,?_⟩;rintro⟨g,_⟩ _ n;simp only at n|-;rw[i,o]at n;have R:Nat.gcd (iv (b,l)).natAbs (nv k)≠0:=Nat.ne_of_gt (g1r _ (tF j));have s:nv g=Nat.gcd (iv (b,l)).natAbs (nv k):=by rw[n,F6]
 refine⟨λp=>((p.2.1,p.2.2.1),p.1)=rc (mkRat (iv (b,l)) (nv k)),⟨λa=>?_,λa=>?_,λa=>?_⟩,?_⟩
 . have a:=qB a;exact⟨qG _,ω⟩
 . refine⟨by show r.length<= _;omega,?_⟩;rintro⟨q,m,X,_⟩ _ t;refine⟨by show d.length<= _;omega,?_⟩;rintro⟨Z,W,Y,_⟩ _ u;simp only at t u|-;rw[kW j,(t.2 ω).1,(u.2 ω).1,i,o,s,I]
 . have a:g.length=1/\gx 0 g 0=1:=by
    rw[H3]at a;simp only[rE,rM]at a;omega
   obtain⟨z,rfl⟩:∃z,g= [z]:=g2i.1 a.1;have J:z=1:=a.2;subst J;have D:Nat.gcd (iv (b,l)).natAbs (nv k)=1:=by rw[<-s];rfl
   rw[B9o j D];show((y,r),d)= _;rw[c, <-f]
 rintro⟨O,a0,P,_⟩ _ E;exact E
def GO:su P8 Tx:=λx v n=>by
 obtain⟨(q:C7),_⟩:=x;obtain⟨i,j⟩:q.1.2.length<=2199023255552/\q.2.length<=2199023255552:=n;simp only[Tx,iB,N2];refine⟨trivial,?_⟩;rintro⟨(s:Int),(f:Int),z,_⟩ _ ⟨c,d⟩;simp only at c d|-;refine⟨λh=>?_,λh=>⟨trivial,?_⟩⟩
 . have o:L3 q:=rB λhn=>by rw[d hn]at h;cases h
   obtain⟨rfl,rfl,_⟩:=c o;refine⟨B4v q,?_⟩;rintro⟨u,_⟩ _ a;simp only at a|-;rw[a,Vf]
 rintro⟨t,g,_⟩ _ b;simp only at b|-;obtain⟨l,r⟩:=Mn b;obtain⟨w,y⟩:=Ir (k:=2199023255552) b i j δ;refine⟨⟨l,by show t.2.length<= _;omega,by show g.length<= _;omega⟩,?_⟩;rintro⟨u,_⟩ _ a;simp only at a|-;rw[a,r]
def AV {q:Rat} (h:q.num.sign=0):q=0:=g0t.1 (zA.1 h)
def Lr {x:C7} (h:L3 x): -2147483647<=Ry x/\Ry x<=2147483647/\0<Ob x/\Ob x<=2147483647:=by
 obtain⟨a,b⟩:=h;have:=K8 x.1;unfold Ry Ob;split
 . omega
 omega
def Rw {a b M N:Int} (f: -M<=a) (d:a<=M) (c:0<=b) (g:b<=N): -(M*N)<=a*b/\a*b<=M*N:=by
 have h:0<=M:=ω
 have i:M*b<=M*N:=uB g h;have g:a*b<=M*b:=sL d c;have d: -M*b<=a*b:=sL f c;rw[Int.neg_mul]at d;omega
def A9w {a b c d:Int} (h: -2147483647<=a/\a<=2147483647) (i: -2147483647<=b/\b<=2147483647) (g:0<c/\c<=2147483647) (f:0<d/\d<=2147483647):
 i64.wrap (c*d)=c*d/\0<c*d/\i64.wrap (i64.wrap (a*d)+i64.wrap (b*c))=a*d+b*c:=by
 have k:=Rw h.1 h.2 (xR f.1) f.2;have l:=Rw i.1 i.2 (xR g.1) g.2;have n:=Rw (a:=c) (b:=d) (M:=2147483647) ω g.2 (xR f.1) f.2;have j:0<c*d:=Int.mul_pos g.1 f.1;rw[wv (a:=c*d) ω,wv (a:=a*d) ω,wv (a:=b*c) ω,wv ω];exact⟨rfl,j,rfl⟩
def JX:su Aq Xf:=λx o a8=>by
 obtain⟨p,q,_⟩:=x;have ax:A9 p.1.2:=A6 o.1.1.2.2;have ay:A9 p.2:=A6 o.1.2.2;have az:A9 q.1.2:=A6 o.2.1.1.2.2;have b0:A9 q.2:=A6 o.2.1.2.2;change C7 at p q;obtain⟨a9,aa⟩:J8 p/\J8 q:=a8;obtain⟨N,O⟩:=a9;obtain⟨P,Q⟩:=aa;simp only[Xf,iB,N2,Et,R4,W8];refine⟨trivial,?_⟩;rintro⟨b1,_⟩ _ R;simp only at R|-;refine⟨λh=>⟨⟨P,Q⟩,?_⟩,λh=>⟨trivial,?_⟩⟩
 . rintro⟨r,_⟩ _ f;simp only at f|-;rw[R]at h;rw[f,AV (qA h),tB]
 rintro⟨b2,_⟩ _ T;simp only at T|-;refine⟨λh=>⟨⟨N,O⟩,?_⟩,λh=>⟨trivial,?_⟩⟩
 . rintro⟨r,_⟩ _ f;simp only at f|-;rw[T]at h;rw[f,AV (qA h),rH]
 rintro⟨F,E,aq,_⟩ _ ⟨B,D⟩;refine⟨trivial,?_⟩;rintro⟨I,bd,ar,_⟩ _ ⟨G,H⟩;change Int at F E I bd;simp only at B D G H|-;refine⟨λh=>?_,λ_=>⟨trivial,?_⟩⟩
 . rw[J7,qC]at h;have X:L3 p:=rB λhn=>by have:=D hn;rw[this]at h;exact absurd h.1 δ
   have Y:L3 q:=rB λhn=>by have:=H hn;rw[this]at h;exact absurd h.2 δ
   obtain⟨a1,a3,_⟩:=B X;obtain⟨a2,a4,_⟩:=G Y;obtain⟨Z,a0,b3,b4⟩:=Lr X;obtain⟨b5,b6,b7,b8⟩:=Lr Y;obtain⟨am,an,ao⟩:=A9w (a:=F) (b:=I) (c:=E) (d:=bd) ω ω ω ω;rw[am,ao];refine⟨an,?_⟩;rintro⟨r,_⟩ _ f;simp only at f|-;rw[f, <-Vf p, <-Vf q, <-a1, <-a3, <-a2, <-a4,PW ω ω,sV ω,sV ω,g3v ω ω]
 rintro⟨n,d,_⟩ ⟨ae,ab,_⟩ w;refine⟨trivial,?_⟩;rintro⟨m,e,_⟩ ⟨ad,ac,_⟩ z;have W:A9 n.2:=A6 ae.2.2;have U:A9 d:=A6 ab.2;have V:A9 m.2:=A6 ad.2.2;have le:A9 e:=A6 ac.2;refine⟨trivial,?_⟩;rintro⟨c,_⟩ _ M;change Lb at n m;change Wf at d e;simp only at w z M|-;obtain⟨j,a5⟩:=Mn w;obtain⟨J,a6⟩:=Mn z;obtain⟨aj,au⟩:=Ir (k:=2199023255552) w N O δ;obtain⟨ai,av⟩:=Ir (k:=2199023255552) z P Q δ;rw[a5,a6];refine⟨λh=>?_,λh=>?_⟩
 . have h:=qA h;have a7:nv d=nv e:=YS.1 (M▸h);refine⟨⟨by show n.2.length<= _;omega,by show m.2.length<= _;omega⟩,?_⟩;rintro⟨u,_⟩ _ g;simp only at g|-;have af:=XW (x:=n) (y:=m) W V aj ai;refine⟨⟨j,by show u.2.length<= _;rw[g];omega,by show d.length<= _;omega⟩,?_⟩;rintro⟨r,_⟩ _ f;simp only at f|-;rw[f,g,P6, <-a7,A3c j]
 --the general case:the same four times
 have Z:=ID (x:=n) (y:=(false,e)) W le;have a0:=ID (x:=m) (y:=(false,d)) V U;have t:N8 n.2/\N8 e:=⟨by show n.2.length<= _;omega,by show e.length<= _;omega⟩;have l:N8 m.2/\N8 d:=⟨by show m.2.length<= _;omega,by show d.length<= _;omega⟩;have fin:∀u v:Lb,u=ic (iv n*iv (false,e))->v=ic (iv m*iv (false,d))->(N8 u.2/\N8 v.2)/\∀(r_6:(Bool×Wf)×Unit),lV r_6.1/\True->r_6.1=ic (iv u+iv v)->(N8 d/\N8 e)/\∀(r_7:Wf×Unit),Hu r_7.1/\True->r_7.1=nc (nv d*nv e)->(nv r_7.1≠(0:Nat)/\Gf r_6.1.2/\Gf r_7.1)/\∀(r:QQ×Unit),RR r.1/\True->r.1=rc (mkRat (iv r_6.1) (nv r_7.1))->r.1=rc (mkRat (iv n) (nv d)+mkRat (iv m) (nv e)):=by
  intro u v g i;have ag:u.2.length<=4398046511104:=by
   rw[g];refine qX Z ?_;show n.2.length+e.length<= _;omega
  have ah:v.2.length<=4398046511104:=by
   rw[i];refine qX a0 ?_;show m.2.length+d.length<= _;omega
  refine⟨⟨by show u.2.length<= _;omega,by show v.2.length<= _;omega⟩,?_⟩;rintro⟨ak,_⟩ _ A;refine⟨⟨l.2,t.2⟩,?_⟩;rintro⟨ap,_⟩ _ s;simp only at A s|-;have af:=XW (x:=u) (y:=v) (by rw[g];exact oL _) (by rw[i];exact oL _) ag ah;have aw:=IH U le;refine⟨⟨by rw[s,F6];exact zN j J,by show ak.2.length<= _;rw[A];omega,by show ap.length<= _;rw[s];omega⟩,?_⟩;rintro⟨r,_⟩ _ f;simp only at f|-;rw[f,A,s,F6,P6,g,i,P6,P6,Kh,Kh,PW j J]
 exact⟨⟨t,λu _ g=>⟨⟨l,λv _ i=>⟨fin _ _ g i,fin _ _ g i⟩⟩,l,λv _ i=>fin _ _ g i⟩⟩,t,λu _ g=>⟨l,λv _ i=>fin _ _ g i⟩⟩
def A1t:An:= {plan:= [(1,[0,2],[6,7],true, .done),(2,[1,2,6,7,11,13],[17],true, .done)]}
def A1v:An:= {plan:= [(1,[0,3,7,9],[13],true, .done)]}
def bM(x:R2):Prop:=let f:=(rv x.1);let e:=(rv x.2.1);let a:(C8)->(C8)->(Yl)->Prop:=(λr g h=>lV h.1/\True->h.1=ic (↑e.den:Int)->(N8 r.1.1.2/\N8 h.1.2)/\W8 λi=>i.1=ic (iv r.1.1*iv h.1)->J8 x.1/\W8 λr=>r.1=ic (↑f.den:Int)->(N8 g.1.1.2/\N8 r.1.2)/\W8 λj=>j.1=ic (iv g.1.1*iv r.1)->(N8 i.1.2/\N8 j.1.2)/\W8 λr=>r.1=ic (iv i.1+iv j.1)->J8 x.1/\W8 λk=>k.1=ic (↑f.den:Int)->J8 x.2.1/\W8 λl=>l.1=ic (↑e.den:Int)->(N8 k.1.2/\N8 l.1.2)/\W8 λm=>m.1=ic (iv k.1*iv l.1)->(Gf r.1.2/\Gf m.1.2)/\N2 λn=>n.1=rc (Oc r.1 m.1)->n.1=rc (rv x.1+rv x.2.1));let b:(C8)->(C8)->Prop:=(λr g=>RR g.1/\True->g.1=rc e->J8 x.2.1/\∀(h:Yl),a r g h);let d:(C8)->Prop:=(λr=>J8 x.2.1/\∀(g:C8),b r g);let c:Prop:=((J8 x.1/\N2 λr=>r.1=rc f->(d r)/\J8 x.2.1/\∀(g:C8),b r g)/\J8 x.1/\N2 λr=>r.1=rc f->J8 x.2.1/\∀(g:C8),b r g);(J8 x.1/\N2 λr=>r.1=rc f->(J8 x.2.1/\N2 λg=>g.1=rc e->(J8 x.2.1/\∀(h:Yl),a r g h)/\J8 x.2.1/\∀(h:Yl),a r g h)/\((d r)/\d r)/\(d r)/\J8 x.2.1/\∀(g:C8),b r g)/\c/\c
def bP(x:R2):Prop:=J8 x.1/\N2 λr=>r.1=rc (rv x.1)->J8 x.2.1/\N2 λa=>a.1=rc (rv x.2.1)->(N8 r.1.1.2/\N8 a.1.1.2)/\W8 λb=>b.1=ic (iv r.1.1*iv a.1.1)->J8 x.1/\W8 λr=>r.1=ic (↑(rv x.1).den:Int)->J8 x.2.1/\W8 λc=>c.1=ic (↑(rv x.2.1).den:Int)->(N8 r.1.2/\N8 c.1.2)/\W8 λd=>d.1=ic (iv r.1*iv c.1)->(Gf b.1.2/\Gf d.1.2)/\N2 λr=>r.1=rc (Oc b.1 d.1)->r.1=rc (rv x.1*rv x.2.1)
def lA {p:C7} (a:A9 p.1.2) (b:A9 p.2) (h:J8 p):(ic (rv p).num).2.length<=2199023255552/\(ic ((rv p).den:Int)).2.length<=2199023255552:=by
 have:=Mo a b h.1 h.2 δ;exact⟨this.1,by rw[De,vB];exact this.2⟩
def icm {x y:Int} {k:Nat} (a:(ic x).2.length<=k) (b:(ic y).2.length<=k):(ic (x*y)).2.length<=2*k:=by
 rw[De]at*;rw[vJ];have:=Qk x.natAbs y.natAbs;omega
def ica {x y:Int} {k:Nat} (b:(ic x).2.length<=k) (c:(ic y).2.length<=k):(ic (x+y)).2.length<=k+1:=by
 rw[De]at*;have a:=K9 (zY x y);have:=QA x.natAbs y.natAbs;omega
def dS:su Lq bM:=λx a j=>by
 obtain⟨p,q,_⟩:=x;have n:A9 p.1.2:=A6 a.1.1.2.2;have o:A9 p.2:=A6 a.1.2.2;have r:A9 q.1.2:=A6 a.2.1.1.2.2;have s:A9 q.2:=A6 a.2.1.2.2;change C7 at p q;obtain⟨k,l⟩:J8 p/\J8 q:=j;obtain⟨d,b⟩:=lA n o k;obtain⟨f,c⟩:=lA r s l;have g:=icm d c;have i:=icm f b;have t:=icm b c;have u:=ica g i;have fin:rc (Oc (ic ((rv p).num*((rv q).den:Int)+(rv q).num*((rv p).den:Int))) (ic (((rv p).den:Int)*((rv q).den:Int))))=rc (rv p+rv q):=by
  unfold Oc;rw[P6,P6,A2i]
 have P1:N8 (ic (rv p).num).2:=by show _ <= _;omega
 have P2:N8 (ic ((rv p).den:Int)).2:=by show _ <= _;omega
 have Q1:N8 (ic (rv q).num).2:=by show _ <= _;omega
 have Q2:N8 (ic ((rv q).den:Int)).2:=by show _ <= _;omega
 have M1:N8 (ic ((rv p).num*((rv q).den:Int))).2:=by show _ <= _;omega
 have M2:N8 (ic ((rv q).num*((rv p).den:Int))).2:=by show _ <= _;omega
 have M3:Gf (ic (((rv p).den:Int)*((rv q).den:Int))).2:=by show _ <= _;omega
 have M4:Gf (ic ((rv p).num*((rv q).den:Int)+(rv q).num*((rv p).den:Int))).2:=by show _ <= _;omega
 clear g i t u d b f c;have v:(rc (rv p)).1=ic (rv p).num:=rfl;have w:(rc (rv q)).1=ic (rv q).num:=rfl;simp only[bM,N2,W8]
 repeat' first
  |assumption
  |apply And.intro
  | (rintro⟨y,_⟩ _ h;simp only at h|-;subst h;try simp only[v,w,P6])
def KQ:An:= {}
def HS:An:= {}
def TJ:An:= {}
def TH:An:= {plan:= [(1,[1,3],[6],true, .done)]}
def WH:An:= {plan:= [(1,[1,4],[7],true, .done)]}
def WF:An:= {plan:= [(2,[1,3,5],[8],true, .done)]}
def WG:An:= {plan:= [(1,[1,3,6,8],[11],true, .done)]}
def HR:An:= {plan:= [(1,[0,2],[],true, .done)]}
def Pg(x:Bool×Wf×Unit):Prop:=(L5 x.1 (decide ((0:Int)<(x.2.1.length:Int))) false,x.2.1)=(x.1&&decide (x.2.1≠ []),x.2.1)
def Nn(x:D7):Prop:=(iB (decide (x.1<0)) (True/\R4 λr=>r.1=nc (u64.wrap (-u64.wrap x.1)).toNat->True/\W8 λa=>a.1=(true&&decide (r.1≠ []),r.1)->a.1=ic x.1) (True/\R4 λr=>r.1=nc (u64.wrap x.1).toNat->True/\W8 λa=>a.1=(false&&decide (r.1≠ []),r.1)->a.1=ic x.1))
def Wy(x:Yl):Prop:=True/\Et λr=>r.1=Dg (nv x.1.2) (nv [])->(iB (decide (r.1=0)) ((0:Int)=(iv x.1).sign) ((iB x.1.1 ((-1:Int)=(iv x.1).sign) ((1:Int)=(iv x.1).sign))))
def Wx(x:Yl):Prop:=Ht x.1.2/\R4 λr=>r.1=nc (nv x.1.2)->True/\W8 λa=>a.1=(x.1.1&&decide (r.1≠ []),r.1)->a.1=ic (iv x.1)
def BH(x:Yl):Prop:=Ht x.1.2/\R4 λr=>r.1=nc (nv x.1.2)->True/\W8 λa=>a.1=(!x.1.1&&decide (r.1≠ []),r.1)->a.1=ic (-iv x.1)
abbrev dE:=(Bool×Wf)×(Bool×Wf)×Unit
abbrev A4n:=Wf×Bool×Unit
def BF(x:dE):Prop:=let b:Prop:=(N8 x.1.2/\N8 x.2.1.2);let a:=(iv x.1+iv x.2.1);(iB ((x.1.1==x.2.1.1)) (b/\R4 λr=>r.1=nc (nv x.1.2+nv x.2.1.2)->True/\W8 λc=>c.1=(x.1.1&&decide (r.1≠ []),r.1)->c.1=ic a) (b/\∀(r:A4n),Hu r.1/\True/\True->(nv x.1.2<nv x.2.1.2->r.1= []/\r.2.1=false)/\(nv x.2.1.2<=nv x.1.2->r.1=nc (nv x.1.2-nv x.2.1.2)/\r.2.1=true)->(iB r.2.1 (True/\W8 λc=>c.1=(x.1.1&&decide (r.1≠ []),r.1)->c.1=ic a) ((N8 x.2.1.2/\N8 x.1.2)/\∀(r:A4n),Hu r.1/\True/\True->(nv x.2.1.2<nv x.1.2->r.1= []/\r.2.1=false)/\(nv x.1.2<=nv x.2.1.2->r.1=nc (nv x.2.1.2-nv x.1.2)/\r.2.1=true)->True/\W8 λc=>c.1=(x.2.1.1&&decide (r.1≠ []),r.1)->c.1=ic a))))
def BG(x:dE):Prop:=(N8 x.1.2/\N8 x.2.1.2)/\R4 λr=>r.1=nc (nv x.1.2*nv x.2.1.2)->True/\W8 λa=>a.1=(x.1.1 !=x.2.1.1&&decide (r.1≠ []),r.1)->a.1=ic (iv x.1*iv x.2.1)
def Nm(x:dE):Prop:=let b:=(iv x.1);let a:=(iv x.2.1);True/\Et λr=>r.1=b.sign->True/\Et λc=>c.1=a.sign->(iB (decide (r.1<c.1)) ((-1:Int)=N3 b a) ((iB (decide (c.1<r.1)) ((1:Int)=N3 b a) ((iB (decide (r.1<0)) (True/\Et λr=>r.1=Dg (nv x.2.1.2) (nv x.1.2)->r.1=N3 b a) (True/\Et λr=>r.1=Dg (nv x.1.2) (nv x.2.1.2)->r.1=N3 b a))))))
def mP:An:= {join:= [(11,⟨[4,7,10],[2],[],[(5,56,[.val .bool, .val qa]),(7,56,[.val .bool, .val qa])],[]⟩)],plan:= [(5,[0,3],[5],true, .done),(10,[0,2],[4,5],true, .done)]}
def mS:An:= {}
def mQ:An:= {}
def iJ:An:= {}
def OQ:An:= {plan:= [(1,[0,1],[],true, .done)]}
def A1x:An:= {}
def WR:An:= {}
def A7w:An:= {}
def mR:An:= {}
def A1w:An:= {plan:= [(1,[0,4],[7],true, .done)]}
abbrev C6u:=(Bool×Wf)×(Bool×Wf)×Bool×Unit
abbrev C0o:=Bool×Wf×Bool×Wf×Unit
def SX(x:dE):Prop:=let a:=(0:Int);Ht x.2.1.2/\Et λr=>r.1=(iv x.2.1).sign->(iB (decide (r.1=a)) (True/\N2 λr=>r.1=rc (0:Rat)->r.1=rc (Oc x.1 x.2.1)) (Ht x.2.1.2/\W8 λr=>r.1=ic (iv x.2.1)->((!r.1.1)=true->True)/\∀(e:W4),((!r.1.1)=true->(True/\True)/\e.1=decide (r.1.2= [(1:Int)]))->(iB (L5 (!r.1.1) e.1 false) (Ht x.1.2/\W8 λb=>b.1=ic (iv x.1)->(b.1,r.1.2)=rc (Oc x.1 x.2.1)) ((Gf x.1.2/\Gf x.2.1.2)/\W8 λr=>r.1=ic (↑((nv x.1.2).gcd (nv x.2.1.2)):Int)->(Gf x.1.2/\Gf r.1.2)/\∀(b:C6u),lV b.1/\lV b.2.1/\True/\True->(iv r.1≠a->b.1=ic (iv x.1/iv r.1)/\b.2.1=ic (iv x.1%iv r.1)/\b.2.2.1=true)->(Gf x.2.1.2/\Gf r.1.2)/\∀(c:C6u),lV c.1/\lV c.2.1/\True/\True->(iv r.1≠a->c.1=ic (iv x.2.1/iv r.1)/\c.2.1=ic (iv x.2.1%iv r.1)/\c.2.2.1=true)->∃(J:C0o->Prop),((iB c.1.1 (Ht b.1.2/\W8 λr=>r.1=ic (-iv b.1)->Ht c.1.2/\W8 λd=>d.1=ic (-iv c.1)->J (r.1.1,r.1.2,d.1.1,d.1.2,())) (J (b.1.1,b.1.2,c.1.1,c.1.2,()))))/\∀(p:C0o),Ty.bool.wf p.1/\(Ty.int u32).sl.wf p.2.1/\Ty.bool.wf p.2.2.1/\(Ty.int u32).sl.wf p.2.2.2.1/\True->J p->((p.1,p.2.1),p.2.2.2.1)=rc (Oc x.1 x.2.1)))))
def TA(x:Unit):Prop:=((false,[]),[(1:Int)])=rc (0:Rat)
def SY(x:C8):Prop:=(Gf x.1.1.2/\Gf x.1.2)/\N2 λr=>r.1=rc (Oc x.1.1 (false,x.1.2))->r.1=rc (rv x.1)
def NW(x:R2):Prop:=True/\Jp λr=>r.1=decide (x.1.1=x.2.1.1)->(r.1=true->True)/\∀(a:W4),(r.1=true->(True/\True)/\a.1=decide (x.1.2=x.2.1.2))->L5 r.1 a.1 false=decide (x.1=x.2.1)
def Tt(x:C8):Prop:=J8 x.1/\N2 λr=>r.1=rc (rv x.1)->True/\Jp λa=>a.1=decide (x.1=r.1)->a.1=decide (x.1=rc (rv x.1))
def bU(x:C8):Prop:=J8 x.1/\N2 λr=>r.1=rc (rv x.1)->(false,r.1.2)=ic (↑(rv x.1).den:Int)
def CG(x:D7):Prop:=True/\W8 λr=>r.1=ic x.1->True/\W8 λa=>a.1=ic (1:Int)->(Gf r.1.2/\Gf a.1.2)/\N2 λb=>b.1=rc (Oc r.1 a.1)->b.1=ri x.1
def iE(x:Ch):Prop:=True/\W8 λr=>r.1=ic x.1->True/\W8 λa=>a.1=ic x.2.1->(Gf r.1.2/\Gf a.1.2)/\N2 λb=>b.1=rc (Oc r.1 a.1)->b.1=rc (Rat.divInt x.1 x.2.1)
def SZ(x:C8):Prop:=J8 x.1/\N2 λr=>r.1=rc (rv x.1)->Ht r.1.1.2/\Et λa=>a.1=(iv r.1.1).sign->a.1=(rv x.1).num.sign
def bQ(x:C8):Prop:=J8 x.1/\N2 λr=>r.1=rc (rv x.1)->Ht r.1.1.2/\W8 λa=>a.1=ic (-iv r.1.1)->J8 x.1/\W8 λr=>r.1=ic (↑(rv x.1).den:Int)->(Gf a.1.2/\Gf r.1.2)/\N2 λb=>b.1=rc (Oc a.1 r.1)->b.1=rc (-rv x.1)
def NJ:su Fb BH:=λx d c=>by
 obtain⟨(p:Lb),_⟩:=x;simp only[BH,R4,W8];refine⟨c,?_⟩;rintro⟨r,_⟩ _ a;simp only at a|-;refine⟨trivial,?_⟩;rintro⟨s,_⟩ _ b;simp only at b|-;rw[b,a];have h:=B3g (neg:= !p.1) (m:=nv p.2);have e:iv (!p.1,nc (nv p.2))= -iv p:=by
  rw[B3t];congr 1;unfold iv;simp only[F6]
 rw[<-e,h];have:decide (nc (nv p.2)≠ [])=decide (nv p.2≠0):=vR.2 (not_congr Zw);rw[this]
def YR {a b:Int} (c: -2147483647<=a/\a<=2147483647) (d: -2147483647<=b/\b<=2147483647): -4611686014132420609<=a*b/\a*b<=4611686014132420609:=by
 have h:(a*b).natAbs<=2147483647*2147483647:=by
  rw[vJ];exact uJ ω ω
 omega
def KA:su V7 Xi:=λx j N=>by
 obtain⟨p,q,_⟩:=x;have ab:A9 p.1.2:=A6 j.1.1.2.2;have ac:A9 p.2:=A6 j.1.2.2;have ad:A9 q.1.2:=A6 j.2.1.1.2.2;have ae:A9 q.2:=A6 j.2.1.2.2;change C7 at p q;obtain⟨Q,U⟩:J8 p/\J8 q:=N;obtain⟨O,P⟩:=Q;obtain⟨R,T⟩:=U;simp only[Xi,iB,N2,R4,W8];refine⟨trivial,?_⟩;rintro⟨l,d,a7,_⟩ _ ⟨t,u⟩;refine⟨trivial,?_⟩;rintro⟨o,bd,a8,_⟩ _ ⟨v,w⟩;change Int at l d o bd;simp only at t u v w|-;refine⟨λh=>?_,λ_=>⟨trivial,?_⟩⟩
 . rw[J7,qC]at h;have z:L3 p:=rB λhn=>by have:=u hn;rw[this]at h;exact absurd h.1 δ
   have A:L3 q:=rB λhn=>by have:=w hn;rw[this]at h;exact absurd h.2 δ
   obtain⟨E,G,_⟩:=t z;obtain⟨F,H,_⟩:=v A;obtain⟨a5,a6,ah,ai⟩:=Lr z;obtain⟨aj,ak,am,an⟩:=Lr A;have f:=YR (a:=l) (b:=o) ω ω;have g:=YR (a:=d) (b:=bd) ω ω;have I:0<d*bd:=Int.mul_pos ω ω;rw[wv (a:=d*bd) ω,wv (a:=l*o) ω];refine⟨I,?_⟩;rintro⟨a2,_⟩ _ c;simp only at c|-;rw[c, <-Vf p, <-Vf q, <-E, <-G, <-F, <-H,g0z,g3v ω ω]
 rintro⟨n,r,_⟩ ⟨Y,V,_⟩ f;refine⟨trivial,?_⟩;rintro⟨m,e,_⟩ ⟨X,W,_⟩ g;have a1:A9 n.2:=A6 Y.2.2;have Z:A9 r:=A6 V.2;have a0:A9 m.2:=A6 X.2.2;have le:A9 e:=A6 W.2;change Lb at n m;change Wf at r e;simp only at f g|-;obtain⟨B,J⟩:=Mn f;obtain⟨D,M⟩:=Mn g;obtain⟨ag,a9⟩:=Ir (k:=2199023255552) f O P δ;obtain⟨af,aa⟩:=Ir (k:=2199023255552) g R T δ;have a5:=ID (x:=n) (y:=m) a1 a0;have a6:=IH Z le;rw[J,M];refine⟨⟨by show n.2.length<= _;omega,by show m.2.length<= _;omega⟩,?_⟩;rintro⟨a3,_⟩ _ s;refine⟨⟨by show r.length<= _;omega,by show e.length<= _;omega⟩,?_⟩;rintro⟨a4,_⟩ _ i;simp only at s i|-;refine⟨⟨by rw[i,F6];exact zN B D,by show a3.2.length<= _;rw[s];omega,by show a4.length<= _;rw[i];omega⟩,?_⟩;rintro⟨a2,_⟩ _ c;simp only at c|-;rw[c,s,i,P6,F6,g0z]
def KB:su Au Xj:=λx d f=>by
 obtain⟨p,_⟩:=x;have g:A9 p.1.2:=A6 d.1.1.2.2;have h:A9 p.2:=A6 d.1.2.2;change C7 at p;have a:J8 p:=f;obtain⟨i,j⟩:=Mo (k:=2199023255552) g h a.1 a.2 δ;simp only[Xj,N2,W8];refine⟨a,?_⟩;rintro⟨r,_⟩ _ b;simp only at b|-;subst b;refine⟨by show(ic (rv p).num).2.length<= _;omega,?_⟩;rintro⟨s,_⟩ _ c;simp only at c|-;rw[c];show(ic (-iv (ic (rv p).num)),nc (rv p).den)=(ic (-(rv p)).num,nc (-(rv p)).den);rw[P6,g5d,g5c]
def C3z {q:Rat} (h:q≠0):(((ic q.num).1,nc q.den),(ic q.num).2)=rc q⁻¹:=by
 have a:q.num≠0:=λe=>h (g0t.1 e)
 unfold rc ic;rw[Rat.num_inv,Rat.den_inv,qL a,vJ,vB,g1d a,xG];have b:(0:Int)<(q.den:Int):=by have:=q.den_pos;omega
 have:(q.num.sign*(q.den:Int)<0)↔q.num<0:=by
  rcases zX q.num 0 with h1|h1|h1
  . rw[xJ h1];omega
  . exact absurd h1 a
  rw[uW h1];omega
 simp only[this]
def JZ:su Ar Xh:=λx i f=>by
 obtain⟨(p:C7),_⟩:=x;have g:J8 p:=f;simp only[Xh,iB,N2,Et];refine⟨trivial,?_⟩;rintro⟨s,_⟩ _ b;simp only at b|-;refine⟨λh=>?_,λh=>⟨g,?_⟩⟩
 . have a:=AV (b▸qA h);exact⟨λ_=>by trivial,λd=>absurd a d⟩
 rintro⟨r,_⟩ _ c;simp only at c|-;refine⟨λa=>?_,λa=>⟨by rw[c];exact C3z a,by trivial⟩⟩;have h:=qB h;rw[b,a]at h;exact absurd rfl h
def oK {a:Int} (h:i64.min<=a/\a<=i64.max):(ic a).2.length<=2:=by
 have b: -9223372036854775808<=a/\a<=9223372036854775807:=h;exact Fv (by show a.natAbs<4294967296^2;omega)
def lK:su AU iE:=λx g _=>by
 obtain⟨a,b,_⟩:=x;have h:(ic a).2.length<=2:=oK g.1;have i:(ic b).2.length<=2:=oK g.2.1;change Int at a b;simp only[iE,N2,W8];refine⟨trivial,?_⟩;rintro⟨r,_⟩ _ c;refine⟨trivial,?_⟩;rintro⟨s,_⟩ _ d;simp only at c d|-;subst c d;refine⟨⟨by show(ic a).2.length<= _;omega,by show(ic b).2.length<= _;omega⟩,?_⟩;rintro⟨t,_⟩ _ f;simp only at f|-;rw[f];unfold Oc;rw[P6,P6]
def dV:su Tb bP:=λx a u=>by
 obtain⟨p,q,_⟩:=x;have v:A9 p.1.2:=A6 a.1.1.2.2;have w:A9 p.2:=A6 a.1.2.2;have y:A9 q.1.2:=A6 a.2.1.1.2.2;have z:A9 q.2:=A6 a.2.1.2.2;change C7 at p q;obtain⟨b,c⟩:J8 p/\J8 q:=u;obtain⟨l,n⟩:=lA v w b;obtain⟨o,r⟩:=lA y z c;have B:=icm l o;have D:=icm n r;simp only[bP,N2,W8];refine⟨b,?_⟩;rintro⟨E,_⟩ _ g;refine⟨c,?_⟩;rintro⟨F,_⟩ _ h;simp only at g h|-;subst g h;refine⟨⟨by show(ic (rv p).num).2.length<= _;omega,by show(ic (rv q).num).2.length<= _;omega⟩,?_⟩;rintro⟨H,_⟩ _ j;refine⟨b,?_⟩;rintro⟨A,_⟩ _ d;refine⟨c,?_⟩;rintro⟨e,_⟩ _ f;simp only at j d f|-;subst j d f;refine⟨⟨by show(ic ((rv p).den:Int)).2.length<= _;omega,by show(ic ((rv q).den:Int)).2.length<= _;omega⟩,?_⟩;rintro⟨I,_⟩ _ k;simp only at k|-;subst k;have s:(rc (rv p)).1=ic (rv p).num:=rfl;have t:(rc (rv q)).1=ic (rv q).num:=rfl;rw[s,t,P6,P6,P6,P6];refine⟨⟨by show(ic _).2.length<= _;omega,by show(ic _).2.length<= _;omega⟩,?_⟩;rintro⟨G,_⟩ _ i;simp only at i|-;rw[i];unfold Oc;rw[P6,P6,nO]
def Uy {l:List D5} (h:∀x∈l,WfE x):Xz l:=λe a=>⟨A6 (h e a).2.1.2.2,A6 (h e a).2.2.2⟩
def Oq {q:C7} (h:RR q):Qi q:=⟨A6 h.1.2.2,A6 h.2.2⟩
def Wo:su W0 Kz:=λx A _=>by
 obtain⟨l,_⟩:=x;have E:l.length<=9223372036854775807:=A.1.1;change List D5 at l;simp only[Kz,iB];refine⟨λp=>1<=p.1/\∀s t:Nat,s<t->t<p.1.toNat->t<l.length->(l.getD s D8).1<(l.getD t D8).1,λp=>((l.length:Int)-p.1).toNat,⟨qG _,λs t c f=>by simp at f;omega⟩,?_⟩;rintro⟨(k:Int),_⟩ _ ⟨u,c⟩;simp only at u c|-;refine⟨λh=>?_,λh=>?_⟩
 . have h:=qA h;rw[wv (a:=k-1) ω];refine⟨⟨ω,ω⟩,⟨ω,h⟩,λb=>?_,λb=>?_⟩
   . have b:=qA b;refine(rC λg=>?_).symm;unfold asc at g;rw[uH]at g;have:=g (k-1).toNat k.toNat ω ω ω;have j:=H1 (d:=D8) (l:=l) (i:=k) ω h;have n:=H1 (d:=D8) (l:=l) (i:=k-1) ω ω;rw[qM ω]at j n;rw[xQ j,xQ n]at this;omega
   have b:=qB b;rw[wv (a:=k+1) ω];rw[K6 ω h,K6 ω ω]at b;refine⟨⟨ω,λs t f D v=>?_⟩,ω⟩;by_cases r:t=k.toNat
   . by_cases z:s=(k-1).toNat
     . rw[r,z];omega
     have:=c s (k-1).toNat ω ω ω;rw[r];omega
   exact c s t f ω v
 have h:=qB h;refine(rA ?_).symm;unfold asc;rw[uH];intro i B w o y;have:=c i B y ω o;rw[qE,qM w,qE,qM o]at this;exact this
def A5j {α:Type} (e:α) (a:List α):List.drop (Int.toNat 1) (List.take (((e::a).length:Int)).toNat (e::a))=a:=by
 rw[qQ,vD];rfl
def KG:su Dv Xo:=λx a7 V=>by
 obtain⟨(A:List D5),(B:List D5),⟨W,c⟩,_⟩:=x;obtain⟨a5,a6,U⟩:A.length<=100000/\B.length<=100000/\∀u v:C7,(u=zr\/∃e∈A,e.2=u)->(v=zr\/∃e∈B,e.2=v)->W (u,v,()):=V;simp only[Xo,iB,Et];have M:List.replicate (Int.toNat 0) D8= []:=rfl;rw[M];refine⟨⟨qG _,ω,ω,ω⟩,?_⟩;refine⟨λp=>(∀e∈p.1,e∈A)/\(∀e∈p.2.1,e∈B)/\p.2.2.1++J1 c p.1 p.2.1=J1 c A B/\p.2.2.1.length+(p.1.length+p.2.1.length)<=A.length+B.length,λp=>p.1.length+p.2.1.length,⟨λ_ h=>h,λ_ h=>h,rfl,by simp⟩,?_⟩;rintro⟨(a:List D5),(b:List D5),(J:List D5),_⟩ _ ⟨k,i,j,Q⟩;simp only at k i j Q|-;refine⟨λn=>?_,λn=>?_⟩
 . refine⟨λq=>(q.1.length+q.2.1.length<a.length+b.length)/\(∀e∈q.1,e∈A)/\(∀e∈q.2.1,e∈B)/\(((q.2.2.2.1,q.2.2.2.2.1),q.2.2.2.2.2.1)=zr\/∃e∈A,e.2=((q.2.2.2.1,q.2.2.2.2.1),q.2.2.2.2.2.1))/\(((q.2.2.2.2.2.2.1,q.2.2.2.2.2.2.2.1),q.2.2.2.2.2.2.2.2.1)=zr\/∃e∈B,e.2=((q.2.2.2.2.2.2.1,q.2.2.2.2.2.2.2.1),q.2.2.2.2.2.2.2.2.1))/\J1 c a b=put q.2.2.1 (c (((q.2.2.2.1,q.2.2.2.2.1),q.2.2.2.2.2.1),((q.2.2.2.2.2.2.1,q.2.2.2.2.2.2.2.1),q.2.2.2.2.2.2.2.2.1),())) (J1 c q.1 q.2.1),⟨λh=>⟨qG _,qA h.1⟩,λh=>⟨qG _,by have:=qB h.2;omega⟩,λh=>?_,λh=>?_⟩,?_⟩
   . cases a with
     |nil=>
      cases b with
      |nil=>simp[L5]at n
      |cons f b=>simp[L5]at h;omega
     |cons e a=>
      have E:e∈A:=k e (rD ..);have D:∀z∈a,z∈A:=λz d=>k z (qI _ d)
      have F:(0:Int)<((e::a).length:Int):=by simp only[rK];omega
      rw[A5j];refine⟨⟨qG _,F⟩,⟨qG _,F⟩,⟨ω,by simp only[rK];omega,qG _⟩,λh=>⟨qG _,qA h⟩,λg=>?_,λg=>?_⟩
      . cases b with
        |nil=>simp[L5]at g
        |cons f b=>
         rw[A5j];have R:(0:Int)<((f::b).length:Int):=by simp only[rK];omega
         refine⟨⟨qG _,R⟩,⟨ω,by simp only[rK];omega,qG _⟩,by simp only[rK];omega,D,λz d=>i z (qI _ d), .inr ⟨e,E,rfl⟩, .inr ⟨f,i f (rD ..),rfl⟩,?_⟩;rw[J7,qC,rU,rU]at g;have O:f.1=e.1:=g.2;show J1 c (e::a) (f::b)=put e.1 (c (e.2,f.2,())) (J1 c a b);rw[J1,qL ω,qR O.symm]
      refine⟨by simp only[rK];omega,D,i, .inr ⟨e,E,rfl⟩, .inl rfl,?_⟩;show J1 c (e::a) b=put e.1 (c (e.2,zr,())) (J1 c a b);cases b with
      |nil=>rw[J1]
      |cons f b=>
       have O:¬f.1=e.1:=by
        have:decide ((gx D8 (f::b) 0).1=(gx D8 (e::a) 0).1)=false:=by simpa[L5]using g
        exact qB this
       have R:e.1<=f.1:=by
        have:decide ((gx D8 (e::a) 0).1<=(gx D8 (f::b) 0).1)=true:=by
         rw[H3,J7]at h;simp only[rK,tX,qC,rU]at h;rcases h with h|h
         . omega
         exact rA h.2
        exact qA this
       rw[J1,qR ω]
   . rw[H3,J7]at h;simp only[rE,wN,rM]at h;obtain⟨P,h⟩:=h;cases b with
     |nil=>simp at P
     |cons f b=>
      have D:(0:Int)<((f::b).length:Int):=by simp only[rK];omega
      rw[A5j];refine⟨⟨qG _,D⟩,⟨qG _,D⟩,⟨ω,by simp only[rK];omega,qG _⟩,by simp only[rK];omega,k,λz d=>i z (qI _ d), .inl rfl, .inr ⟨f,i f (rD ..),rfl⟩,?_⟩;show J1 c a (f::b)=put f.1 (c (zr,f.2,())) (J1 c a b);cases a with
      |nil=>rw[J1]
      |cons e a=>
       have E:¬e.1<=f.1:=by
        rcases h with h|h
        . simp at h
        exact h
       rw[J1,qL ω,qL ω]
   rintro⟨a3,a4,(G:Int),X,Y,Z,a0,a1,a2,_⟩ _ ⟨r,s,t,H,I,w⟩;simp only at r s t H I w|-;refine⟨by trivial,U _ _ H I,λ_=>⟨trivial,?_⟩⟩;rintro⟨a8,_⟩ _ o;simp only at o|-;generalize c (((X,Y),Z),((a0,a1),a2),())=z at*;have T:∀(α:Type) (l:List α) (y:α),(l++ [y]).length=l.length+1:=fun α l y=>by simp
   refine⟨λh=>⟨⟨by simp only[qY];omega,by simp only[qY];omega⟩,⟨s,t,?_,?_⟩,r⟩,λh=>⟨⟨s,t,?_,ω⟩,r⟩⟩
   . have h:=qA h;have d:¬rv z=0:=λh0=>h (by rw[o,h0];rfl)
     rw[<-j,w,put,qL d,uC];rfl
   . show(J++ [(G,z)]).length+ _ <= _;rw[T];omega
   have h:=qB h;have d:rv z=0:=AV (by rw[<-o];exact sF.1 h);rw[<-j,w,put,qR d]
 rw[H3]at n;simp only[rE,rM]at n;have N:a= []:=qN ω;have g:b= []:=qN ω;subst N g;rw[J1,vX]at j;exact j
def KF:su Du Xn:=λx u _=>by
 obtain⟨l,n,_⟩:=x;have v:l.length<=9223372036854775807:=u.1.1;change List D5 at l;change Int at n;simp only[Xn,iB,Jp];refine⟨trivial,?_⟩;rintro⟨w,_⟩ _ j;simp only at j|-;refine⟨λh=>?_,λh=>?_⟩
 . have:¬asc l:=by
    rw[j]at h;simpa using h
   exact(rC λk=>this k.1).symm
 have s:asc l:=by
  rw[j]at h;simpa using h
 refine⟨λp=>0<=p.1/\∀e∈l.take p.1.toNat,0<=e.1/\e.1<n/\rv e.2≠0,λp=>((l.length:Int)-p.1).toNat,⟨qG _,by simp⟩,?_⟩;rintro⟨(o:Int),_⟩ _ ⟨c,f⟩;simp only at c f|-;refine⟨λb=>?_,λb=>?_⟩
 . have b:=qA b;refine⟨⟨c,b⟩,λ_=>trivial,?_⟩;rintro⟨y,_⟩ g;simp only at g|-;simp only[H3]at g|-;have t:gx D8 l o∈l:=F4 c b;refine⟨λa=>?_,λa=>?_⟩
   . refine(rC λk=>?_).symm;have:=k.2 _ t;simp only[tX,rU]at a;rcases a with(a|a) |a
     . omega
     . omega
     have i:=(g (by simp only[rE,rM];omega)).2;exact this.2.2 (AV (by rw[<-i];exact a))
   simp only[rE,rM]at a;have i:=(g (by simp only[rE,rM];exact a.1)).2;rw[wv ω];refine⟨⟨ω,Jh (d:=D8) (q:=λe=>0<=e.1/\e.1<n/\rv e.2≠0) c b f ⟨ω,ω,λr=>a.2 (by rw[i,r];rfl)⟩⟩,ω⟩
 have b:=qB b;rw[E8 ω]at f;exact(rA ⟨s,f⟩).symm
def GQ:su Cd Ub:=λx b a=>by
 simp only[Ub,N2];exact⟨a,λr _ h=>h⟩
def lC {k:Nat} {v:List D5} (h:HC k v) {u:C7} (b:u=zr\/∃e∈v,e.2=u):sz k u:=by
 rcases b with rfl| ⟨e,a,rfl⟩
 . exact⟨rS _,rS _⟩
 exact h e a
def OD:su Cn CL:=λx I a=>by
 obtain⟨(l:List D5),_⟩:=x;have a:Kn l:=a;have v:WU l:=a.elim (λh=> .inl h.1) .inr;simp only[CL,N2,UP];refine⟨v,?_⟩;rintro⟨(r:List D5),_⟩ _ ⟨s,t⟩;simp only at s t|-;have E:asc r/\(∀j,A5 r j=A5 l j)/\HC K1 r/\r.length<=100000:=by
  by_cases h:asc l
  . rw[s h];rcases a with⟨_,i,d⟩ | ⟨i,d⟩
    . exact⟨h,λ_=>rfl,i,d⟩
    exact⟨h,λ_=>rfl,λe f=>G4 (d e f) δ,ω⟩
  obtain⟨b,c,H,u⟩:=t h;exact⟨b,c,λe f=>G4 (u e f) δ,ω⟩
 obtain⟨z,A,B,D⟩:=E;refine⟨λy=>sz K1 y.1,λy=>rc (rv y.1),?_,⟨D,ω,λF G g _=>lC B g⟩,?_⟩
 . rintro⟨F,G,_⟩ _ g;exact⟨N1 (k:=K1) g δ,λJ _ w=>⟨by trivial,w⟩⟩
 rintro⟨q,_⟩ _ n;simp only at n|-;rw[n];obtain⟨b,c⟩:=A9g z;exact⟨b,λo=>(c o).trans (A o)⟩
def RQ:su Eh HN:=λx n w=>by
 obtain⟨v,k,_⟩:=x;have t:Xz v:=Uy n.1.2;have H:v.length<=9223372036854775807:=n.1.1;change List D5 at v;change Int at k;obtain⟨s,l,G⟩:ED K1 v:=w;simp only[HN,iB,N2];refine⟨trivial,?_⟩;rintro⟨D,_⟩ _ g;simp only at g|-;have g:D=rc 0:=by rw[g, <-QN];rfl
 refine⟨λp=>0<=p.1/\p.1<=(v.length:Int)/\((p.2.1,p.2.2.1),p.2.2.2.1)=rc (A5 (v.take p.1.toNat) k),λp=>((v.length:Int)-p.1).toNat,⟨qG _,qF _,by rw[g];rfl⟩,?_⟩;rintro⟨(i:Int),o,m,d,_⟩ _ ⟨f,r,b⟩;simp only at f r b|-;refine⟨λh=>?_,λh=>?_⟩
 . have h:=qA h;have u:gx D8 v i∈v:=F4 f h;have A:v.take (i+1).toNat=v.take i.toNat++ [gx D8 v i]:=by
    rw[(ω:(i+1).toNat=i.toNat+1),rP,H1 (d:=D8) f h];rfl
   have y:=Uo (v:=v.take i.toNat) (k:=K1) (s.take) (λe a=>t e (rO a)) (λe a=>l e (rO a)) δ k;have z:=l _ u;have j:A5 (v.take (i+1).toNat) k=A5 (v.take i.toNat) k+if(gx D8 v i).1=k then rv (gx D8 v i).2 else 0:=by
    rw[A,R6];simp only[A5,rH]
   generalize gx D8 v i=e at*;refine⟨λp=>((p.1,p.2.1),p.2.2.1)=rc (A5 (v.take (i+1).toNat) k),⟨⟨f,h⟩,λa=>⟨⟨?_,N1 (k:=K1) z δ⟩,?_⟩,λa=>?_⟩,?_⟩
   . rw[b];exact Cq y δ
   . have a:=qA a;rintro⟨B,_⟩ _ c;simp only at c|-;show B= _;rw[c,b,H6,j,qR a]
   . have a:=qB a;show((o,m),d)= _;rw[b,j,qL a,rH]
   rintro⟨E,I,F,_⟩ _ c;simp only at c|-;rw[wv ω];exact⟨⟨ω,ω,c⟩,ω⟩
 have h:=qB h;rw[E8 ω]at b;exact b
def Wr {l:List C7} {i:Int} (a:0<=i) (b:i<(l.length:Int)):gx dQ l i=l.getD i.toNat zr:=K6 (d:=zr) a b
def Wn:su R0 Ky:=λx s F=>by
 obtain⟨(l:List C7),_⟩:=x;obtain⟨I,G⟩:l.length<=100000/\Tj K1 l:=F;simp only[Ky,iB,N2,Et];refine⟨λp=>0<=p.2.1/\p.2.1<=(l.length:Int)/\p.1.length<=p.2.1.toNat/\Ws p.2.1.toNat (λj=>rv (l.getD j zr)) p.1,λp=>((l.length:Int)-p.2.1).toNat,⟨qG _,qF _,qV _,Ji,λ_ h=>(by cases h),λj k=>by simp at k⟩,?_⟩;rintro⟨(v:List D5),(i:Int),_⟩ _ ⟨c,z,A,b⟩;simp only at c z A b|-;refine⟨λh=>?_,λh=>?_⟩
 . have h:=qA h;have E:gx dQ l i∈l:=F4 c h;have u:=G _ E;have B:=Wr c h;have n:∀e∈v,e.1<i:=λe a=>by have:=(b.2.1 e a).2;omega
   rw[B]at u|-;have r:∀w:List D5,V2 w->(∀e∈w,e∈v\/e.1=i)->(∀j:Int,A5 w j=A5 v j+if i=j then rv (l.getD i.toNat zr)else 0)->Ws (i+1).toNat (λj=>rv (l.getD j zr)) w:=λw hc s hcm=>by
    refine⟨hc,λe a=>?_,λj k=>?_⟩
    . rcases s e a with a|a
      . have:=b.2.1 e a;omega
      omega
    rw[hcm];by_cases D:j<i.toNat
    . rw[b.2.2 j D,qL ω,rH]
    have:j=i.toNat:=ω
    rw[D4 λe a H=>by have:=n e a;omega,qR ω,tB,this]
   refine⟨λp=>p.1.length<=(i+1).toNat/\Ws (i+1).toNat (λj=>rv (l.getD j zr)) p.1,⟨⟨c,h⟩,trivial,?_⟩,?_⟩
   . rintro⟨J,_⟩ _ g;simp only at g|-;refine⟨λd=>⟨N1 u δ,?_⟩,λa=>⟨by show v.length<= _;omega,r v b.1 (λe a=> .inl a) λj=>?_⟩⟩
     . rintro⟨y,_⟩ _ o;simp only at o|-;have d:=qA d;have f:rv (l.getD i.toNat zr)≠0:=λc=>d (by rw[g,c];rfl)
       refine⟨⟨by simp only[qY];omega,by simp only[qY];omega⟩,by show(v++ [(i,y)]).length<= _;simp;omega,?_⟩;show Ws _ _ (v++ [(i,y)]);rw[o];exact r _ (Gb b.1 f n) (λe a=>by
        rcases qU.1 a with a|a
        . exact .inl a
        rw[qJ.1 a];exact .inr rfl) λj=>Cj v i _ j
     have a:=qB a;have f:rv (l.getD i.toNat zr)=0:=AV (by rw[<-g];exact sF.1 a);rw[f,ite_self,rH]
   rintro⟨w,_⟩ _ t;simp only at t|-;rw[wv ω];exact⟨⟨ω,ω,t⟩,ω⟩
 have h:=qB h;rw[(ω:i.toNat=l.length)]at b;exact b
def KD:su Ax Xl:=λx a0 O=>by
 obtain⟨(v:List D5),(n:Int),_⟩:=x;obtain⟨P,Q,I,a1⟩:ED K1 v/\E3 v n/\0<=n/\n<=16384:=O;simp only[Xl,iB,N2];refine⟨λh=>?_,λ_=>⟨.inl P,?_⟩⟩
 . rw[H3]at h;simp only[tX,rU]at h;omega
 rintro⟨(c:List D5),_⟩ ⟨⟨J,_⟩,_⟩ ⟨l,t⟩;simp only at l t J|-;have u:∀e∈c,0<=e.1/\e.1<n:=λe a=>by
  have:A5 v e.1≠0:=by rw[<-t,O0 l.1 a];exact(l.2 e a).1
  exact aS Q this
 refine⟨λh=>⟨qG _,qA h⟩,λh=>?_,λh=>?_,λ_=>⟨⟨I,qG _,ω,ω⟩,?_⟩⟩
 . have:=qA h.2;rw[wv ω];omega
 . rw[J7,H3]at h;simp only[qC,tX,rU]at h;obtain⟨r,h⟩:=h;have X:=u _ (F4 (d:=D8) (i:=0) (qG _) r);rw[wv ω]at h;have Y:=u _ (F4 (d:=D8) (i:=(c.length:Int)-1) ω ω);have V:(c.getD (Int.toNat 0) D8).1=(gx D8 c 0).1:=rfl;have W:(c.getD (Int.toNat ((c.length:Int)-1)) D8).1=(gx D8 c ((c.length:Int)-1)).1:=rfl;omega
 have D:(List.replicate n.toNat dQ).length=n.toNat:=rG;rw[D];refine⟨λp=>0<=p.2.1/\p.2.1<=n/\fill n.toNat p.2.1.toNat (λj:Nat=>rc (A5 v (j:Int))) p.2.2.1/\V2 p.1/\(∀e∈p.1,p.2.1<=e.1)/\∀j,p.2.1<=j->A5 p.1 j=A5 v j,λp=>(n-p.2.1).toNat,⟨qG _,I,eU D,l,λe a=>(u e a).1,λj _=>t j⟩,?_⟩;rintro⟨(d:List D5),(i:Int),(out:List C7),_⟩ _ ⟨k,R,g,f,w,o⟩;simp only at k R g f w o|-;refine⟨λh=>?_,λh=>?_⟩
 . have h:=qA h;have Z:=g.1;have A:=o i (qG _);refine⟨λp=>fill n.toNat (i+1).toNat (λj:Nat=>rc (A5 v (j:Int))) p.2.1/\V2 p.1/\(∀e∈p.1,i+1<=e.1)/\∀j,i+1<=j->A5 p.1 j=A5 v j,⟨λh=>⟨qG _,qA h⟩,λb=>?_,λb=>⟨trivial,?_⟩⟩,?_⟩
   . rw[J7]at b;simp only[qC,rU]at b;obtain⟨r,a⟩:=b;cases d with
     |nil=>simp at r
     |cons e d=>
      have a:e.1=i:=a;have N:(1:Int)<=((e::d).length:Int):=by simp only[rK];omega
      rw[A5j];have y:∀z∈d,i+1<=z.1:=λz hz=>by have:=(H8.1 f.1).1 z hz;omega
      refine⟨⟨qG _,r⟩,⟨k,ω⟩,⟨ω,N,qG _⟩,?_,PD f,y,λj M=>?_⟩
      . refine Rp g k ω ?_;show e.2= _;rw[(ω:((i.toNat:Nat):Int)=i), <-A, <-a,N9 f.1];exact(f.2 e (rD ..)).2
      rw[<-o j ω,Aa ω]
   . rintro⟨T,_⟩ _ s;simp only at s|-;have s:T=rc 0:=by rw[s, <-QN];rfl
     have B:∀e∈d,e.1≠i:=λe a hei=>by
      cases d with
      |nil=>cases a
      |cons y d=>
       rw[J7]at b;simp only[wN,rM]at b;rcases b with b|b
       . simp at b
       have b:¬y.1=i:=b;rcases qW.1 a with rfl|a
       . exact b hei
       have:=(H8.1 f.1).1 e a;have:=w y (rD ..);omega
     refine⟨⟨k,ω⟩,?_,f,λe a=>?_,λj M=>o j ω⟩
     . refine Rp g k ω ?_;rw[s,(ω:((i.toNat:Nat):Int)=i), <-A,D4 B]
     have:=w e a;have:=B e a;omega
   rintro⟨U,a2,_⟩ _ ⟨E,F,G,H⟩;simp only at E F G H|-;rw[wv ω];exact⟨⟨ω,ω,E,F,G,H⟩,ω⟩
 have h:=qB h;exact⟨Ro g ω,by trivial⟩
def Qz:su S2 Ik:=λx j l=>by
 obtain⟨p,q,f,_⟩:=x;have o:Qi q:=Oq j.2.1;have n:Qi f:=Oq j.2.2.1;change C7 at p q f;obtain⟨c,d,b⟩:sz K1 p/\sz K1 q/\sz K1 f:=l;simp only[Ik,iB,N2,Et];refine⟨trivial,?_⟩;rintro⟨s,_⟩ _ g;simp only at g|-;refine⟨λh=>⟨N1 c δ,?_⟩,λ_=>⟨⟨N1 b δ,N1 d δ⟩,?_⟩⟩
 . rintro⟨r,_⟩ _ a;simp only at a|-;have h:=qA h;rw[g]at h;rw[a,AV h,tA,rH]
 rintro⟨r,_⟩ _ a;simp only at a|-;have k:=Hg (Ek n b δ) (Ek o d δ);refine⟨⟨N1 c δ,by rw[a];exact Cq k δ⟩,?_⟩;rintro⟨t,_⟩ _ i;simp only at i|-;rw[i,a,H6]
def Wm:su N7 Kx:=λx D t=>by
 obtain⟨(b:List D5),(f:C7),(d:List D5),_⟩:=x;obtain⟨⟨c,k,l⟩,s,g,n,o⟩:ED K1 b/\sz K1 f/\ED K1 d:=t;simp only[Kx,N2,UP];refine⟨.inl c,?_⟩;rintro⟨r,_⟩ _ ⟨a,_⟩;have a:r=b:=a c;simp only;subst a;refine⟨.inl g,?_⟩;rintro⟨z,_⟩ _ ⟨h,_⟩;have h:z=d:=h g;simp only;subst h;refine⟨λy=>sz K1 y.1/\sz K1 y.2.1,λy=>rc (rv y.1+rv f*rv y.2.1),?_,⟨l,o,λA B i j=>⟨lC k i,lC n j⟩⟩,?_⟩
 . rintro⟨A,B,_⟩ _ ⟨i,j⟩;exact⟨⟨i,j,s⟩,λE _ u=>⟨by trivial,u⟩⟩
 rintro⟨r,_⟩ _ a;simp only at a|-;rw[a];obtain⟨v,_,w⟩:=Zu (λy=>rc (rv y.1+rv f*rv y.2.1)) (λp q=>p+rv f*q) (by rw[tA,rH]) _ _ (λ_ _ _ _=>rfl) c g;exact⟨v,w⟩
end Go.Proofs.YtdbnghliccifcaaGreat
