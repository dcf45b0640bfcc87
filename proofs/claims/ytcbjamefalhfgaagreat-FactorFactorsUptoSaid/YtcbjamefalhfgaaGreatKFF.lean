/- Part. -/
import Derived.Test.YtcbjamefalhfgaaGreatRows
import Derived.Test.YtcbjamefalhfgaaGreatKFE
set_option linter.all false
namespace Go.Proofs.YtcbjamefalhfgaaGreat
open Go.Proofs.Tryz
open Go.Vc Go.Gw
open Go.IntKind (i64 u64 u32)
abbrev R8 (a:Int):Prop:=i64.min<=a/\a<=i64.max
abbrev KS (a:Int):Prop:=u64.min<=a/\a<=u64.max
abbrev Ia (l:Wf):Prop:=List.length l<=(9223372036854775807:Nat)/\∀(x:Int),x∈l->u32.min<=x/\x<=u32.max
abbrev WX (l:Wf):Prop:=List.length l<=(9223372036854775807:Nat)/\∀(x:Int),x∈l->i64.min<=x/\x<=i64.max
abbrev oA (z:Bool×Wf):Prop:=True/\Ia z.2
abbrev OZ (q:(Bool×Wf)×Wf):Prop:=oA q.1/\Ia q.2
abbrev WfE (e:Int×(Bool×Wf)×Wf):Prop:=R8 e.1/\oA e.2.1/\Ia e.2.2
abbrev FH (l:List (Int×(Bool×Wf)×Wf)):Prop:=List.length l<=(9223372036854775807:Nat)/\∀(x:Int×(Bool×Wf)×Wf),x∈l->WfE x
abbrev QQ:=(Bool×Wf)×Wf
abbrev EE:=Int×(Bool×Wf)×Wf
abbrev dQ:QQ:=((false,[]),[])
abbrev D7:EE:=((0:Int),(false,[]),[])
abbrev MM:=Int×Int×List (List EE)
abbrev WfL (l:List QQ):Prop:=List.length l<=9223372036854775807/\∀(x:QQ),x∈l->OZ x
abbrev FJ (l:List (List QQ)):Prop:=List.length l<=9223372036854775807/\∀(x:List QQ),x∈l->x.length<=9223372036854775807/\∀(y:QQ),y∈x->OZ y
abbrev Ye (l:List (List EE)):Prop:=List.length l<=9223372036854775807/\∀(x:List EE),x∈l->x.length<=9223372036854775807/\∀(y:EE),y∈x->WfE y
abbrev WfM (m:MM):Prop:=R8 m.1/\R8 m.2.1/\Ye m.2.2
abbrev tQ:Ty:=(.pair (.pair .bool (.sl (.int .u32))) (.sl (.int .u32)))
abbrev tE:Ty:=(.pair (.int .i64) tQ)
abbrev tM:Ty:=(.pair (.int .i64) (.pair (.int .i64) (.sl (.sl tE))))
def tys:List (Nat×TI):= [(2,{ty:=(.int .i64),agg:=false}),
 (3,{ty:=(.int .i64),agg:=false}),
 (4,{ty:= .bool,agg:=false}),
 (5,{ty:=(.int .u8),agg:=false}),
 (9,{ty:= .str,agg:=false}),
 (22,{ty:=(.sl (.int .i64)),agg:=false,elem:=3,bytes:=8}),
 (23,{ty:=(.sl (.sl tE)),agg:=false,elem:=61,bytes:=24}),
 (25,{ty:=tM,agg:=true,fields:= [(0,1,false),(1,1,false),(2,1,false)]}),
 (27,{ty:=(.pair (.sl (.int .i64)) (.pair (.sl (.int .i64)) (.pair tM tM))),agg:=true,fields:= [(0,1,false),(1,1,false),(2,3,true),(5,3,true)]}),
 (28,{ty:=(.sl tQ),agg:=false,elem:=46,bytes:=56}),
 (42,{ty:=(.sl (.int .u32)),agg:=false,elem:=118,bytes:=4}),
 (44,{ty:=(.pair .bool (.sl (.int .u32))),agg:=true,fields:= [(0,1,false),(1,1,false)]}),
 (46,{ty:=tQ,agg:=true,fields:= [(0,2,true),(2,1,false)]}),
 (53,{ty:=(.sl (.sl tQ)),agg:=false,elem:=28,bytes:=24}),
 (59,{ty:=(.pair (.sl (.int .i64)) (.int .i64)),agg:=true,fields:= [(0,1,false),(1,1,false)]}),
 (61,{ty:=(.sl tE),agg:=false,elem:=75,bytes:=64}),
 (66,{ty:=(.ptr (.pair (.sl (.sl tE)) (.pair (.sl (.sl tE)) (.pair (.sl (.mp false (.int .i64) false .bool)) (.sl (.int .i64)))))),agg:=false}),
 (71,{ty:=(.sl (.mp false (.int .i64) false .bool)),agg:=false,elem:=112,bytes:=8}),
 (73,{ty:=(.pair (.sl (.sl tE)) (.pair (.sl (.sl tE)) (.pair (.sl (.mp false (.int .i64) false .bool)) (.sl (.int .i64))))),agg:=true,fields:= [(0,1,false),(1,1,false),(2,1,false),(3,1,false)]}),
 (75,{ty:=tE,agg:=true,fields:= [(0,1,false),(1,3,true)]}),
 (112,{ty:=(.mp false (.int .i64) false .bool),agg:=false,elem:=4,key:=3}),
 (118,{ty:=(.int .u32),agg:=false}),
 (121,{ty:=(.sl (.sl (.int .i64))),agg:=false,elem:=22,bytes:=24}),
 (123,{ty:=(.mp false (.int .i64) false (.sl tE)),agg:=false,elem:=61,key:=3}),
 (130,{ty:=(.int .u64),agg:=false}),
 (148,{ty:=(.sl .bool),agg:=false,elem:=4,bytes:=1}),
 (151,{ty:=(.int .u64),agg:=false}),
 (157,{ty:=(.mp false (.int .i64) false (.sl (.int .i64))),agg:=false,elem:=22,key:=3}),
 (179,{ty:=(.mp false (.int .i64) true tQ),agg:=false,elem:=46,key:=3}),
 (190,{ty:=(.pair (.int .u64) (.pair (.int .u64) (.pair (.int .u64) (.pair (.int .u64) .bool)))),agg:=true,fields:= [(0,1,false),(1,1,false),(2,1,false),(3,1,false),(4,1,false)]})]
def A7:H4 prog tys=true:=by kernel_rfl
def nS:List (Nat×TI):= [(2,{ty:=(.int .i64),agg:=false}),
 (3,{ty:=(.int .i64),agg:=false}),
 (4,{ty:= .bool,agg:=false}),
 (5,{ty:=(.int .u8),agg:=false}),
 (9,{ty:= .str,agg:=false}),
 (22,{ty:=(.sl (.int .i64)),agg:=false,elem:=3,bytes:=8}),
 (23,{ty:=(.sl (.sl tE)),agg:=false,elem:=61,bytes:=24,rows:=true}),
 (25,{ty:=tM,agg:=true,fields:= [(0,1,false),(1,1,false),(2,1,false)]}),
 (27,{ty:=(.pair (.sl (.int .i64)) (.pair (.sl (.int .i64)) (.pair tM tM))),agg:=true,fields:= [(0,1,false),(1,1,false),(2,3,true),(5,3,true)]}),
 (28,{ty:=(.sl tQ),agg:=false,elem:=46,bytes:=56}),
 (42,{ty:=(.sl (.int .u32)),agg:=false,elem:=118,bytes:=4}),
 (44,{ty:=(.pair .bool (.sl (.int .u32))),agg:=true,fields:= [(0,1,false),(1,1,false)]}),
 (46,{ty:=tQ,agg:=true,fields:= [(0,2,true),(2,1,false)]}),
 (53,{ty:=(.sl (.sl tQ)),agg:=false,elem:=28,bytes:=24,rows:=true}),
 (59,{ty:=(.pair (.sl (.int .i64)) (.int .i64)),agg:=true,fields:= [(0,1,false),(1,1,false)]}),
 (61,{ty:=(.sl tE),agg:=false,elem:=75,bytes:=64}),
 (66,{ty:=(.ptr (.pair (.sl (.sl tE)) (.pair (.sl (.sl tE)) (.pair (.sl (.mp false (.int .i64) false .bool)) (.sl (.int .i64)))))),agg:=false}),
 (71,{ty:=(.sl (.mp false (.int .i64) false .bool)),agg:=false,elem:=112,bytes:=8}),
 (73,{ty:=(.pair (.sl (.sl tE)) (.pair (.sl (.sl tE)) (.pair (.sl (.mp false (.int .i64) false .bool)) (.sl (.int .i64))))),agg:=true,fields:= [(0,1,false),(1,1,false),(2,1,false),(3,1,false)]}),
 (75,{ty:=tE,agg:=true,fields:= [(0,1,false),(1,3,true)]}),
 (112,{ty:=(.mp false (.int .i64) false .bool),agg:=false,elem:=4,key:=3}),
 (118,{ty:=(.int .u32),agg:=false}),
 (121,{ty:=(.sl (.sl (.int .i64))),agg:=false,elem:=22,bytes:=24}),
 (123,{ty:=(.mp false (.int .i64) false (.sl tE)),agg:=false,elem:=61,key:=3}),
 (130,{ty:=(.int .u64),agg:=false}),
 (148,{ty:=(.sl .bool),agg:=false,elem:=4,bytes:=1}),
 (151,{ty:=(.int .u64),agg:=false}),
 (157,{ty:=(.mp false (.int .i64) false (.sl (.int .i64))),agg:=false,elem:=22,key:=3,rows:=true}),
 (179,{ty:=(.mp false (.int .i64) true tQ),agg:=false,elem:=46,key:=3}),
 (190,{ty:=(.pair (.int .u64) (.pair (.int .u64) (.pair (.int .u64) (.pair (.int .u64) .bool)))),agg:=true,fields:= [(0,1,false),(1,1,false),(2,1,false),(3,1,false),(4,1,false)]})]
def Jm:H4 prog nS=true:=by kernel_rfl
def VP:List (Nat×TI):= [(2,{ty:=(.int .i64),agg:=false}),
 (3,{ty:=(.int .i64),agg:=false}),
 (4,{ty:= .bool,agg:=false}),
 (5,{ty:=(.int .u8),agg:=false}),
 (9,{ty:= .str,agg:=false}),
 (22,{ty:=(.sl (.int .i64)),agg:=false,elem:=3,bytes:=8}),
 (23,{ty:=(.sl (.sl tE)),agg:=false,elem:=61,bytes:=24,nest:= [14]}),
 (25,{ty:=tM,agg:=true,fields:= [(0,1,false),(1,1,false),(2,1,false)]}),
 (27,{ty:=(.pair (.sl (.int .i64)) (.pair (.sl (.int .i64)) (.pair tM tM))),agg:=true,fields:= [(0,1,false),(1,1,false),(2,3,true),(5,3,true)]}),
 (28,{ty:=(.sl tQ),agg:=false,elem:=46,bytes:=56}),
 (42,{ty:=(.sl (.int .u32)),agg:=false,elem:=118,bytes:=4}),
 (44,{ty:=(.pair .bool (.sl (.int .u32))),agg:=true,fields:= [(0,1,false),(1,1,false)]}),
 (46,{ty:=tQ,agg:=true,fields:= [(0,2,true),(2,1,false)]}),
 (53,{ty:=(.sl (.sl tQ)),agg:=false,elem:=28,bytes:=24}),
 (59,{ty:=(.pair (.sl (.int .i64)) (.int .i64)),agg:=true,fields:= [(0,1,false),(1,1,false)]}),
 (61,{ty:=(.sl tE),agg:=false,elem:=75,bytes:=64}),
 (66,{ty:=(.ptr (.pair (.sl (.sl tE)) (.pair (.sl (.sl tE)) (.pair (.sl (.mp false (.int .i64) false .bool)) (.sl (.int .i64)))))),agg:=false}),
 (71,{ty:=(.sl (.mp false (.int .i64) false .bool)),agg:=false,elem:=112,bytes:=8,nest:= [17]}),
 (73,{ty:=(.pair (.sl (.sl tE)) (.pair (.sl (.sl tE)) (.pair (.sl (.mp false (.int .i64) false .bool)) (.sl (.int .i64))))),agg:=true,fields:= [(0,1,false),(1,1,false),(2,1,false),(3,1,false)]}),
 (75,{ty:=tE,agg:=true,fields:= [(0,1,false),(1,3,true)]}),
 (112,{ty:=(.mp false (.int .i64) false .bool),agg:=false,elem:=4,key:=3,nest:= [44,66]}),
 (118,{ty:=(.int .u32),agg:=false}),
 (121,{ty:=(.sl (.sl (.int .i64))),agg:=false,elem:=22,bytes:=24}),
 (123,{ty:=(.mp false (.int .i64) false (.sl tE)),agg:=false,elem:=61,key:=3}),
 (130,{ty:=(.int .u64),agg:=false}),
 (148,{ty:=(.sl .bool),agg:=false,elem:=4,bytes:=1}),
 (151,{ty:=(.int .u64),agg:=false}),
 (157,{ty:=(.mp false (.int .i64) false (.sl (.int .i64))),agg:=false,elem:=22,key:=3}),
 (179,{ty:=(.mp false (.int .i64) true tQ),agg:=false,elem:=46,key:=3}),
 (190,{ty:=(.pair (.int .u64) (.pair (.int .u64) (.pair (.int .u64) (.pair (.int .u64) .bool)))),agg:=true,fields:= [(0,1,false),(1,1,false),(2,1,false),(3,1,false),(4,1,false)]})]
def FF:H4 prog VP=true:=by kernel_rfl
abbrev W7 (a:List AM) (r:List RT) (p:A5 a->Prop) (q:A5 a->Br r->Prop):A9:= {args:=a,res:=r,shared:=true,pre:=p,post:=q}
abbrev mkM (a:List AM) (r:List RT) (p:A5 a->Prop) (q:A5 a->Br r->Prop) (m:A5 a->Br r->Ox a->Prop):A9:= {args:=a,res:=r,shared:=true,pre:=p,post:=q,mpost:=m}
abbrev I9:=QQ×QQ×Unit
abbrev D1:=QQ×Unit
abbrev sq (s:A9) (v:A5 s.args->Prop):Prop:=∀x,awf s.args x->s.pre x->v x
abbrev qb:Ty:=.int .i64
abbrev qd:Ty:=.sl tE
abbrev qe:Ty:=.mp false qb false .bool
abbrev qg:Ty:=.int .u32
abbrev qa:Ty:=.sl qg
abbrev qc:Ty:=.pair .bool qa
abbrev qh:Ty:=.sl qb
abbrev qf:Ty:=.pair qh (.pair qh (.pair tM tM))
abbrev qi:Ty:=.int .u64
abbrev qj:Ty:=.sl tQ
abbrev qk:Ty:=.pair qh qb
abbrev ql:Ty:=.sl qd
abbrev qm:List RT:=[.val false .bool]
abbrev qn:List RT:=[.val true tQ]
abbrev qo:List RT:=[.val false qb]
abbrev qp:List RT:=[.val true qc]
abbrev qq:List AM:=[.val false qa, .val false qa]
abbrev qr:List AM:=[.val true tQ, .val true tQ]
abbrev qt:List AM:=[.val true tM]
abbrev qu:List RT:=[.val false qa]
abbrev qv:List AM:=[.val true tQ]
abbrev qw:List AM:=[.val true qc, .val true qc]
abbrev qx:List AM:=[.val false qa]
abbrev qy:List AM:=[.val false qb]
abbrev qz:List AM:=[.val true qc]
abbrev rb:List RT:=[.val true tM]
abbrev re:List AM:=[.val false qb, .val false qb]
abbrev rf:List AM:=[.val false qd, .val false qb]
abbrev rh:List RT:=[.val false qd]
abbrev rj:List AM:=[.val true tM, .val true tM]
abbrev rk:List AM:=[.val false qd]
abbrev rn:List AM:=[.val false qh]
abbrev ro:List RT:=[.val false qa, .val false .bool]
abbrev rp:List AM:=[.val false qa, .val false qb]
abbrev rq:List RT:=[.val false qi]
abbrev rr:List RT:=[.val true tM, .val false qb]
abbrev rt:List RT:=[.val true tQ, .val false .bool]
abbrev rx:List AM:=[.val false (.sl qj), .val false qb]
abbrev ry:List AM:=[.val false .bool, .val false qa]
abbrev rz:List RT:=[.val false qa, .val false qa, .val false .bool]
abbrev sc:List RT:=[.val false qa, .val false qa]
abbrev sd:List AM:=[.val false qd, .val false qd]
abbrev se:List AM:=[.val false qh, .fn [(false,qb)] false .bool]
abbrev sf:List AM:=[.val false qh, .val false qb]
abbrev si:List RT:=[.val false qh, .val false qb]
abbrev sj:List RT:=[.val false qi, .val false .bool]
abbrev sk:List AM:=[.val true qf, .val false qb]
abbrev sm:List AM:=[.val true qf, .val false qj]
abbrev sn:List AM:=[.val true tM, .val true qf]
abbrev so (a:List AM) (r:List RT) (p:A5 a->Prop) (q:A5 a->Br r->Prop):A9:={args:=a,res:=r,pre:=p,post:=q}
def Lz:A9:=W7 qr qn (fun(x:I9)=>H3 x.1/\H3 x.2.1) (fun(x:I9) (r:D1)=>r.1=rc (rv x.1+rv x.2.1))
abbrev D3:=Int×Unit
def Ck:A9:=W7 qy qn (fun(x:D3)=>True) (fun(x:D3) (r:D1)=>r.1=ri x.1)
def Q9:A9:=Ck
abbrev K2:=Bool×Unit
def Ka:A9:=so qr qm (fun(x:I9)=>True) (fun(x:I9) (r:K2)=>r.1=decide (x.1=x.2.1))
abbrev nR:=QQ×Bool×Unit
def Ar:A9:=W7 qr rt (fun(x:I9)=>H3 x.1/\H3 x.2.1) (fun(x:I9) (r:nR)=>(rv x.2.1=0->r.2.1=false)/\(rv x.2.1≠0->r.1=rc (rv x.1/rv x.2.1)/\r.2.1=true))
def Bz:A9:=so qv qm (fun(x:D1)=>H3 x.1) (fun(x:D1) (r:K2)=>r.1=decide (x.1=rc (rv x.1)))
def Nl:A9:=W7 qv qn (fun(x:D1)=>H3 x.1) (fun(x:D1) (r:D1)=>r.1=rc (rv x.1))
def Nq:A9:=W7 [] qn (fun(x:Unit)=>True) (fun(x:Unit) (r:D1)=>r.1=rc 0)
abbrev jZ:=(Bool×Wf)×(Bool×Wf)×Unit
def Nk:A9:=W7 qw qn (fun(x:jZ)=>Fu x.1.2/\Fu x.2.1.2) (fun(x:jZ) (r:D1)=>r.1=rc (Ll x.1 x.2.1))
abbrev KQ:=(Bool×Wf)×Unit
def Tg:A9:=W7 qw qp (fun(x:jZ)=>N2 x.1.2/\N2 x.2.1.2) (fun(x:jZ) (r:KQ)=>r.1=ic (iv x.1+iv x.2.1))
def Tj:A9:=W7 qw qp (fun(x:jZ)=>N2 x.1.2/\N2 x.2.1.2) (fun(x:jZ) (r:KQ)=>r.1=ic (iv x.1*iv x.2.1))
def Tr:A9:=W7 qv qp (fun(x:D1)=>H3 x.1) (fun(x:D1) (r:KQ)=>r.1=ic ((rv x.1).den:Int))
def Fh:A9:=W7 qy qp (fun(x:D3)=>True) (fun(x:D3) (r:KQ)=>r.1=ic x.1)
abbrev Cw:=Int×Int×Unit
def BN:A9:=W7 re qn (fun(x:Cw)=>True) (fun(x:Cw) (r:D1)=>r.1=rc (Rat.divInt x.1 x.2.1))
def Fi:A9:=so qr qo (fun(x:I9)=>(x.1.1.2.length<=549755813888/\x.1.2.length<=549755813888)/\x.2.1.1.2.length<=549755813888/\x.2.1.2.length<=549755813888) (fun(x:I9) (r:D3)=>r.1=Lk (rv x.1) (rv x.2.1))
def Np:A9:=so qv qo (fun(x:D1)=>H3 x.1) (fun(x:D1) (r:D3)=>r.1=(rv x.1).num.sign)
def Tq:A9:=W7 qr qn (fun(x:I9)=>H3 x.1/\H3 x.2.1) (fun(x:I9) (r:D1)=>r.1=rc (rv x.1-rv x.2.1))
def Tn:A9:=W7 qr qn (fun(x:I9)=>H3 x.1/\H3 x.2.1) (fun(x:I9) (r:D1)=>r.1=rc (rv x.1*rv x.2.1))
def Nm:A9:=W7 qr qn (fun(x:I9)=>H3 x.1/\H3 x.2.1) (fun(x:I9) (r:D1)=>rv x.2.1≠0->r.1=rc (rv x.1/rv x.2.1))
def Au:A9:=W7 qv rt (fun(x:D1)=>H3 x.1) (fun(x:D1) (r:nR)=>(rv x.1=0->r.2.1=false)/\(rv x.1≠0->r.1=rc (rv x.1)⁻¹/\r.2.1=true))
def V9:A9:=Tn
def W0:A9:=W7 qv qn (fun(x:D1)=>H3 x.1) (fun(x:D1) (r:D1)=>r.1=rc (-(rv x.1)))
def X9:A9:=Fh
def Jz:A9:=so qw qm (fun(x:jZ)=>True) (fun(x:jZ) (r:K2)=>r.1=decide (x.1=x.2.1))
abbrev Ej:=Wf×Wf×Unit
def Jy:A9:=so qq qm (fun(x:Ej)=>True) (fun(x:Ej) (r:K2)=>r.1=decide (x.1=x.2.1))
def X1:A9:=so qv qo (fun(x:D1)=>True) (fun(x:D1) (r:D3)=>r.1=(rv x.1).num.sign)
def Dr:A9:=Tq
def Nj:A9:=so qz qo (fun(x:KQ)=>Hz x.1.2) (fun(x:KQ) (r:D3)=>r.1=(iv x.1).sign)
def Ni:A9:=W7 qz qp (fun(x:KQ)=>Hz x.1.2) (fun(x:KQ) (r:KQ)=>r.1=ic (iv x.1))
def Ti:A9:=W7 qw qp (fun(x:jZ)=>Fu x.1.2/\Fu x.2.1.2) (fun(x:jZ) (r:KQ)=>r.1=ic (Nat.gcd (nv x.1.2) (nv x.2.1.2):Int))
def Ht:A9:=W7 qw [.val true qc, .val true qc, .val false .bool] (fun(x:jZ)=>Fu x.1.2/\Fu x.2.1.2) (fun(x:jZ) (r:(Bool×Wf)×(Bool×Wf)×Bool×Unit)=>iv x.2.1≠0->r.1=ic (iv x.1/iv x.2.1)/\r.2.1=ic (iv x.1%iv x.2.1)/\r.2.2.1=true)
def Tk:A9:=W7 qz qp (fun(x:KQ)=>Hz x.1.2) (fun(x:KQ) (r:KQ)=>r.1=ic (-iv x.1))
abbrev C3p:=Bool×Wf×Unit
def Nh:A9:=W7 ry qp (fun(x:C3p)=>Hz x.2.1) (fun(x:C3p) (r:KQ)=>r.1=ic (iv (x.1,x.2.1)))
abbrev Cv:=Wf×Unit
def Ta:A9:=W7 qq qu (fun(x:Ej)=>N2 x.1/\N2 x.2.1) (fun(x:Ej) (r:Cv)=>r.1=nc (nv x.1+nv x.2.1))
abbrev C7r:=Wf×Bool×Unit
def Td:A9:=W7 qq ro (fun(x:Ej)=>N2 x.1/\N2 x.2.1) (fun(x:Ej) (r:C7r)=>(nv x.1<nv x.2.1->r.1= []/\r.2.1=false)/\(nv x.2.1<=nv x.1->r.1=nc (nv x.1-nv x.2.1)/\r.2.1=true))
def Tc:A9:=W7 qq qu (fun(x:Ej)=>N2 x.1/\N2 x.2.1) (fun(x:Ej) (r:Cv)=>r.1=nc (nv x.1*nv x.2.1))
def Ao:A9:=W7 [.val false qi] qu (fun(x:D3)=>True) (fun(x:D3) (r:Cv)=>r.1=nc x.1.toNat)
def Tp:A9:=W0
def Tm:A9:=Ar
def T3:A9:=Nl
def Aq:A9:=Lz
abbrev A3c:=Int×Int×Bool×Unit
def Aw:A9:=so qv [.val false qb, .val false qb, .val false .bool] (fun(x:D1)=>True) (fun(x:D1) (r:A3c)=>(K9 x.1->r.1=Sk x.1/\r.2.1=Ov x.1/\r.2.2.1=true)/\(¬K9 x.1->r.2.2.1=false))
def U4:A9:=W7 re qn (fun(x:Cw)=>0<x.2.1) (fun(x:Cw) (r:D1)=>r.1=rc (mkRat x.1 x.2.1.toNat))
abbrev ty7:=(Bool×Wf)×Wf×Unit
def Av:A9:=W7 qv [.val true qc, .val false qa] (fun(x:D1)=>True) (fun(x:D1) (r:ty7)=>(nv x.1.2=0->r.1=zi/\r.2.1= [1])/\(nv x.1.2≠0->r.1=x.1.1/\r.2.1=x.1.2))
def Y7:A9:=W7 [.val true qc, .val false qa] qn (fun(x:ty7)=>nv x.2.1≠0/\Fu x.1.2/\Fu x.2.1) (fun(x:ty7) (r:D1)=>r.1=rc (mkRat (iv x.1) (nv x.2.1)))
def Ew:A9:=Tj
def Fe:A9:=Tc
def Ex:A9:=Tk
def Aj:A9:=W7 ry qp (fun(x:C3p)=>True) (fun(x:C3p) (r:KQ)=>r.1=(x.1&&decide (x.2.1≠ []),x.2.1))
def S2:A9:=Ao
def X6:A9:=so re qo (fun(x:Cw)=>True) (fun(x:Cw) (r:D3)=>r.1=N4 x.1 x.2.1)
def V8:A9:=so qr qo (fun(x:I9)=>H3 x.1/\H3 x.2.1) (fun(x:I9) (r:D3)=>r.1=Lk (rv x.1) (rv x.2.1))
def Dl:A9:=so qz qo (fun(x:KQ)=>True) (fun(x:KQ) (r:D3)=>r.1=(iv x.1).sign)
def Tb:A9:=W7 qq qu (fun(x:Ej)=>Fu x.1/\Fu x.2.1) (fun(x:Ej) (r:Cv)=>r.1=nc (Nat.gcd (nv x.1) (nv x.2.1)))
abbrev C9v:=Wf×Wf×Bool×Unit
def Hr:A9:=W7 qq rz (fun(x:Ej)=>Fu x.1/\Fu x.2.1) (fun(x:Ej) (r:C9v)=>(nv x.2.1=0->r.2.2.1=false)/\(nv x.2.1≠0->r.1=nc (nv x.1/nv x.2.1)/\r.2.1=nc (nv x.1%nv x.2.1)/\r.2.2.1=true))
def Tf:A9:=W7 qz qp (fun(x:KQ)=>Hz x.1.2) (fun(x:KQ) (r:KQ)=>r.1=ic ((iv x.1).natAbs:Int))
def Tl:A9:=W7 qw qp (fun(x:jZ)=>N2 x.1.2/\N2 x.2.1.2) (fun(x:jZ) (r:KQ)=>r.1=ic (iv x.1-iv x.2.1))
def Ng:A9:=W7 qx qu (fun(x:Cv)=>Hz x.1) (fun(x:Cv) (r:Cv)=>r.1=nc (nv x.1))
def Fg:A9:=so qq qo (fun(x:Ej)=>N2 x.1/\N2 x.2.1) (fun(x:Ej) (r:D3)=>r.1=Dc (nv x.1) (nv x.2.1))
def Y1:A9:=so qq qo (fun(x:Ej)=>True) (fun(x:Ej) (r:D3)=>r.1=Dc (nv x.1) (nv x.2.1))
def Ev:A9:=Tg
abbrev B2z:=Int×Bool×Unit
def Al:A9:=so qx sj (fun(x:Cv)=>True) (fun(x:Cv) (r:B2z)=>(nv x.1<18446744073709551616->r.1=(nv x.1:Int)/\r.2.1=true)/\(18446744073709551616<=nv x.1->r.2.1=false))
def Dk:A9:=Ni
def Dn:A9:=Ng
def Fc:A9:=Tb
def Ak:A9:=W7 qq rz (fun(x:Ej)=>N2 x.1) (fun(x:Ej) (r:C9v)=>(nv x.2.1=0->r.1= []/\r.2.1= []/\r.2.2.1=false)/\(nv x.2.1≠0->r.1=nc (nv x.1/nv x.2.1)/\r.2.1=nc (nv x.1%nv x.2.1)/\r.2.2.1=true))
def Cj:A9:=W7 qx qu (fun(x:Cv)=>True) (fun(x:Cv) (r:Cv)=>r.1=nc (nv x.1))
def Hn:A9:=so [.val false qg] qo (fun(x:D3)=>True) (fun(x:D3) (r:D3)=>r.1=(M8 x.1.toNat:Int))
def Bt:A9:=so qy qm (fun(x:D3)=>True) (fun(x:D3) (r:K2)=>r.1=false)
def U2:A9:=X6
def X8:A9:=so qw qo (fun(x:jZ)=>True) (fun(x:jZ) (r:D3)=>r.1=N4 (iv x.1) (iv x.2.1))
def Hs:A9:=so qx sj (fun(x:Cv)=>Hz x.1) (fun(x:Cv) (r:B2z)=>(nv x.1<18446744073709551616->r.1=(nv x.1:Int)/\r.2.1=true)/\(18446744073709551616<=nv x.1->r.2.1=false))
def Nf:A9:=so qx qo (fun(x:Cv)=>N2 x.1) (fun(x:Cv) (r:D3)=>r.1=(M8 (nv x.1):Int))
abbrev NL:=Wf×Int×Unit
def Te:A9:=so rp [.val false qg] (fun(x:NL)=>0<=x.2.1) (fun(x:NL) (r:D3)=>r.1=((nv x.1/2^x.2.1.toNat%2:Nat):Int))
def Fb:A9:=Ta
def Ff:A9:=Td
def Dp:A9:=so qx rq (fun(x:Cv)=>x.1.length<=2) (fun(x:Cv) (r:D3)=>r.1=(nv x.1:Int))
def Y3:A9:=so qq [.val true (.pair qi (.pair qi (.pair qi (.pair qi .bool))))] (fun(x:Ej)=>N2 x.1/\3<=x.1.length/\Nv x.1/\nv x.2.1<=nv x.1/\x.2.1.length<=x.1.length) (fun(x:Ej) (r:(Int×(Int×(Int×(Int×Bool))))×Unit)=>C6k (nv x.1) (nv x.2.1) r.1.1 r.1.2.1 r.1.2.2.1 r.1.2.2.2.1 r.1.2.2.2.2)
abbrev C9w:=Wf×Int×Wf×Int×Unit
def Y2:A9:=W7 [.val false qa, .val false qi, .val false qa, .val false qi] qu (fun(x:C9w)=>Fu x.1/\Fu x.2.2.1/\nv x.2.2.1*x.2.2.2.1.toNat<=nv x.1*x.2.1.toNat) (fun(x:C9w) (r:Cv)=>r.1=nc (nv x.1*x.2.1.toNat-nv x.2.2.1*x.2.2.2.1.toNat))
def P4:A9:=W7 [.val false qa, .val false qg] sc (fun(x:NL)=>N2 x.1/\x.2.1≠0) (fun(x:NL) (r:Ej)=>r.1=nc (nv x.1/x.2.1.toNat)/\r.2.1=nc (nv x.1%x.2.1.toNat))
def S3:A9:=W7 qq sc (fun(x:Ej)=>N2 x.1/\2<=x.2.1.length/\x.2.1.length<=x.1.length/\Nv x.2.1) (fun(x:Ej) (r:Ej)=>r.1=nc (nv x.1/nv x.2.1)/\r.2.1=nc (nv x.1%nv x.2.1))
def X7:A9:=Bt
def M7:A9:=so [.val false qg] qo (fun(x:D3)=>True) (fun(x:D3) (r:D3)=>r.1=32-(M8 x.1.toNat:Int))
abbrev C9x:=Wf×Int×Int×Unit
def Am:A9:=so [.val false qa, .val false qb, .val false qb] rq (fun(x:C9x)=>3<=x.2.1/\(x.1.length:Int)<=x.2.1/\x.2.1<=17592186044416/\0<=x.2.2.1/\x.2.2.1<=31/\nv x.1*2^x.2.2.1.toNat<4294967296^x.2.1.toNat) (fun(x:C9x) (r:D3)=>r.1=((nv x.1*2^x.2.2.1.toNat/4294967296^(x.2.1.toNat-2):Nat):Int))
def S8:A9:=so rp [.own qg 118] (fun(x:NL)=>N2 x.1/\0<=x.2.1/\x.2.1<=31) (fun(x:NL) (r:Cv)=>r.1.length=x.1.length+1/\nv r.1=nv x.1*2^x.2.1.toNat)
def O2:A9:=W7 rp ro (fun(x:NL)=>N2 x.1) (fun(x:NL) (r:C7r)=>(x.2.1<0->r.1= []/\r.2.1=false)/\(0<=x.2.1->r.1=nc (nv x.1/2^x.2.1.toNat)/\r.2.1=true))
def V7:A9:=so [.val false qb, .val false (.ptr qa)] rq (fun(x:Int×Wf×Unit)=>0<=x.1) (fun(x:Int×Wf×Unit) (r:D3)=>r.1=(if x.1<(x.2.1.length:Int)then x.2.1.getD x.1.toNat 0 else 0))
def pZ9:Nat→Nat→Pl→Pl
 | _,0,k=>k
 |i,n+1,k=> .p i (pZ9 (i+1) n k)
def vI:List Xc:= [.val (.int .i64)]
def vU:List Xc:= [.val (.int .u64)]
def XJ:An:= {loop:= [(2,⟨[0],[],[(3,false,vI)],[],[]⟩)]}
def Yi:An:= {}
def US:An:= {loop:= [(3,⟨[6,7],[],[(3,false,vU),(8,false,vI)],[],[]⟩)]}
def LD:An:= {}
def HZ:An:= {loop:= [(7,⟨[0,1],[],[(5,false,vI)],[],[]⟩)],plan:= [(9,[3,7],[],true, .done),(11,[3,7],[],true, .done)]}
def UR:An:= {}
abbrev Rj:=Wf×Unit
def CV(x:Rj):Prop:=let e:=(1:Int);let c:=(x.1.length:Int);let a:=(0:Int);∃(I:D3->Prop),∃(b: _->Nat),I (c,())/\∀(p:D3),let d:=(i64.wrap (p.1-e),());let f:=(decide (gx a x.1 (i64.wrap (p.1-e))=a));(Ty.int i64).wf p.1/\True->I p->(decide (a<p.1)=true->a<=i64.wrap (p.1-e)/\i64.wrap (p.1-e)<c)/\(iB (F5 (decide (a<p.1)) f false) (I d/\b d<b p) ((a<=a/\a<=p.1/\p.1<=c)/\List.drop a.toNat (List.take p.1.toNat x.1)=nc (nv x.1)))
def R6 (P:Wf×Unit->Prop):Prop:=∀r:Wf×Unit,Ia r.1/\True->P r
def Im(x:D3):Prop:=(0:(Ty.int u64).den)<=(32:Int)/\True/\R6 λr=>r.1=nc (nv [u32.wrap x.1,u32.wrap (Int.fdiv x.1 ((2:Int)^Min.min ((32:Int).toNat) u64.bits))])->r.1=nc x.1.toNat
def Xr(x:Rj):Prop:=let c:=(0:Int);let b:=(x.1.length:Int);∃(I:Cw->Prop),∃(d: _->Nat),I (c,c,())/\∀(p:Cw),let a:=(u64.wrap (↑(BitVec.ofInt u64.bits p.1|||BitVec.ofInt u64.bits (u64.wrap (u64.wrap (gx c x.1 p.2.1)*(2:Int)^Min.min (i64.wrap (32*p.2.1)).toNat u64.bits))).toNat:Int),i64.wrap (p.2.1+1),());(Ty.int u64).wf p.1/\(Ty.int i64).wf p.2.1/\True->I p->(iB (decide (p.2.1<b)) ((c<=p.2.1/\p.2.1<b)/\(0:(Ty.int i64).den)<=i64.wrap (32*p.2.1)/\I a/\d a<d p) (p.1=(↑(nv x.1):Int)))
def rT1 (P:Int×Unit->Prop):Prop:=∀r:Int×Unit,KS r.1/\True->P r
def Qb(x:Rj):Prop:=let a:=(18446744073709551616:Nat);True/\R6 λr=>let b:Prop:=((2:Int)<(r.1.length:Int));r.1=nc (nv x.1)->(iB (decide b) ((nv x.1<a->(0:Int)=(↑(nv x.1):Int)/\false=true)/\(a<=nv x.1->false=false)) (List.length r.1<=2/\rT1 λc=>c.1=(↑(nv r.1):Int)->(nv x.1<a->c.1=(↑(nv x.1):Int)/\true=true)/\(a<=nv x.1->true=false)))
abbrev Gt:=Wf×Wf×Unit
def Oc(x:Gt):Prop:=let i:=(1:Int);let e:=(nv x.1);let d:=(nv x.2.1);let c:=(0:Int);True/\R6 λr=>let a:=(r.1.length:Int);r.1=nc e->True/\R6 λj=>let b:=(j.1.length:Int);j.1=nc d->(iB (decide (a≠b)) ((iB (decide (a<b)) ((-1:Int)=Dc e d) (i=Dc e d))) (∃(I:D3->Prop),∃(g: _->Nat),I (i64.wrap (a-i),())/\∀(p:D3),let k:Prop:=(gx c j.1 p.1<gx c r.1 p.1);let h:Prop:=(gx c r.1 p.1<gx c j.1 p.1);let f:=(i64.wrap (p.1-i),());(Ty.int i64).wf p.1/\True->I p->(iB (decide (c<=p.1)) ((c<=p.1/\p.1<a)/\(c<=p.1/\p.1<b)/\(iB (decide h) ((-1:Int)=Dc e d) ((c<=p.1/\p.1<a)/\(c<=p.1/\p.1<b)/\(iB (decide k) (i=Dc e d) (I f/\g f<g p))))) (c=Dc e d))))
def Xq(x:Rj):Prop:=True/\R6 λr=>let a:=(r.1.length:Int);r.1=nc (nv x.1)->((0:Int)<=a/\a<=a/\(↑(4:Nat):Int)*a<=(281474976710656:Int)/\a<=(9223372036854775807:Int))/\Mg (List.replicate a.toNat (0:Int)) r.1=nc (nv x.1)
def OB:sq Cj CV:=λx k _=>by
 obtain⟨l,_⟩:=x;have t:l.length<=9223372036854775807:=k.1.1;have o:B4 l:=A6 k.1.2;change Wf at l;simp only[CV,iB];refine⟨λp=>0<=p.1/\p.1<=(l.length:Int)/\∀i x,p.1.toNat<=i->l[i]? =some x->x=0,λp=>p.1.toNat,⟨qF _,qH _,λi x j a=>?_⟩,?_⟩
 . rw[rW (by simpa using j)]at a;cases a
 rintro⟨(n:Int),_⟩ _ ⟨c,f,b⟩;simp only at c f b|-;refine⟨λh=>?_,λh=>?_,λh=>?_⟩
 . have h:=qA h;rw[wv ω];exact⟨ω,ω⟩
 . rw[J5]at h;simp only[qC,rR]at h;obtain⟨s,g⟩:=h;rw[wv ω]at g|-;refine⟨⟨ω,ω,λi x j a=>?_⟩,ω⟩;by_cases r:i=(n-1).toNat
   . subst r;rw[H0 (d:=(0:Int)) ω ω]at a;cases a;exact g
   exact b i x ω a
 refine⟨⟨qH _,c,f⟩,?_⟩;show(l.take n.toNat).drop 0= _;rw[uH];refine A9b o ω b ?_;rw[J5]at h;simp only[wS,rM]at h;rcases h with h|h
 . exact .inl ω
 by_cases u:n=0
 . exact .inl ω
 rw[wv ω]at h;refine .inr ⟨gx 0 l (n-1),?_,h⟩;have:=H0 (d:=(0:Int)) (l:=l) (i:=n-1) ω ω;rw[<-this];congr 1;omega
def Ro:sq S2 Im:=λx c _=>by
 obtain⟨(v:Int),_⟩:=x;have b:u64.min<=v/\v<=u64.max:=c.1;rw[nT,FG]at b;simp only[Im,R6];refine⟨δ,trivial,?_⟩;rintro⟨r,_⟩ _ a;simp only at a|-;rw[a];congr 1;rw[show Min.min (Int.toNat 32) u64.bits=32 from rfl];simp only[nv,Cs];rw[sP _ δ,show(2:Int)^32=4294967296 from rfl];omega
def KE:sq Dp Xr:=λx u s=>by
 obtain⟨l,_⟩:=x;have n:B4 l:=A6 u.1.2;have y:l.length<=2:=s;change Wf at l;simp only[Xr,iB];refine⟨λp=>0<=p.2.1/\p.2.1<=(l.length:Int)/\p.1=(nv (l.take p.2.1.toNat):Int),λp=>((l.length:Int)-p.2.1).toNat,⟨qH _,qF _,rfl⟩,?_⟩;rintro⟨(v:Int),(i:Int),_⟩ z ⟨f,o,d⟩;simp only at f o d|-;refine⟨λh=>?_,λh=>?_⟩
 . have h:=qA h;have g:=Vq n f h;have j:=Hd (l:=l.take i.toNat) λx hx=>n x (rU hx)
   rw[rA,tJ ω]at j;have t:=MF f h;rw[wv (a:=32*i) ω,wv (a:=i+1) ω,Y8 g.1 ω];have r:Min.min (32*i).toNat u64.bits=32*i.toNat:=by
    show Min.min (32*i).toNat 64= _;omega
   rw[r];have c:i.toNat=0\/i.toNat=1:=ω
   refine⟨⟨f,h⟩,by show(0:Int)<=32*i;omega,?_⟩;have w:u64.wrap (((BitVec.ofInt 64 v|||BitVec.ofInt 64 (u64.wrap (gx 0 l i*2^(32*i.toNat)))).toNat:Nat):Int)=(nv (l.take (i+1).toNat):Int):=by
    rw[t];generalize gx 0 l i=b at g;rcases c with c|c
    . rw[c]at j|-;have A:v=0:=by rw[d,c];simp[nv]
      rw[Y8 (a:=b*2^(32*0)) ω ω,aR (v:=v) (b:=b) (k:=32*0) ω ω g.1 ω ω,Y8 ω ω];simp[nv];omega
    rw[c]at j|-;rw[c]at d;rw[Y8 (a:=b*2^(32*1)) ω ω,aR (v:=v) (b:=b) (k:=32*1) ω ω g.1 ω ω,Y8 ω ω];omega
   exact⟨⟨ω,ω,w⟩,ω⟩
 have h:=qB h;rw[E6 ω]at d;exact d
def CU:sq Al Qb:=λx f _=>by
 obtain⟨(l:Wf),_⟩:=x;simp only[Qb,iB,R6,rT1];refine⟨trivial,?_⟩;rintro⟨r,_⟩ _ a;simp only at a|-;subst a;refine⟨λh=>?_,λh=>?_⟩
 . have h:=qA h;have:=B7q (k:=2) (n:=nv l) ω;refine⟨λc=>?_,λ_=>trivial⟩;rw[show(4294967296:Nat)^2=18446744073709551616 from rfl]at this;omega
 have h:=qB h;have b:(nc (nv l)).length<=2:=ω
 refine⟨b,?_⟩;rintro⟨r,_⟩ _ a;simp only at a|-;have d:=rI (Ge (nv l)) (rY δ b);rw[F9]at a;refine⟨λ_=>⟨a,trivial⟩,λc=>?_⟩;rw[show(4294967296:Nat)^2=18446744073709551616 from rfl]at d;omega
def Zh:sq Y1 Oc:=λx A _=>by
 obtain⟨(b:Wf),(c:Wf),_⟩:=x;simp only[Oc,iB,R6];refine⟨trivial,?_⟩;rintro⟨r,_⟩ ⟨⟨y,_⟩,_⟩ o;simp only at o y|-;subst o;refine⟨trivial,?_⟩;rintro⟨s,_⟩ ⟨⟨z,_⟩,_⟩ t;simp only at t z|-;subst t;have k:=L5 (nv b);have l:=L5 (nv c);refine⟨λj=>⟨λh=>?_,λh=>?_⟩,λj=>?_⟩
 . have h:=qA h;exact(Pj (EV ω)).symm
 . have h:=qB h;have j:=qA j;exact(WJ (EV ω)).symm
 have n:(nc (nv b)).length=(nc (nv c)).length:=by have:=qB j;omega
 have u:=F9 (nv b);have v:=F9 (nv c);generalize nc (nv b)=r at*;generalize nc (nv c)=s at*;rw[<-u, <-v];refine⟨λp=> -1<=p.1/\p.1<(r.length:Int)/\r.drop (p.1+1).toNat=s.drop (p.1+1).toNat,λp=>(p.1+1).toNat,?_,?_⟩
 . rw[wv ω];refine⟨ω,ω,?_⟩;rw[sF ω,sF ω]
 rintro⟨(i:Int),_⟩ _ ⟨w,d,a⟩;simp only at w d a|-;refine⟨λh=>?_,λh=>?_⟩
 . have h:=qA h;refine⟨⟨h,d⟩,⟨h,ω⟩,λg=>?_,λg=>⟨⟨h,d⟩,⟨h,ω⟩,λf=>?_,λf=>?_⟩⟩
   . exact(Pj (mN k l n h d a (qA g))).symm
   . exact(WJ (mN l k n.symm h ω a.symm (qA f))).symm
   have g:=qB g;have f:=qB f;rw[wv ω];refine⟨⟨ω,ω,?_⟩,ω⟩;rw[(ω:i-1+1=i),X2 h d,X2 h ω,a,(ω:gx 0 r i=gx 0 s i)]
 have h:=qB h;rw[(ω:(i+1).toNat=0),uH,uH]at a;rw[a,iN]
def PW {α:Type} {l:List α} {d:α} :Mg (List.replicate ((l.length:Nat):Int).toNat d) l=l:=by
 unfold Mg;rw[rL,qN,vG,sF (by simp),wB]
def KD:sq Dn Xq:=λx d c=>by
 obtain⟨l,_⟩:=x;have b:B4 l:=A6 d.1.2;have g:l.length<=35184372088832:=c;simp only[Xq,R6];refine⟨trivial,?_⟩;rintro⟨r,_⟩ _ a;simp only at a|-;have f:r.length<=l.length:=by rw[a];exact D6 b
 refine⟨⟨ω,qH _,by simp;omega,ω⟩,?_⟩;rw[PW,a]
def XF:An:= {join:= [(4,⟨[],[],[(0,false,[.val qa]),(1,false,[.val qa])],[],[]⟩),(12,⟨[0,1,5,7,24,25,26],[0],[(6,false,vU)],[],[]⟩)],loop:= [(7,⟨[0,1,5,24,25],[],[(6,false,vU),(26,false,vI)],[],[(0, .row qg 118)]⟩)]}
def XI:An:= {join:= [(12,⟨[1,6,8,22,23,24],[0],[(10,false,vU)],[],[]⟩)],loop:= [(7,⟨[1,6,22,23],[],[(7,false,vU),(24,false,vI)],[],[(0, .row qg 118)]⟩)]}
def XH:An:= {join:= [(18,⟨[1,5,29,30,31],[],[],[],[(0, .row qg 118)]⟩)],loop:= [(11,⟨[1,5,6,7,29,30,31,38,39],[],[(8,false,vU),(40,false,vI)],[],[(0, .row qg 118)]⟩),(6,⟨[1,5,29,30],[],[(31,false,vI)],[],[(0, .row qg 118)]⟩)]}
def Ry:An:= {loop:= [(4,⟨[0,1,4],[],[(6,false,vU),(7,false,vI)],[],[(0, .row qg 118)]⟩)]}
def Yj:An:= {join:= [(15,⟨[0,6,7,8,29,30,31],[0],[(10,false,vU)],[],[]⟩)],loop:= [(10,⟨[0,6,7,29,30],[],[(31,false,vI)],[],[(0, .row qg 118)]⟩)]}
def IC:An:= {loop:= [(4,⟨[0,1,5,13,14],[],[(6,false,vU),(15,false,vI)],[],[(0, .row qg 118)]⟩)]}
abbrev Ub:=Int×Int×Wf×Unit
def CO(x:Gt):Prop:=let f:=(1:Int);let c:=(0:Int);True/\R6 λr=>r.1=nc (nv x.1)->True/\R6 λj=>let e:Prop:=((r.1.length:Int)<(j.1.length:Int));j.1=nc (nv x.2.1)->∃(J:Gt->Prop),((iB (decide e) (J (j.1,r)) (J (r.1,j))))/\∀(p:Gt),let d:=(p.2.1.length:Int);let a:=(p.1.length:Int);(Ty.int u32).sl.wf p.1/\(Ty.int u32).sl.wf p.2.1/\True->J p->(c<=i64.wrap (a+f)/\i64.wrap (a+f)<=i64.wrap (a+f)/\(↑(4:Nat):Int)*i64.wrap (a+f)<=(281474976710656:Int)/\i64.wrap (a+f)<=(9223372036854775807:Int))/\∃(I:Ub->Prop),∃(j: _->Nat),I (c,c,List.replicate (i64.wrap (a+f)).toNat c,())/\∀(i:Ub),let h:=(gx c p.1 i.2.1);let g:=(i.2.2.1.length:Int);(Ty.int u64).wf i.1/\(Ty.int i64).wf i.2.1/\Ia i.2.2.1/\True->I i->(iB (decide (i.2.1<a)) ((c<=i.2.1/\i.2.1<a)/\∃(J:D3->Prop),((iB (decide (i.2.1<d)) ((c<=i.2.1/\i.2.1<d)/\J (u64.wrap (u64.wrap (i.1+u64.wrap h)+u64.wrap (gx c p.2.1 i.2.1)),())) (J (u64.wrap (i.1+u64.wrap h),()))))/\∀(p:D3),let b:=(Int.fdiv p.1 ((2:Int)^Min.min ((32:Int).toNat) u64.bits),i64.wrap (i.2.1+f),List.set i.2.2.1 i.2.1.toNat (u32.wrap p.1),());(Ty.int u64).wf p.1/\True->J p->(c<=i.2.1/\i.2.1<g)/\(0:(Ty.int u64).den)<=(32:Int)/\I b/\j b<j i) ((c<=a/\a<g)/\True/\R6 λr=>r.1=nc (nv (List.set i.2.2.1 a.toNat (u32.wrap i.1)))->r.1=nc (nv x.1+nv x.2.1)))
def Ci (P:Int×Unit->Prop):Prop:=∀r:Int×Unit,R8 r.1/\True->P r
def CS(x:Gt):Prop:=let f:=(nv x.1-nv x.2.1);let c:=(0:Int);True/\R6 λr=>let a:=(r.1.length:Int);r.1=nc (nv x.1)->True/\R6 λg=>let d:=(g.1.length:Int);g.1=nc (nv x.2.1)->True/\Ci λi=>i.1=Dc (nv r.1) (nv g.1)->(iB (decide (i.1<c)) ((nv x.1<nv x.2.1->Ow Int= []/\false=false)/\(nv x.2.1<=nv x.1->Ow Int=nc f/\false=true)) ((c<=a/\a<=a/\(↑(4:Nat):Int)*a<=(281474976710656:Int)/\a<=(9223372036854775807:Int))/\∃(I:Ub->Prop),∃(j: _->Nat),I (c,c,List.replicate a.toNat c,())/\∀(p:Ub),let e:=(u64.wrap (gx c r.1 p.2.1)-p.1);(Ty.int u64).wf p.1/\(Ty.int i64).wf p.2.1/\Ia p.2.2.1/\True->I p->(iB (decide (p.2.1<a)) ((c<=p.2.1/\p.2.1<a)/\∃(J:D3->Prop),((iB (decide (p.2.1<d)) ((c<=p.2.1/\p.2.1<d)/\J (u64.wrap (u64.wrap e-u64.wrap (gx c g.1 p.2.1)),())) (J (u64.wrap e,()))))/\∀(h:D3),let b:=(Int.fdiv h.1 ((2:Int)^Min.min ((63:Int).toNat) u64.bits),i64.wrap (p.2.1+1),List.set p.2.2.1 p.2.1.toNat (u32.wrap h.1),());(Ty.int u64).wf h.1/\True->J h->(c<=p.2.1/\p.2.1<(p.2.2.1.length:Int))/\(0:(Ty.int u64).den)<=(63:Int)/\I b/\j b<j p) (True/\R6 λr=>r.1=nc (nv p.2.2.1)->(nv x.1<nv x.2.1->r.1= []/\true=false)/\(nv x.2.1<=nv x.1->r.1=nc f/\true=true)))))
abbrev bT:=Int×Wf×Unit
def CR(x:Gt):Prop:=let o:=(nv x.1*nv x.2.1);let k:=(0:Int);True/\∀(r:Rj),let j:=(r.1.length:Int);let e:Prop:=(j=k);Ia r.1/\True->r.1=nc (nv x.1)->True/\∀(s:Rj),let h:=(s.1.length:Int);let d:Prop:=(h=k);Ia s.1/\True->s.1=nc (nv x.2.1)->(iB (F5 (decide e) true (decide d)) (Ow Int=nc o) ((k<=i64.wrap (j+h)/\i64.wrap (j+h)<=i64.wrap (j+h)/\(↑(4:Nat):Int)*i64.wrap (j+h)<=(281474976710656:Int)/\i64.wrap (j+h)<=(9223372036854775807:Int))/\∃(I:bT->Prop),∃(a: _->Nat),I (k,List.replicate (i64.wrap (j+h)).toNat k,())/\∀(p:bT),let f:Prop:=(gx k r.1 p.1=k);let c:Prop:=(p.1<j);(Ty.int i64).wf p.1/\Ia p.2.1/\True->I p->(iB (decide c) (∃(J:Rj->Prop),((k<=p.1/\c)/\(iB (decide f) (J (p.2.1,())) (∃(I:Ub->Prop),∃(a: _->Nat),I (k,k,p.2.1,())/\∀(q:Ub),let n:=(q.2.2.1.length:Int);let m:=(i64.wrap (p.1+q.2.1));let g:=(u64.wrap (q.1+u64.wrap (u64.wrap (u64.wrap (gx k r.1 p.1)*u64.wrap (gx k s.1 q.2.1))+u64.wrap (List.getD q.2.2.1 m.toNat k))));let i:=(g.fdiv ((2:Int)^Min.min ((32:Int).toNat) u64.bits),i64.wrap (q.2.1+1),List.set q.2.2.1 m.toNat (u32.wrap g),());let c:Prop:=(q.2.1<h);let b:Prop:=(k<=i64.wrap (p.1+q.2.1)/\i64.wrap (p.1+q.2.1)<n);(Ty.int u64).wf q.1/\(Ty.int i64).wf q.2.1/\Ia q.2.2.1/\True->I q->(iB (decide c) ((k<=q.2.1/\c)/\b/\b/\(0:(Ty.int u64).den)<=(32:Int)/\I i/\a i<a q) ((k<=i64.wrap (p.1+h)/\i64.wrap (p.1+h)<n)/\J (List.set q.2.2.1 (i64.wrap (p.1+h)).toNat (u32.wrap q.1),()))))))/\R6 λq=>let l:=(i64.wrap (p.1+1),q);J q->I l/\a l<a p) (True/\R6 λr=>r.1=nc (nv p.2.1)->r.1=nc o))))
abbrev VO:=Wf×Int×Unit
def Gk(x:VO):Prop:=let e:=(u64.wrap x.2.1);let d:=(0:Int);let c:=(x.1.length:Int);(d<=c/\c<=c/\(↑(4:Nat):Int)*c<=(281474976710656:Int)/\c<=(9223372036854775807:Int))/\∃(I:Ub->Prop),∃(f: _->Nat),I (d,i64.wrap (c-(1:Int)),List.replicate c.toNat d,())/\∀(p:Ub),let a:=(u64.wrap (↑(BitVec.ofInt u64.bits (u64.wrap (p.1*2^Min.min ((32:Int).toNat) u64.bits)) |||BitVec.ofInt u64.bits (u64.wrap (gx d x.1 p.2.1))).toNat:Int));let b:=(a.tmod e,i64.wrap (p.2.1-1),List.set p.2.2.1 p.2.1.toNat (u32.wrap (u64.wrap (a.tdiv e))),());(Ty.int u64).wf p.1/\(Ty.int i64).wf p.2.1/\Ia p.2.2.1/\True->I p->(iB (decide (d<=p.2.1)) ((0:(Ty.int u64).den)<=(32:Int)/\(d<=p.2.1/\p.2.1<c)/\u64.wrap x.2.1≠d/\(d<=p.2.1/\p.2.1<(p.2.2.1.length:Int))/\u64.wrap x.2.1≠d/\I b/\f b<f p) (True/\R6 λr=>r.1=nc (nv p.2.2.1)->True/\R6 λf=>f.1=nc p.1.toNat->r.1=nc (nv x.1/x.2.1.toNat)/\f.1=nc (nv x.1%x.2.1.toNat)))
def Io(x:VO):Prop:=let l:=(1:Int);let j:=(nv x.1/(2:Nat)^x.2.1.toNat);let i:=(32:Int);let h:=(i64.wrap (Int.tdiv x.2.1 i));let g:=(0:Int);(iB (decide (x.2.1<g)) ((x.2.1<g->Ow Int= []/\false=false)/\(g<=x.2.1->Ow Int=nc j/\false=true)) (True/\∀(r:Rj),let e:=(r.1.length:Int);let d:=(↑(List.drop h.toNat (List.take e.toNat r.1)).length:Int);let a:Prop:=(e<=i64.wrap (Int.tdiv x.2.1 i));Ia r.1/\True->r.1=nc (nv x.1)->i≠g/\(iB (decide a) ((x.2.1<g->Ow Int= []/\true=false)/\(g<=x.2.1->Ow Int=nc j/\true=true)) (i≠g/\(g<=i64.wrap (Int.tdiv x.2.1 i)/\i64.wrap (Int.tdiv x.2.1 i)<=e/\e<=e)/\i≠g/\(g<=d/\d<=d/\(↑(4:Nat):Int)*d<=(281474976710656:Int)/\d<=(9223372036854775807:Int))/\∃(I:bT->Prop),∃(c: _->Nat),I (g,List.replicate d.toNat g,())/\∀(p:bT),let k:=(gx g (List.drop h.toNat (List.take e.toNat r.1)) p.1);let b:Prop:=(p.1<d);let a:Prop:=(i64.wrap (p.1+l)<d);(Ty.int i64).wf p.1/\Ia p.2.1/\True->I p->(iB (decide b) ((g<=p.1/\b)/\∃(J:D3->Prop),((iB (decide a) ((g<=i64.wrap (p.1+l)/\a)/\(0:(Ty.int u64).den)<=i/\J (u64.wrap (↑(BitVec.ofInt u64.bits (u64.wrap k) |||BitVec.ofInt u64.bits (u64.wrap (u64.wrap (gx g (List.drop h.toNat (List.take e.toNat r.1)) (i64.wrap (p.1+l)))*(2:Int)^Min.min i.toNat u64.bits))).toNat:Int),())) (J (u64.wrap k,()))))/\∀(m:D3),let f:=(i64.wrap (p.1+l),List.set p.2.1 p.1.toNat (u32.wrap (Int.fdiv m.1 ((2:Int)^Min.min (Int.tmod x.2.1 i).toNat u64.bits))),());(Ty.int u64).wf m.1/\True->J m->(0:(Ty.int i64).den)<=Int.tmod x.2.1 i/\(g<=p.1/\p.1<(p.2.1.length:Int))/\I f/\c f<c p) (True/\R6 λr=>r.1=nc (nv p.2.1)->(x.2.1<g->r.1= []/\true=false)/\(g<=x.2.1->r.1=nc j/\true=true)))))))
def Oh(x:VO):Prop:=let f:=(1:Int);let d:=(0:Int);let b:=(x.1.length:Int);(d<=i64.wrap (b+f)/\i64.wrap (b+f)<=i64.wrap (b+f)/\(↑(4:Nat):Int)*i64.wrap (b+f)<=(281474976710656:Int)/\i64.wrap (b+f)<=(9223372036854775807:Int))/\∃(I:Ub->Prop),∃(h: _->Nat),I (d,d,List.replicate (i64.wrap (b+f)).toNat d,())/\∀(p:Ub),let g:=(p.2.2.1.length:Int);let e:=(List.set p.2.2.1 b.toNat (u32.wrap p.1));let a:=(u64.wrap (↑(BitVec.ofInt u64.bits p.1|||BitVec.ofInt u64.bits (u64.wrap (u64.wrap (gx d x.1 p.2.1)*(2:Int)^Min.min x.2.1.toNat u64.bits))).toNat:Int));let c:=(a.fdiv ((2:Int)^Min.min ((32:Int).toNat) u64.bits),i64.wrap (p.2.1+f),List.set p.2.2.1 p.2.1.toNat (u32.wrap a),());(Ty.int u64).wf p.1/\(Ty.int i64).wf p.2.1/\Ia p.2.2.1/\True->I p->(iB (decide (p.2.1<b)) ((d<=p.2.1/\p.2.1<b)/\(0:(Ty.int i64).den)<=x.2.1/\(d<=p.2.1/\p.2.1<g)/\(0:(Ty.int u64).den)<=(32:Int)/\I c/\h c<h p) ((d<=b/\b<g)/\e.length=x.1.length+(1:Nat)/\nv e=nv x.1*2^x.2.1.toNat))
def A6u (v:Int) (_:0<=v):Int.fdiv v (2^Min.min (Int.toNat 32) u64.bits)=v/4294967296:=by
 rw[show Min.min (Int.toNat 32) u64.bits=32 from rfl,sP _ δ];rfl
def C7k (v:Int) (_:0<=v):Int.fdiv v (2^Min.min (Int.toNat 63) u64.bits)=v/9223372036854775808:=by
 rw[show Min.min (Int.toNat 63) u64.bits=63 from rfl,sP _ δ];rfl
def MV {v b:Int} {k:Nat} (v0:0<=v) (v1:v<2^k) (b0:0<=b) (a:b*2^k<18446744073709551616) (c:v<18446744073709551616):(((BitVec.ofInt 64 (b*2^k) |||BitVec.ofInt 64 v).toNat:Nat):Int)=v+b*2^k:=by
 rw[BitVec.or_comm];exact aR v0 v1 b0 a c
def NX:sq Fb CO:=λx y H=>by
 obtain⟨a,b,_⟩:=x;have F:B4 a:=A6 y.1.2;have G:B4 b:=A6 y.2.1.2;change Wf at a b;obtain⟨R,T⟩:a.length<=17592186044416/\b.length<=17592186044416:=H;have U:=D6 F;have V:=D6 G;simp only[CO,iB,R6];refine⟨trivial,?_⟩;rintro⟨M,_⟩ _ g;refine⟨trivial,?_⟩;rintro⟨W,_⟩ _ w;simp only at g w|-;subst g w;refine⟨λp=>p.2.1.length<=p.1.length/\p.1.length<=17592186044416/\nv p.1+nv p.2.1=nv a+nv b,⟨λh=>?_,λh=>?_⟩,?_⟩
 . have h:=qA h;refine⟨by show(nc (nv a)).length<=(nc (nv b)).length;omega,by show(nc (nv b)).length<= _;omega,?_⟩;show nv (nc (nv b))+nv (nc (nv a))= _;rw[F9,F9,vS]
 . have h:=qB h;refine⟨by show(nc (nv b)).length<=(nc (nv a)).length;omega,by show(nc (nv a)).length<= _;omega,?_⟩;show nv (nc (nv a))+nv (nc (nv b))= _;rw[F9,F9]
 rintro⟨(P:Wf),(Q:Wf),_⟩ ⟨I,J,_⟩ ⟨n,A,o⟩;simp only at n A o|-;have s:B4 P:=A6 I.2;have t:B4 Q:=A6 J.2;rw[wv (a:=(P.length:Int)+1) ω];refine⟨⟨ω,qH _,by simp;omega,ω⟩,?_⟩;refine⟨λp=>0<=p.2.1/\p.2.1<=(P.length:Int)/\0<=p.1/\p.1<=1/\p.2.2.1.length=P.length+1/\nv (p.2.2.1.take p.2.1.toNat)+4294967296^p.2.1.toNat*p.1.toNat=nv (P.take p.2.1.toNat)+nv (Q.take p.2.1.toNat),λp=>((P.length:Int)-p.2.1).toNat,⟨qH _,qF _,qH _,by show(0:Int)<=1;omega,by rw[rL];omega,by simp[nv]⟩,?_⟩;rintro⟨(f:Int),(i:Int),(out:Wf),_⟩ ⟨_,_,O,_⟩ ⟨d,B,D,E,r,j⟩;simp only at d B D E r j|-;have N:=O5 s i.toNat;have dQ:=O5 t i.toNat;refine⟨λk=>?_,λk=>?_⟩
 . have h:i<(P.length:Int):=qA k;rw[Gb s d h,Y8 (a:=(dg P i.toNat:Int)) ω ω,Y8 (a:=f+(dg P i.toNat:Int)) ω ω];refine⟨⟨d,h⟩,λp=>p.1=f+(dg P i.toNat:Int)+(dg Q i.toNat:Int),⟨λc=>?_,λc=>?_⟩,?_⟩
   . have c:=qA c;refine⟨⟨d,c⟩,?_⟩;show u64.wrap _= _;rw[Gb t d c,Y8 (a:=(dg Q i.toNat:Int)) ω ω,Y8 ω ω]
   . have c:=qB c;show f+(dg P i.toNat:Int)= _;rw[Qr (l:=Q) ω];omega
   rintro⟨(z:Int),_⟩ _ u;simp only at u|-;subst u;refine⟨⟨d,ω⟩,δ,?_⟩;rw[A6u _ ω,wv ω,Cs];refine⟨⟨ω,ω,ω,ω,by rw[qP];exact r,?_⟩,ω⟩;rw[(ω:(i+1).toNat=i.toNat+1),U8 ω,J9 P,J9 Q,sD];exact iT j ω
 have h:=qB k;refine⟨⟨ω,ω⟩,trivial,?_⟩;rintro⟨M,_⟩ _ g;simp only at g|-;rw[g];congr 1;rw[(ω:i.toNat=P.length),qU (qT P.length),qU n]at j;rw[qN,w32 ω ω];have e:=U8 (l:=out) (i:=P.length) (v:=f) ω;rw[qU (by rw[qP];omega)]at e;rw[e,j,o]
def OA:sq Ff CS:=λx F O=>by
 obtain⟨a,d,_⟩:=x;have I:B4 a:=A6 F.1.2;have J:B4 d:=A6 F.2.1.2;change Wf at a d;obtain⟨Y,Z⟩:a.length<=17592186044416/\d.length<=17592186044416:=O;have T:=D6 I;have a0:=D6 J;simp only[CS,iB,R6,Ci];refine⟨trivial,?_⟩;rintro⟨r,_⟩ _ c;refine⟨trivial,?_⟩;rintro⟨s,_⟩ _ g;refine⟨trivial,?_⟩;rintro⟨w,_⟩ _ k;simp only at c g k|-;rw[c,g,F9,F9]at k;subst k;refine⟨λh=>?_,λh=>?_⟩
 . have h:=qA h;refine⟨λ_=>⟨by trivial,by trivial⟩,λv=>?_⟩;unfold Dc at h;rw[qG ω]at h;split at h<;>omega
 have h:=qB h;have v:nv d<=nv a:=by
  rcases sI (nv a) (nv d)with j|j
  . rw[Pj j]at h;omega
  exact j
 have A:B4 r:=c▸L5 _;have D:B4 s:=g▸L5 _;have B:nv r=nv a:=by rw[c,F9]
 have E:nv s=nv d:=by rw[g,F9]
 have X:r.length<=a.length:=by rw[c];exact T
 have Q:s.length<=r.length:=by rw[c,g];exact K7 v
 rw[<-B, <-E]at v|-;clear c g B E;refine⟨⟨ω,qH _,by simp;omega,ω⟩,?_⟩;refine⟨λp=>0<=p.2.1/\p.2.1<=(r.length:Int)/\0<=p.1/\p.1<=1/\p.2.2.1.length=r.length/\nv (r.take p.2.1.toNat)+4294967296^p.2.1.toNat*p.1.toNat=nv (p.2.2.1.take p.2.1.toNat)+nv (s.take p.2.1.toNat),λp=>((r.length:Int)-p.2.1).toNat,⟨qH _,qF _,qH _,by show(0:Int)<=1;omega,by simp,by simp[nv]⟩,?_⟩;rintro⟨(o:Int),(i:Int),(out:Wf),_⟩ ⟨_,_,R,_⟩ ⟨f,j,G,H,u,n⟩;simp only at f j G H u n|-;have N:B4 out:=A6 R.2;have U:=O5 A i.toNat;have V:=O5 D i.toNat;refine⟨λt=>?_,λt=>?_⟩
 . have h:i<(r.length:Int):=qA t;rw[Gb A f h,Y8 (a:=(dg r i.toNat:Int)) ω ω];refine⟨⟨f,h⟩,λp=>p.1=((dg r i.toNat:Int)-o-(dg s i.toNat:Int))%18446744073709551616,⟨λb=>?_,λb=>?_⟩,?_⟩
   . have b:=qA b;refine⟨⟨f,b⟩,?_⟩;show u64.wrap _= _;rw[Gb D f b,Y8 (a:=(dg s i.toNat:Int)) ω ω,Ct,Ct];omega
   . have b:=qB b;show u64.wrap _= _;rw[Qr (l:=s) ω,Ct];omega
   rintro⟨(w:Int),_⟩ _ k;simp only at k|-;refine⟨⟨f,ω⟩,δ,?_⟩;rw[C7k _ ω,wv ω,Cs];refine⟨⟨ω,ω,ω,ω,by rw[qP];exact u,?_⟩,ω⟩;rw[(ω:(i+1).toNat=i.toNat+1),U8 ω,J9 r,J9 s,sD];exact ZQ n ω
 have h:=qB t;refine⟨trivial,?_⟩;rintro⟨q,_⟩ _ z;simp only at z|-;refine⟨λW=>ω,λ_=>⟨?_,by trivial⟩⟩;rw[z];congr 1;rw[(ω:i.toNat=r.length),qU (qT _),qU ω,qU Q]at n;have y:nv out<4294967296^out.length:=Hd N;rw[u]at y;have M:o.toNat=0:=IK (P:=4294967296^r.length) (x:=nv out) ω y;rw[M,wV,tD]at n;omega
def NZ:sq Fe CR:=λx T ac=>by
 obtain⟨g,n,_⟩:=x;have a6:B4 g:=A6 T.1.2;have a7:B4 n:=A6 T.2.1.2;change Wf at g n;obtain⟨aj,am⟩:g.length<=17592186044416/\n.length<=17592186044416:=ac;have ae:=D6 a6;have af:=D6 a7;simp only[CR,iB,R6];refine⟨trivial,?_⟩;rintro⟨a,_⟩ _ d;refine⟨trivial,?_⟩;rintro⟨b,_⟩ _ f;simp only at d f|-;have J:B4 a:=d▸L5 _;have N:B4 b:=f▸L5 _;have ai:a.length<=17592186044416:=by rw[d];omega
 have ak:b.length<=17592186044416:=by rw[f];omega
 have X:nv a=nv g:=by rw[d,F9]
 have Y:nv b=nv n:=by rw[f,F9]
 rw[<-X, <-Y];clear d f X Y ae af;refine⟨λh=>?_,λ_=>?_⟩
 . rw[H7]at h;simp only[uD,rR]at h;have:nv a*nv b=0:=by
    rcases h with h|h
    . rw[qR (l:=a) ω];simp[nv]
    rw[qR (l:=b) ω];simp[nv]
   rw[this,R5]
 have a2:i64.wrap ((a.length:Int)+(b.length:Int))=((a.length+b.length:Nat):Int):=by
  rw[wv ω];omega
 rw[a2];refine⟨⟨ω,qH _,by simp;omega,ω⟩,?_⟩;refine⟨λp=>0<=p.1/\p.1<=(a.length:Int)/\p.2.1.length=a.length+b.length/\nv p.2.1=nv (a.take p.1.toNat)*nv b/\∀j,p.1.toNat+b.length<=j->dg p.2.1 j=0,λp=>((a.length:Int)-p.1).toNat,⟨qH _,qF _,by rw[rL,qN],by simp[nv,Sm],λj _=>LU _ _⟩,?_⟩;rintro⟨(i:Int),(out:Wf),_⟩ ⟨_,ah,_⟩ ⟨A,a4,B,t,D⟩;simp only at A a4 B t D|-;refine⟨λz=>?_,λz=>?_⟩
 . have h:i<(a.length:Int):=qA z;have Z:=O5 J i.toNat;rw[Gb J A h];refine⟨λp=>p.1.length=a.length+b.length/\nv p.1=nv (a.take (i.toNat+1))*nv b/\∀j,i.toNat+1+b.length<=j->dg p.1 j=0,⟨⟨A,h⟩,λG=>?_,λG=>?_⟩,?_⟩
   . have G:(dg a i.toNat:Int)=0:=qA G;refine⟨B,?_,λj u=>D j ω⟩;show nv out= _;rw[t,J9,(ω:dg a i.toNat=0),wV,tD]
   . refine⟨λp=>0<=p.2.1/\p.2.1<=(b.length:Int)/\0<=p.1/\p.1<=4294967295/\p.2.2.1.length=a.length+b.length/\nv p.2.2.1+4294967296^(i.toNat+p.2.1.toNat)*p.1.toNat=nv out+4294967296^i.toNat*(dg a i.toNat*nv (b.take p.2.1.toNat))/\∀j,i.toNat+b.length<=j->dg p.2.2.1 j=0,λp=>((b.length:Int)-p.2.1).toNat,⟨qH _,qF _,qH _,by show(0:Int)<=4294967295;omega,B,by simp[nv],D⟩,?_⟩;rintro⟨(c:Int),(j:Int),(o:Wf),_⟩ ⟨_,_,ad,_⟩ ⟨w,a3,H,I,y,r,s⟩;simp only at w a3 H I y r s|-;have O:B4 o:=A6 ad.2;refine⟨λE=>?_,λE=>?_⟩
     . have u:j<(b.length:Int):=qA E;have a0:=O5 N j.toNat;rw[wv (a:=i+j) ω];refine⟨⟨w,u⟩,⟨ω,ω⟩,⟨ω,ω⟩,δ,?_⟩;rw[Gb N w u,Ab O,(ω:(i+j).toNat=i.toNat+j.toNat)];have ag:=O5 O (i.toNat+j.toNat);have aa:dg a i.toNat*dg b j.toNat<=4294967295*4294967295:=vB Z a0;have ab:(dg a i.toNat:Int)*(dg b j.toNat:Int)=((dg a i.toNat*dg b j.toNat:Nat):Int):=(uY _ _).symm;rw[Y8 (a:=(dg a i.toNat:Int)) ω ω,Y8 (a:=(dg b j.toNat:Int)) ω ω,Y8 (a:=(dg o (i.toNat+j.toNat):Int)) ω ω,ab];generalize a5:dg a i.toNat*dg b j.toNat=M at aa;rw[Y8 (a:=(M:Int)) ω ω,Y8 (a:=(M:Int)+(dg o (i.toNat+j.toNat):Int)) ω ω,Y8 ω ω,A6u _ ω,wv ω,Cs];refine⟨⟨ω,ω,ω,ω,by rw[qP];exact y,?_,λq Q=>?_⟩,ω⟩
       . have F:=Kq (l:=o) (k:=i.toNat+j.toNat) (v:=(c+((M:Int)+(dg o (i.toNat+j.toNat):Int)))%4294967296) ω;rw[(ω:(j+1).toNat=j.toNat+1),J9 b, <-uM i.toNat,sD,sZ (dg a i.toNat)];have a1:dg a i.toNat*(4294967296^j.toNat*dg b j.toNat)=4294967296^j.toNat*M:=by rw[<-a5,g0i]
         rw[a1,sZ (4294967296^i.toNat), <-sK (4294967296^i.toNat) (4294967296^j.toNat), <-uN, <-uM (nv out), <-r];generalize 4294967296^(i.toNat+j.toNat)=P at*;have a8:((c+((M:Int)+(dg o (i.toNat+j.toNat):Int)))%4294967296).toNat+4294967296*((c+((M:Int)+(dg o (i.toNat+j.toNat):Int)))/4294967296).toNat=c.toNat+dg o (i.toNat+j.toNat)+M:=ω
         have a9:=sA (P* ·) a8;simp only[sZ, <-sK]at a9;omega
       rw[AH ω,qG ω];exact s q Q
     have u:=qB E;rw[wv (a:=i+(b.length:Int)) ω,w32 H I];refine⟨⟨ω,ω⟩,⟨by show(o.set _ _).length= _;rw[qP];exact y,?_,λq Q=>?_⟩⟩
     . show nv (o.set _ _)= _;have F:=Kq (l:=o) (k:=(i+(b.length:Int)).toNat) (v:=c) ω;rw[s _ ω,wV,tD]at F;rw[F,(ω:(i+(b.length:Int)).toNat=i.toNat+b.length)];rw[(ω:j.toNat=b.length),qU (qT b.length)]at r;rw[r,J9,vA,t,sK]
     show dg (o.set _ _) q=0;rw[AH ω,qG ω];exact s q ω
   rintro⟨o,_⟩ _ ⟨U,V,W⟩;simp only at U V W|-;rw[wv ω,(ω:(i+1).toNat=i.toNat+1)];exact⟨⟨ω,ω,U,V,W⟩,ω⟩
 have h:=qB z;refine⟨trivial,?_⟩;rintro⟨an,_⟩ _ R;simp only at R|-;rw[R,t,qU ω]
def Oe:sq P4 Gk:=λx D P=>by
 obtain⟨l,d,_⟩:=x;have O:B4 l:=A6 D.1.2;change Wf at l;change Int at d;have J:u32.min<=d/\d<=u32.max:=D.2.1;rw[WR,WQ]at J;obtain⟨X,o⟩:l.length<=17592186044416/\d≠0:=P;simp only[Gk,iB,R6];have T:u64.wrap d=d:=Y8 ω ω;rw[T,wv (a:=(l.length:Int)-1) ω];refine⟨⟨ω,qH _,by simp;omega,ω⟩,?_⟩;refine⟨λp=> -1<=p.2.1/\p.2.1<(l.length:Int)/\0<=p.1/\p.1<d/\p.2.2.1.length=l.length/\nv (l.drop (p.2.1+1).toNat)=nv (p.2.2.1.drop (p.2.1+1).toNat)*d.toNat+p.1.toNat,λp=>(p.2.1+1).toNat,⟨by show(-1:Int)<=(l.length:Int)-1;omega,by show(l.length:Int)-1< _;omega,qH _,by show(0:Int)<d;omega,by simp,?_⟩,?_⟩
 . show nv (l.drop ((l.length:Int)-1+1).toNat)=nv ((List.replicate _ 0).drop ((l.length:Int)-1+1).toNat)* _ + _;rw[sF ω,sF (by rw[rL];omega)];simp[nv]
 rintro⟨(c:Int),(i:Int),(q:Wf),_⟩ _ ⟨H,j,s,I,u,g⟩;simp only at H j s I u g|-;refine⟨λr=>?_,λr=>?_⟩
 . have h:0<=i:=qA r;have w:=Vq O h j;have M:=X2 (l:=l) h j;rw[show Min.min (Int.toNat 32) u64.bits=32 from rfl];generalize gx 0 l i=b at*;have E:u64.wrap (c*2^32)=c*2^32:=Y8 ω ω;have F:u64.wrap b=b:=Y8 ω ω;have G:(((BitVec.ofInt u64.bits (c*2^32) |||BitVec.ofInt u64.bits b).toNat:Nat):Int)=b+c*4294967296:=MV (v:=b) (b:=c) (k:=32) w.1 ω s ω ω;rw[E,F,G,Y8 (a:=b+c*4294967296) ω ω,wv (a:=i-1) ω];have t:0<=b+c*4294967296:=ω
   rw[uS t,IntWalk.u64_quo _ _ ⟨t,ω,ω⟩];have y:=g0t t (ω:0<=d);have V:(b+c*4294967296)/d<4294967296:=by
    rw[g2o ω];have:(c+1)*4294967296<=d*4294967296:=sQ ω δ;omega
   have A:=g2u (b+c*4294967296) o;have Q:=zT (b+c*4294967296) (b:=d) ω;have U:=yP (b+c*4294967296) d;rw[w32 y ω];generalize (b+c*4294967296)/d=f at*;generalize (b+c*4294967296)%d=ri at*;refine⟨δ,⟨h,j⟩,o,⟨h,ω⟩,o,⟨ω,ω,A,Q,by rw[qP];exact u,?_⟩,ω⟩;rw[(ω:i-1+1=i),M];have N:(q.set i.toNat f).drop i.toNat=f::q.drop (i+1).toNat:=by
    have n:i.toNat<q.length:=ω
    rw[vX (by rw[qP];exact n),List.getElem_set_self,zF ω,(ω:(i+1).toNat=i.toNat+1)]
   rw[N];simp only[nv];rw[g];have R:(b.toNat:Int)+4294967296*c.toNat=f.toNat*d.toNat+ri.toNat:=by
    rw[tF w.1,tF s,tF y,tF (ω:0<=d),tF A,g2r f];omega
   have W:b.toNat+4294967296*c.toNat=f.toNat*d.toNat+ri.toNat:=by
    have:((b.toNat+4294967296*c.toNat:Nat):Int)=((f.toNat*d.toNat+ri.toNat:Nat):Int):=by
     rw[wO,wO,uY,uY];exact R
    exact g1w this
   rw[sZ, <-sK,vA];omega
 have h:¬0<=i:=qB r;rw[(ω:(i+1).toNat=0),uH,uH]at g;refine⟨trivial,?_⟩;rintro⟨Y,_⟩ _ z;refine⟨trivial,?_⟩;rintro⟨Z,_⟩ _ B;simp only at z B|-;have n:c.toNat<d.toNat:=ω
 rw[sH]at g;rw[z,B,g,g3a,uC n,g2z ω,uO n,tD];exact⟨rfl,rfl⟩
def Zk:sq S8 Oh:=λx F E=>by
 obtain⟨l,s,_⟩:=x;have u:B4 l:=A6 F.1.2;change Wf at l;change Int at s;obtain⟨Q,G,R⟩:l.length<=17592186044416/\0<=s/\s<=31:=E;simp only[Oh,iB];rw[wv (a:=(l.length:Int)+1) ω];refine⟨⟨ω,qH _,by simp;omega,ω⟩,?_⟩;have N:(2:Nat)^s.toNat<=2^31:=rY δ ω;have J:0<(2:Nat)^s.toNat:=tY δ;have d:((2:Int)^s.toNat)=((2^s.toNat:Nat):Int):=by rw[xS];rfl
 refine⟨λp=>0<=p.2.1/\p.2.1<=(l.length:Int)/\0<=p.1/\p.1<2^s.toNat/\p.2.2.1.length=l.length+1/\nv (p.2.2.1.take p.2.1.toNat)+4294967296^p.2.1.toNat*p.1.toNat=nv (l.take p.2.1.toNat)*2^s.toNat,λp=>((l.length:Int)-p.2.1).toNat,⟨qH _,qF _,qH _,by show(0:Int)<2^s.toNat;rw[d];omega,by rw[rL];omega,by simp[nv]⟩,?_⟩;rintro⟨(c:Int),(i:Int),(out:Wf),_⟩ ⟨_,_,O,_⟩ ⟨f,y,t,o,r,g⟩;simp only at f y t o r g|-;have H:c<((2^s.toNat:Nat):Int):=by rw[<-d];exact o
 refine⟨λn=>?_,λn=>?_⟩
 . have j:i<(l.length:Int):=qA n;have dl:=O5 u i.toNat;have D:Min.min (Int.toNat s) u64.bits=s.toNat:=by show Min.min (Int.toNat s) 64= _;omega
   rw[Gb u f j,D,d];have h:(dg l i.toNat:Int)*((2^s.toNat:Nat):Int)=((dg l i.toNat*2^s.toNat:Nat):Int):=(uY _ _).symm;have I:dg l i.toNat*2^s.toNat<=4294967295*2^s.toNat:=rG _ dl;have w:(((BitVec.ofInt u64.bits c|||BitVec.ofInt u64.bits ((dg l i.toNat*2^s.toNat:Nat):Int)).toNat:Nat):Int)=c+((dg l i.toNat*2^s.toNat:Nat):Int):=by
    have:=aR (v:=c) (b:=(dg l i.toNat:Int)) (k:=s.toNat) t o ω (by rw[d,h];omega) ω;rw[d,h]at this;exact this
   rw[Y8 (a:=(dg l i.toNat:Int)) ω ω,h,Y8 (a:=((dg l i.toNat*2^s.toNat:Nat):Int)) ω ω,w,Y8 ω ω,A6u _ ω,wv ω,Cs];generalize z:dg l i.toNat*2^s.toNat=M at*;refine⟨⟨f,j⟩,G,⟨f,ω⟩,δ,⟨ω,ω,ω,?_,by rw[qP];exact r,?_⟩,ω⟩
   . generalize 2^s.toNat=T at*;omega
   rw[(ω:(i+1).toNat=i.toNat+1),U8 ω,J9 l,sD,vA, <-g,sK (4294967296^i.toNat) (dg l i.toNat),z];generalize 4294967296^i.toNat=P at*;have A:((c+(M:Int))%4294967296).toNat+4294967296*((c+(M:Int))/4294967296).toNat=c.toNat+M:=ω
   have B:=sA (P* ·) A;simp only[sZ, <-sK]at B;omega
 have j:¬i<(l.length:Int):=qB n;rw[qN,w32 ω ω];refine⟨⟨ω,ω⟩,by rw[qP];exact r,?_⟩;have e:=U8 (l:=out) (i:=l.length) (v:=c) ω;rw[qU (by rw[qP];omega)]at e;rw[(ω:i.toNat=l.length),qU (qT l.length)]at g;rw[e,g]
def Rp:sq O2 Io:=λx J R=>by
 obtain⟨a,n,_⟩:=x;have Q:B4 a:=A6 J.1.2;have G:=(show i64.min<=n/\n<=i64.max from J.2.1);rw[Vm,EQ]at G;change Wf at a;change Int at n;have a3:a.length<=17592186044416:=R;have V:=D6 Q;have Y: -9223372036854775808<=n/\n<=9223372036854775807:=G;simp only[Io,iB,R6];refine⟨λh=>?_,λh=>⟨trivial,?_⟩⟩
 . have h:=qA h;exact⟨λ_=>⟨by trivial,by trivial⟩,λg=>ω⟩
 have h:=qB h;have z:0<=n:=ω
 rintro⟨r,_⟩ _ o;simp only at o|-;have A:i64.wrap (Int.tdiv n 32)=((n.toNat/32:Nat):Int):=by
  rw[yX z,wv ω];omega
 have B:(Int.tmod n 32).toNat=n.toNat%32:=by rw[uS z];omega
 have N:(0:Int)<=Int.tmod n 32:=zO _ z;have D:n.toNat=32*(n.toNat/32)+n.toNat%32:=ω
 have O:n.toNat%32<=31:=ω
 have E:Min.min (n.toNat%32) u64.bits=n.toNat%32:=by show Min.min (n.toNat%32) 64= _;omega
 rw[A,B,E];have T:nv r=nv a:=by rw[o,F9]
 have I:B4 r:=o▸L5 _;have a0:r.length<=a.length:=by rw[o];exact V
 have u:=jN (l:=r) I (k:=n.toNat/32) (s:=n.toNat%32);rw[<-D,T]at u;clear A B E;refine⟨δ,λg=>?_,λg=>?_⟩
 . have g:=qA g;refine⟨λc=>ω,λ_=>⟨?_,by trivial⟩⟩;rw[u,sF ω,mM,g5d,R5]
 have g:=qB g;rw[u];rw[show(((n.toNat/32:Nat):Int)).toNat=n.toNat/32 from qN _,show((r.length:Int)).toNat=r.length from qN _,qU (qT _)];have f:B4 (r.drop (n.toNat/32)):=λy hy=>I y (vP hy)
 have a1:(r.drop (n.toNat/32)).length<=r.length:=by rw[sW];omega
 refine⟨δ,⟨ω,ω,qH _⟩,δ,⟨ω,qH _,ω,ω⟩,?_⟩;clear u D;generalize r.drop (n.toNat/32)=t at*;generalize n.toNat%32=s at*;have P:nv t/2^s<4294967296^t.length:=xN (xC _ _) (Hd f);refine⟨λp=>0<=p.1/\p.1<=(t.length:Int)/\p.2.1.length=t.length/\nv (p.2.1.take p.1.toNat)=nv t/2^s%4294967296^p.1.toNat,λp=>((t.length:Int)-p.1).toNat,⟨qH _,qF _,by simp,by simp[nv];omega⟩,?_⟩;rintro⟨(i:Int),(out:Wf),_⟩ ⟨_,a2,_⟩ ⟨j,U,M,w⟩;simp only at j U M w|-;have W:=O5 f i.toNat;have X:=O5 f (i.toNat+1);refine⟨λc=>?_,λc=>?_⟩
 . have c:=qA c;rw[wv (a:=i+1) ω];refine⟨⟨j,c⟩,λp=>p.1=((dg t i.toNat+dg t (i.toNat+1)*4294967296:Nat):Int),⟨λd=>?_,λd=>?_⟩,?_⟩
   . have d:=qA d;refine⟨⟨ω,d⟩,δ,?_⟩;show u64.wrap _= _;rw[Gb f j c,Gb f ω d,(ω:(i+1).toNat=i.toNat+1)];rw[show Min.min (Int.toNat 32) u64.bits=32 from rfl];rw[Y8 (a:=(dg t i.toNat:Int)) ω ω,Y8 (a:=(dg t (i.toNat+1):Int)) ω ω,Y8 (a:=(dg t (i.toNat+1):Int)*2^32) ω ω];have:=aR (v:=(dg t i.toNat:Int)) (b:=(dg t (i.toNat+1):Int)) (k:=32) ω ω ω ω ω;rw[show u64.bits=64 from rfl,this,Y8 ω ω];omega
   . have d:=qB d;show u64.wrap _= _;rw[Gb f j c,Y8 ω ω,Qr (i:=i.toNat+1) ω];omega
   rintro⟨a4,_⟩ _ F;simp only at F|-;refine⟨N,⟨j,ω⟩,⟨ω,ω,by rw[qP];exact M,?_⟩,ω⟩;rw[(ω:(i+1).toNat=i.toNat+1),U8 ω,w,sD,Nat.mod_mul,B2n f _ O];congr 2;rw[F,Cs];have:Int.fdiv ((dg t i.toNat+dg t (i.toNat+1)*4294967296:Nat):Int) (2^s)=(((dg t i.toNat+dg t (i.toNat+1)*4294967296)/2^s:Nat):Int):=by
    rw[show((2:Int)^s)=((2^s:Nat):Int)from by rw[xS];rfl,sP _ (qF _)];rfl
   rw[this];generalize (dg t i.toNat+dg t (i.toNat+1)*4294967296)/2^s=Z;omega
 have c:=qB c;refine⟨trivial,?_⟩;rintro⟨q,_⟩ _ H;simp only at H|-;refine⟨λh=>ω,λ_=>⟨?_,by trivial⟩⟩;rw[(ω:i.toNat=t.length),qU ω,uC P]at w;rw[H,w]
def dW:An:= {join:= [(4,⟨[],[],[(0,false,[.val qg]),(2,false,vI)],[],[]⟩),(7,⟨[],[],[(0,false,[.val qg]),(2,false,vI)],[],[]⟩)]}
def Us:An:= {}
def FP:An:= {}
def LE:An:= {plan:= [(2,[],[],true, .done)]}
def IB:An:= {loop:= [(7,⟨[4],[0],[(7,false,vU),(8,false,vU),(9,false,vU),(10,false,vU),(11,false,vU),(12,false,vU),(13,false,vU),(14,false,vU),(15,false,[.val .bool])],[],[]⟩)],plan:= [(9,[],[],true, .done)]}
def IA:An:= {}
def Ea:ByteArray:=ByteArray.mk (([(0:UInt8),1,2,2,3,3,3,3,4,4,4,4,4,4,4,4,5,5,5,5,5,5,5,5,5,5,5,5,5,5,5,5,6,6,6,6,6,6,6,6,6,6,6,6,6,6,6,6,6,6,6,6,6,6,6,6,6,6,6,6,6,6,6,6].append [(7:UInt8),7,7,7,7,7,7,7,7,7,7,7,7,7,7,7,7,7,7,7,7,7,7,7,7,7,7,7,7,7,7,7,7,7,7,7,7,7,7,7,7,7,7,7,7,7,7,7,7,7,7,7,7,7,7,7,7,7,7,7,7,7,7,7]).append ([(8:UInt8),8,8,8,8,8,8,8,8,8,8,8,8,8,8,8,8,8,8,8,8,8,8,8,8,8,8,8,8,8,8,8,8,8,8,8,8,8,8,8,8,8,8,8,8,8,8,8,8,8,8,8,8,8,8,8,8,8,8,8,8,8,8,8].append [(8:UInt8),8,8,8,8,8,8,8,8,8,8,8,8,8,8,8,8,8,8,8,8,8,8,8,8,8,8,8,8,8,8,8,8,8,8,8,8,8,8,8,8,8,8,8,8,8,8,8,8,8,8,8,8,8,8,8,8,8,8,8,8,8,8,8])).toArray
def HL(x:D3):Prop:=∃(J:Cw->Prop),((iB (decide (65536<=x.1)) ((0:(Ty.int u64).den)<=(16:Int)/\J (Int.fdiv x.1 ((2:Int)^Min.min ((16:Int).toNat) u32.bits),(16:Int),())) (J (x.1,(0:Int),()))))/\∀(p:Cw),(Ty.int u32).wf p.1/\(Ty.int i64).wf p.2.1/\True->J p->∃(J:Cw->Prop),((iB (decide (256<=p.1)) ((0:(Ty.int u64).den)<=(8:Int)/\J (Int.fdiv p.1 ((2:Int)^Min.min ((8:Int).toNat) u32.bits),i64.wrap (p.2.1+8),())) (J (p.1,p.2.1,()))))/\∀(p:Cw),(Ty.int u32).wf p.1/\(Ty.int i64).wf p.2.1/\True->J p->((0:Int)<=IntKind.u8.wrap p.1/\IntKind.u8.wrap p.1<(↑(Ea).data.toList.length:Int))/\i64.wrap (p.2.1+i64.wrap (IJ (Ea) (IntKind.u8.wrap p.1)))=(↑(M8 x.1.toNat):Int)
def Hv(x:D3):Prop:=True/\Ci λr=>r.1=(↑(M8 x.1.toNat):Int)->i64.wrap (32-r.1)=(32:Int)-(↑(M8 x.1.toNat):Int)
def Lc(x:bT):Prop:=let c:=(↑x.2.1.length:Int);let b:=(0:Int);let a:=(x.2.1.length:Int);(iB (decide (x.1<a)) ((b<=x.1/\x.1<a)/\u64.wrap (gx b x.2.1 x.1)=if x.1<c then x.2.1.getD x.1.toNat b else b) (b=if x.1<c then x.2.1.getD x.1.toNat b else b))
def Qc(x:Wf×Int×Int×Unit):Prop:=let d:=(32:Int);let c:=(2:Int);let b:=(x.1.length:Int);let a:=(0:Int);a<=i64.wrap (x.2.1-1)/\rT1 λr=>(r.1=if i64.wrap (x.2.1-1)<b then List.getD x.1 (i64.wrap (x.2.1-1)).toNat a else a)->(0:(Ty.int u64).den)<=d/\a<=i64.wrap (x.2.1-c)/\rT1 λe=>(e.1=if i64.wrap (x.2.1-c)<b then List.getD x.1 (i64.wrap (x.2.1-c)).toNat a else a)->(0:(Ty.int i64).den)<=x.2.2.1/\a<=i64.wrap (x.2.1-3)/\rT1 λf=>(f.1=if i64.wrap (x.2.1-3)<b then List.getD x.1 (i64.wrap (x.2.1-3)).toNat a else a)->(0:(Ty.int i64).den)<=i64.wrap (d-x.2.2.1)/\u64.wrap (↑(BitVec.ofInt u64.bits (u64.wrap (u64.wrap (↑(BitVec.ofInt u64.bits (u64.wrap (r.1*c^Min.min d.toNat u64.bits)) |||BitVec.ofInt u64.bits e.1).toNat:Int)*c^Min.min x.2.2.1.toNat u64.bits)) |||BitVec.ofInt u64.bits (Int.fdiv f.1 (c^Min.min (i64.wrap (d-x.2.2.1)).toNat u64.bits))).toNat:Int)=(↑(nv x.1*2^x.2.2.1.toNat/(4294967296:Nat)^(x.2.1.toNat-(2:Nat))):Int)
abbrev D0d:=Int×Int×Int×Int×Int×Int×Int×Int×Bool×Unit
def Og(x:Gt):Prop:=let l:=(17592186044416:Int);let k:=(2:Nat);let j:=(1:Int);let i:=(4294967296:Nat);let g:=(↑(nv x.1):Int);let e:=(↑(nv x.2.1):Int);let d:=(0:Int);let c:=(x.1.length:Int);(d<=i64.wrap (c-j)/\i64.wrap (c-j)<c)/\True/\Ci λr=>r.1=32-(↑(M8 (gx d x.1 (i64.wrap (c-j))).toNat):Int)->((3:Int)<=c/\c<=c/\c<=l/\d<=r.1/\r.1<=31/\nv x.1*k^Int.toNat r.1<i^c.toNat)/\rT1 λm=>m.1=(↑(nv x.1*k^Int.toNat r.1/i^(c.toNat-k)):Int)->((3:Int)<=c/\(x.2.1.length:Int)<=c/\c<=l/\d<=r.1/\r.1<=31/\nv x.2.1*k^Int.toNat r.1<i^c.toNat)/\rT1 λn=>n.1=(↑(nv x.2.1*k^Int.toNat r.1/i^(c.toNat-k)):Int)->∃(I:D0d->Prop),∃(a: _->Nat),I (m.1,n.1,d,j,d,d,d,j,false,())/\∀(p:D0d),let h:=(u64.wrap (Int.tdiv p.1 p.2.1)*p.2.2.2.2.1);let f:=(u64.wrap (Int.tdiv p.1 p.2.1)*p.2.2.2.2.2.2.2.1);let c:Prop:=(p.2.2.2.2.2.2.2.1<=p.2.1);let b:Prop:=(u64.wrap (p.2.2.2.2.2.2.1+p.2.2.2.2.2.2.2.1)<=u64.wrap (p.1-p.2.1));(Ty.int u64).wf p.1/\(Ty.int u64).wf p.2.1/\(Ty.int u64).wf p.2.2.1/\(Ty.int u64).wf p.2.2.2.1/\(Ty.int u64).wf p.2.2.2.2.1/\(Ty.int u64).wf p.2.2.2.2.2.1/\(Ty.int u64).wf p.2.2.2.2.2.2.1/\(Ty.int u64).wf p.2.2.2.2.2.2.2.1/\Ty.bool.wf p.2.2.2.2.2.2.2.2.1/\True->I p->(iB (F5 (decide c) (decide b) false) (p.2.1≠d/\p.2.1≠d/\I (p.2.1,Int.tmod p.1 p.2.1,p.2.2.2.1,p.2.2.2.2.1,u64.wrap (p.2.2.2.1+u64.wrap h),p.2.2.2.2.2.2.1,p.2.2.2.2.2.2.2.1,u64.wrap (p.2.2.2.2.2.2.1+u64.wrap f), !p.2.2.2.2.2.2.2.2.1,())/\a (p.2.1,Int.tmod p.1 p.2.1,p.2.2.2.1,p.2.2.2.2.1,u64.wrap (p.2.2.2.1+u64.wrap h),p.2.2.2.2.2.2.1,p.2.2.2.2.2.2.2.1,u64.wrap (p.2.2.2.2.2.2.1+u64.wrap f), !p.2.2.2.2.2.2.2.2.1,())<a p) (p.2.2.2.2.2.1=d\/∃(A':Int),∃(B':Int),(A'=if p.2.2.2.2.2.2.2.2.1=true then p.2.2.1*g-p.2.2.2.2.2.1*e else p.2.2.2.2.2.1*e-p.2.2.1*g)/\(B'=if p.2.2.2.2.2.2.2.2.1=true then p.2.2.2.2.2.2.1*e-p.2.2.2.1*g else p.2.2.2.1*g-p.2.2.2.2.2.2.1*e)/\d<=B'/\B'<=A'/\g=p.2.2.2.2.2.2.1*A'+p.2.2.2.2.2.1*B'/\e=p.2.2.2.1*A'+p.2.2.1*B'/\j<=p.2.2.2.2.2.1/\j<=p.2.2.2.2.2.2.1/\d<=p.2.2.1/\d<=p.2.2.2.1))
abbrev A7g:=Wf×Bool×Unit
def Od(x:Wf×Int×Wf×Int×Unit):Prop:=True/\R6 λr=>r.1=nc x.2.1.toNat->(N2 x.1/\N2 r.1)/\R6 λa=>a.1=nc (nv x.1*nv r.1)->True/\R6 λr=>r.1=nc x.2.2.2.1.toNat->(N2 x.2.2.1/\N2 r.1)/\R6 λb=>b.1=nc (nv x.2.2.1*nv r.1)->(N2 a.1/\N2 b.1)/\∀(r:A7g),Ia r.1/\True/\True->(nv a.1<nv b.1->r.1= []/\r.2.1=false)/\(nv b.1<=nv a.1->r.1=nc (nv a.1-nv b.1)/\r.2.1=true)->r.1=nc (nv x.1*x.2.1.toNat-nv x.2.2.1*x.2.2.2.1.toNat)
def C7n:∀k:Fin 256,IJ Ea (k.val:Int)=(M8 k.val:Int):=by decide+kernel
def SJ:sq Hn HL:=λx D _=>by
 obtain⟨(v:Int),_⟩:=x;have B:=(show u32.min<=v/\v<=u32.max from D.1);rw[WR,WQ]at B;simp only[HL,iB];have l:Int.fdiv v (2^Min.min (Int.toNat 16) u32.bits)=v/65536:=by
  rw[show Min.min (Int.toNat 16) u32.bits=16 from rfl,sP _ δ];rfl
 rw[l];refine⟨λp=>0<=p.1/\p.1<65536/\0<=p.2.1/\p.2.1<=16/\(M8 v.toNat:Int)=M8 p.1.toNat+p.2.1,⟨λh=>?_,λh=>?_⟩,?_⟩
 . have h:=qA h;have e:=LO (n:=v.toNat) (k:=16) ω;refine⟨δ,by show(0:Int)<=v/65536;omega,by show v/65536<65536;omega,by show(0:Int)<=16;omega,by show(16:Int)<=16;omega,?_⟩;show(M8 v.toNat:Int)=M8 (v/65536).toNat+16;rw[e,(ω:(v/65536).toNat=v.toNat/2^16)];omega
 . have h:=qB h;refine⟨by show(0:Int)<=v;omega,by show v<65536;omega,by show(0:Int)<=0;omega,by show(0:Int)<=16;omega,?_⟩;show(M8 v.toNat:Int)=M8 v.toNat+0;omega
 rintro⟨(w:Int),(n:Int),_⟩ _ ⟨i,t,j,y,c⟩;simp only at i t j y c|-;have o:Int.fdiv w (2^Min.min (Int.toNat 8) u32.bits)=w/256:=by
  rw[show Min.min (Int.toNat 8) u32.bits=8 from rfl,sP _ δ];rfl
 rw[o,wv (a:=n+8) ω];refine⟨λp=>0<=p.1/\p.1<256/\0<=p.2.1/\p.2.1<=24/\(M8 v.toNat:Int)=M8 p.1.toNat+p.2.1,⟨λh=>?_,λh=>?_⟩,?_⟩
 . have h:=qA h;have e:=LO (n:=w.toNat) (k:=8) ω;refine⟨δ,by show(0:Int)<=w/256;omega,by show w/256<256;omega,by show 0<=n+8;omega,by show n+8<=24;omega,?_⟩;show(M8 v.toNat:Int)=M8 (w/256).toNat+(n+8);rw[c,e,(ω:(w/256).toNat=w.toNat/2^8)];omega
 . have h:=qB h;exact⟨i,by show w<256;omega,j,by show n<=24;omega,c⟩
 rintro⟨(u:Int),(m:Int),_⟩ _ ⟨b,f,r,s,g⟩;simp only at b f r s g|-;have E:IntKind.u8.wrap u=u:=IntWalk.u8_in _ ⟨b,ω⟩;have A:(Ea.data.toList.length:Int)=256:=by decide+kernel
 have d:=C7n ⟨u.toNat,ω⟩;simp only at d;rw[(ω:((u.toNat:Nat):Int)=u)]at d;have H:M8 u.toNat<=8:=by
  rcases sI 8 (M8 u.toNat)with h|h
  . have z:u.toNat≠0:=λe=>by rw[e,ED]at h;omega
    have F:=(EC z).1;have G:2^8<=2^(M8 u.toNat-1):=rY δ ω;omega
  exact h
 rw[E,d];refine⟨⟨b,by rw[A];exact f⟩,?_⟩;rw[wv (a:=(M8 u.toNat:Int)) ω,wv ω,g];omega
def XU {v:Nat} (h:v<4294967296):M8 v<=32:=by
 rcases sI 32 (M8 v)with a|a
 . have b:v≠0:=λe=>by rw[e,ED]at a;omega
   have c:=(EC b).1;have b:2^32<=2^(M8 v-1):=rY δ ω;omega
 exact a
def Oz:sq M7 Hv:=λx c _=>by
 obtain⟨(v:Int),_⟩:=x;have b:=(show u32.min<=v/\v<=u32.max from c.1);rw[WR,WQ]at b;simp only[Hv,Ci];refine⟨trivial,?_⟩;rintro⟨r,_⟩ _ a;simp only at a|-;have:=XU (v:=v.toNat) ω;rw[a,wv ω]
def Wx:sq V7 Lc:=λx g f=>by
 obtain⟨i,l,_⟩:=x;have c:B4 l:=A6 g.2.1.2;change Int at i;change Wf at l;have a:0<=i:=f;simp only[Lc,iB];refine⟨λh=>?_,λh=>?_⟩
 . have h:=qA h;have b:=Vq c a h;rw[qK h, <-O8 (d:=(0:Int)) a h,Y8 b.1 ω];exact⟨⟨a,h⟩,rfl⟩
 have h:=qB h;rw[qG h]
def C1p {l:Wf} (h:B4 l) {i:Int} (a:0<=i):(if i<(l.length:Int)then l.getD i.toNat 0 else 0)=(dg l i.toNat:Int):=by
 split
 . exact Ab h
 rw[Qr ω];rfl
def CW:sq Am Qc:=λx V T=>by
 obtain⟨l,n,s,_⟩:=x;have c:B4 l:=A6 V.1.2;change Wf at l;change Int at n s;obtain⟨a8,a7,a9,Z,a0,j⟩:3<=n/\(l.length:Int)<=n/\n<=17592186044416/\0<=s/\s<=31/\nv l*2^s.toNat<4294967296^n.toNat:=T;simp only[Qc,rT1];rw[wv (a:=n-1) ω,wv (a:=n-2) ω,wv (a:=n-3) ω,wv (a:=32-s) ω];refine⟨ω,?_⟩;rintro⟨a,_⟩ _ g;refine⟨δ,ω,?_⟩;rintro⟨b,_⟩ _ h;refine⟨Z,ω,?_⟩;rintro⟨a1,_⟩ _ i;simp only at g h i|-;rw[C1p c ω]at g h i;have y:=O5 c (n-1).toNat;have z:=O5 c (n-2).toNat;have D:=O5 c (n-3).toNat;obtain⟨m,rfl⟩:∃m:Nat,n=(m:Int)+3:=⟨(n-3).toNat,ω⟩;rw[(ω:((m:Int)+3-1).toNat=m+2)]at g y;rw[(ω:((m:Int)+3-2).toNat=m+1)]at h z;rw[(ω:((m:Int)+3-3).toNat=m)]at i D;rw[(ω:((m:Int)+3).toNat=m+3)]at j|-;rw[(ω:m+3-2=m+1)];have o:=A9g l (n:=m) ω;have O:=V5 c m;have J:0<4294967296^m:=tY δ;subst g h i;generalize a3:dg l (m+2)=A at*;generalize a4:dg l (m+1)=B at*;generalize a5:dg l m=C at*;have U:=C3w (a:=nv l) (low:=nv (l.take m)) (lo:=C) (H:=A*4294967296+B) (P:=4294967296^m) (s:=s.toNat) J (by rw[o];grind) O ω;rw[sD,U];have u:(A*4294967296+B)*2^s.toNat<18446744073709551616:=by
  have E:(A*4294967296+B)*2^s.toNat*(4294967296^m*4294967296)<=nv l*2^s.toNat:=by
   have:(A*4294967296+B)*(4294967296^m*4294967296)<=nv l:=by rw[o];grind
   have:=rG (2^s.toNat) this;rwa[zX]at this
  have d:4294967296^(m+3)=18446744073709551616*(4294967296^m*4294967296):=by
   rw[sD,sD,sD];grind
  rw[d]at j;exact xO (xN E j)
 have Q:Min.min (Int.toNat s) u64.bits=s.toNat:=by show Min.min (Int.toNat s) 64= _;omega
 have R:Min.min (Int.toNat (32-s)) u64.bits=32-s.toNat:=by show Min.min (Int.toNat (32-s)) 64= _;omega
 rw[Q,R,show Min.min (Int.toNat 32) u64.bits=32 from rfl];have a6:A*4294967296+B<18446744073709551616:=ω
 have W:(((BitVec.ofInt u64.bits (u64.wrap ((A:Int)*2^32)) |||BitVec.ofInt u64.bits (B:Int)).toNat:Nat):Int)=((A*4294967296+B:Nat):Int):=by
  rw[Y8 (a:=(A:Int)*2^32) ω ω];have:=MV (v:=(B:Int)) (b:=(A:Int)) (k:=32) ω ω ω ω ω;rw[show u64.bits=64 from rfl,this];omega
 rw[W,Y8 (a:=((A*4294967296+B:Nat):Int)) ω ω];have w:((2:Int)^s.toNat)=((2^s.toNat:Nat):Int):=by rw[xS];rfl
 have f:((A*4294967296+B:Nat):Int)*2^s.toNat=(((A*4294967296+B)*2^s.toNat:Nat):Int):=by rw[w,uY]
 have X:Int.fdiv (C:Int) (2^(32-s.toNat))=((C/2^(32-s.toNat):Nat):Int):=by
  have E:((2:Int)^(32-s.toNat))=((2^(32-s.toNat):Nat):Int):=by rw[xS];rfl
  rw[E,sP _ (qF _)];rfl
 have M:C/2^(32-s.toNat)<2^s.toNat:=by
  rw[uA (tY δ), <-FD ω];omega
 have I:(0:Int)<=(((A*4294967296+B)*2^s.toNat:Nat):Int):=qF _;rw[X,Y8 (a:=((A*4294967296+B:Nat):Int)*2^s.toNat) (by rw[f];omega) (by rw[f];omega)];generalize C/2^(32-s.toNat)=L at*;have N:(L:Int)<2^s.toNat:=by rw[w];omega
 have a2:(2:Nat)^s.toNat<=2^31:=rY δ ω;have Y:=MV (v:=(L:Int)) (b:=((A*4294967296+B:Nat):Int)) (k:=s.toNat) ω N ω (by rw[f];omega) ω;rw[show u64.bits=64 from rfl,Y,f,Y8 (a:=(L:Int)+(((A*4294967296+B)*2^s.toNat:Nat):Int)) (Int.add_nonneg (qF _) I) ?_]
 . constructor
   . exact Int.sub_nonneg.2 (g2q a0 δ)
   rw[wO];exact Int.add_comm _ _
 --the shifted number and the digits behind it are below 2^64
 have d:(18446744073709551616:Nat)=18446744073709551616/2^s.toNat*2^s.toNat:=by
  refine(Nat.div_mul_cancel ?_).symm;exact⟨2^(64-s.toNat),by rw[<-uN,(ω:s.toNat+(64-s.toNat)=64)]⟩
 have F:A*4294967296+B<18446744073709551616/2^s.toNat:=by
  rw[d]at u;exact xO u
 have r:(A*4294967296+B+1)*2^s.toNat<=18446744073709551616:=by
  rw[d];exact rG _ F
 rw[vA,xI]at r;have G:L+(A*4294967296+B)*2^s.toNat<18446744073709551616:=rI (by rw[vS];exact Nat.add_lt_add_left M _) r;have t:((L+(A*4294967296+B)*2^s.toNat:Nat):Int)<18446744073709551616:=sG.2 G;rw[wO]at t;exact Int.le_of_lt_add_one t
def Zj:sq Y3 Og:=λx O aa=>by
 obtain⟨a,b,_⟩:=x;have k:B4 a:=A6 O.1.2;have ao:B4 b:=A6 O.2.1.2;change Wf at a b;obtain⟨b5,T,J,D,ar⟩:a.length<=17592186044416/\3<=a.length/\Nv a/\nv b<=nv a/\b.length<=a.length:=aa;simp only[Og,iB,rT1,Ci];have W:i64.wrap ((a.length:Int)-1)=(a.length:Int)-1:=wv ω;rw[W,Gb k ω ω,(ω:((a.length:Int)-1).toNat=a.length-1)];refine⟨⟨ω,ω⟩,trivial,?_⟩;rintro⟨(s:Int),_⟩ _ H;simp only at H|-;rw[qN]at H;have E:=SH k J;have au:=O5 k (a.length-1);have aq:=XU (v:=dg a (a.length-1)) ω;have ap:=(EC E).2;have t:=A8q k (n:=a.length-1) ω (s:=s.toNat) ω;rw[(ω:a.length-1+1=a.length)]at t;have a9:nv b*2^s.toNat<4294967296^a.length:=xN (rG _ D) t;have ay:=bS k J;rw[qN];refine⟨⟨ω,qH _,ω,ω,ω,t⟩,?_⟩;rintro⟨X,_⟩ ⟨B,_⟩ i;refine⟨⟨ω,ω,ω,ω,ω,a9⟩,?_⟩;rintro⟨Y,_⟩ ⟨a8,_⟩ j;change Int at X Y;simp only at i j B a8|-;have a4:s.toNat<=32*(a.length-2):=ω
 rw[Me,B2m a4]at i j;have o:0<2^(32*(a.length-2)-s.toNat):=tY δ;have a5:0<X:=by
  rw[i];have ah:=Vx a (n:=a.length-1) ω;have Z:2^(32*(a.length-2)-s.toNat)<=nv a:=by
   have ai:2^(32*(a.length-2)-s.toNat)<=4294967296^(a.length-1):=by
    rw[Me];exact rY δ ω
   have aj:=sB (4294967296^(a.length-1)) (tH E);omega
  have:=(vO o).2 (by rw[xI];exact Z);omega
 have a7:Y<=X:=by rw[i,j];exact Int.ofNat_le.2 (Nat.div_le_div_right D)
 have a6:0<=Y:=by rw[j];exact qF _
 have a0:=xB (nv a) (2^(32*(a.length-2)-s.toNat));have ak:=wL (nv a) o;have a2:=xB (nv b) (2^(32*(a.length-2)-s.toNat));have am:=wL (nv b) o;generalize 2^(32*(a.length-2)-s.toNat)=K at*;have an:X<=18446744073709551615:=by have:=B.2;rw[FG]at this;exact this
 refine⟨λp=>∃R,Leh X Y R p.1 p.2.1 p.2.2.1 p.2.2.2.1 p.2.2.2.2.1 p.2.2.2.2.2.1 p.2.2.2.2.2.2.1 p.2.2.2.2.2.2.2.1 p.2.2.2.2.2.2.2.2.1,λp=>p.2.1.toNat,⟨0,Leh.start a6 a7 a5⟩,?_⟩;rintro⟨(x:Int),(y:Int),(ad:Int),(l:Int),(f:Int),(Q:Int),(g:Int),(d:Int),(ev:Bool),_⟩ _ ⟨R,c⟩;simp only at c|-;have av:=c.idX;have aw:=c.idY;have b4:=c.yx;have w:=c.y0;have b3:=c.x0;have ab:=c.u10;have u:=c.u20;have N:=c.v10;have ac:=c.v20;have b9:x*1<=x*d:=uG ac ω;have bb:0<=y*g:=tV w N;have b8:0<=x*f:=tV ω u;have ba:0<=y*l:=tV w ab;have b7:1*d<=x*d:=sQ ω ω;refine⟨λr=>?_,λ_=>?_⟩
 . rw[J5]at r;simp only[qC,rR]at r;obtain⟨c1,A⟩:=r;have z:1<=y:=ω
   have b6:1*g<=y*g:=sQ z N;rw[Y8 (a:=g+d) ω ω,Y8 (a:=x-y) ω ω]at A;have h:=c.step c1 A;have b0:=h.idX;have b1:=h.idY;have I:=h.u20;have b2:=h.v20;have F:0<=x/y:=g0t ω w;have az:x/y<=x:=Int.ediv_le_self _ ω;have G:=h.y0;have ae:1*(g+x/y*d)<=y*(g+x/y*d):=sQ z ω;have af:0<=x%y*d:=tV G ω;have T:1*(l+x/y*f)<=y*(l+x/y*f):=sQ z I;have ag:0<=x%y*f:=tV G u;have U:0<=x/y*d:=tV F ω;have V:0<=x/y*f:=tV F u;rw[uS ω,IntWalk.u64_quo _ _ ⟨ω,ω,ω⟩];rw[Y8 (a:=x/y*f) V ω,Y8 (a:=x/y*d) U ω,Y8 (a:=l+x/y*f) I ω,Y8 (a:=g+x/y*d) ω ω];have ax:=zT x (b:=y) ω;exact⟨ω,ω,⟨x,h⟩,ω⟩
 by_cases M:Q=0
 . exact .inl M
 right;have a1:(nv a:Int)=X*(K:Int)+((nv a%K:Nat):Int):=by
  rw[i, <-uY, <-wO,sH,a0]
 have a3:(nv b:Int)=Y*(K:Int)+((nv b%K:Nat):Int):=by
  rw[j, <-uY, <-wO,sH,a2]
 exact c.apply M (P:=(K:Int)) ω (qF _) ω (qF _) ω a1 a3
def Zi:sq Y2 Od:=λx d l=>by
 obtain⟨a,x,b,y,_⟩:=x;have i:B4 a:=A6 d.1.2;have j:B4 b:=A6 d.2.2.1.2;change Wf at a b;change Int at x y;have n:=(show u64.min<=x/\x<=u64.max from d.2.1);have o:=(show u64.min<=y/\y<=u64.max from d.2.2.2.1);rw[nT,FG]at n o;obtain⟨s,t,k⟩:a.length<=8796093022208/\b.length<=8796093022208/\nv b*y.toNat<=nv a*x.toNat:=l;have u:=D6 i;have v:=D6 j;have w:(nc x.toNat).length<=2:=Ep ω;have z:(nc y.toNat).length<=2:=Ep ω;have A:=Qy (nv a) x.toNat;have B:=Qy (nv b) y.toNat;simp only[Od,R6];refine⟨trivial,?_⟩;rintro⟨r,_⟩ _ c;simp only at c|-;subst c;refine⟨⟨ω,ω⟩,?_⟩;rintro⟨E,_⟩ _ g;refine⟨trivial,?_⟩;rintro⟨r,_⟩ _ c;simp only at c g|-;subst c;refine⟨⟨ω,ω⟩,?_⟩;rintro⟨F,_⟩ _ h;simp only at h|-;rw[F9]at g h;subst g h;refine⟨⟨ω,ω⟩,?_⟩;rintro⟨r,D,_⟩ _ ⟨_,f⟩;simp only at f|-;rw[F9,F9]at f;exact(f k).1
noncomputable def Ri:G9:= []
def Qp:An:= {join:= [(8,⟨[0,1,5],[0,1,2],[(7,false,vU)],[],[]⟩)],loop:= [(4,⟨[0,1,5],[0,1,2],[(7,false,vU),(8,false,vU)],[],[]⟩),(10,⟨[0,1,5,7,84,85],[0,2],[(9,false,vU),(86,false,vI)],[],[(1, .row qg 118)]⟩),(23,⟨[0,5,7,134,135],[0,2],[(9,false,vU),(136,false,vI)],[],[(1, .row qg 118)]⟩)],plan:= [(2,[3,10],[],true, .done),(3,[5,13],[],true, .done),(4,[9,18],[],true, .done)]}
def Yk:An:= {join:= [(12,⟨[4,6,7,8,9,10,35,36],[0],[],[],[(1, .row qg 118),(2, .row qg 118)]⟩)],loop:= [(8,⟨[4,6,7,8,9,10,35],[0],[(36,false,vI)],[],[(1, .row qg 118),(2, .row qg 118)]⟩)]}
noncomputable def Yy:G9:= [(162,Cj),(202,M7),(204,S8),(206,O2),(205,W3 (Pg ⟨prog,tys⟩ [(53,Ri,Qp)] f205.results.toList (f205.body.getD .skip) f205.ntmps))]
abbrev C3t:=Int×Wf×Wf×Unit
def Ip(x:Gt):Prop:=let P:=(63:Int);let G:=(2:Int);let F:=(32:Int);let K:=F.toNat;let D:=(1:Int);let s:=(0:Int);let o:=(x.2.1.length:Int);let c:Prop:=(s<=i64.wrap (o-s-D)/\i64.wrap (o-s-D)<o-s);(s<=i64.wrap (o-D)/\i64.wrap (o-D)<o)/\True/\∀(r:D3),let m:Prop:=(s<=r.1/\r.1<=31);R8 r.1/\True->r.1=F-(↑(M8 (gx s x.2.1 (i64.wrap (o-D))).toNat):Int)->(N2 x.2.1/\m)/\R6 λT=>let u:=(List.getD T.1 (s+i64.wrap (o-s-D)).toNat s);T.1.length=List.length x.2.1+1/\nv T.1=nv x.2.1*2^Int.toNat r.1->(s<=s/\s<=o/\o<=(T.1.length:Int))/\(N2 x.1/\m)/\R6 λV=>let A:=(V.1.length:Int);V.1.length=List.length x.1+1/\nv V.1=nv x.1*2^Int.toNat r.1->(s<=i64.wrap (A-o)/\i64.wrap (A-o)<=i64.wrap (A-o)/\(↑(4:Nat):Int)*i64.wrap (A-o)<=(281474976710656:Int)/\i64.wrap (A-o)<=(9223372036854775807:Int))/\∃(I:C3t->Prop),∃(a: _->Nat),I (s,V.1,List.replicate (i64.wrap (A-o)).toNat s,())/\∀(p:C3t),let M:=(p.2.1.length:Int);let n:=(i64.wrap (i64.wrap (A-o)-D)-p.1);let C:=(i64.wrap n+(o-s));let w:=(i64.wrap (i64.wrap n+o)+D);let v:=(u64.wrap (↑(BitVec.ofInt u64.bits (u64.wrap (u64.wrap (List.getD p.2.1 C.toNat s)*G^Min.min K u64.bits)) |||BitVec.ofInt u64.bits (u64.wrap (List.getD p.2.1 (i64.wrap n+i64.wrap (o-s-D)).toNat s))).toNat:Int));let l:Prop:=(p.1<i64.wrap (A-o));let h:Prop:=(s<=i64.wrap n/\i64.wrap n<(p.2.2.1.length:Int));let b:Prop:=(s<=o-s/\o-s<i64.wrap w-i64.wrap n);(Ty.int i64).wf p.1/\Ia p.2.1/\Ia p.2.2.1/\True->I p->(iB (decide l) (∃(J:Gt->Prop),((s<=i64.wrap n/\i64.wrap n<=i64.wrap w/\i64.wrap w<=M)/\b/\(0:(Ty.int u64).den)<=F/\(s<=i64.wrap (o-s-D)/\i64.wrap (o-s-D)<i64.wrap w-i64.wrap n)/\c/\u64.wrap u≠s/\c/\u64.wrap u≠s/\∃(J_1:D3->Prop),(∃(I:Cw->Prop),∃(a: _->Nat),I (u64.wrap (v.tdiv (u64.wrap u)),v.tmod (u64.wrap u),())/\∀(Q:Cw),let H:=(u64.wrap (Q.1-D),u64.wrap (Q.2.1+u64.wrap u),());let i:Prop:=((u64.wrap (Q.2.1+u64.wrap u)).fdiv (G^Min.min K u64.bits)≠s);let g:Prop:=(Int.fdiv Q.1 (G^Min.min K u64.bits)≠s);let d:Prop:=(u64.wrap (↑(BitVec.ofInt u64.bits (u64.wrap (Q.2.1*G^Min.min K u64.bits)) |||BitVec.ofInt u64.bits (u64.wrap (List.getD p.2.1 (i64.wrap n+i64.wrap (o-s-G)).toNat s))).toNat:Int)<u64.wrap (Q.1*u64.wrap (List.getD T.1 (s+i64.wrap (o-s-G)).toNat s)));(Ty.int u64).wf Q.1/\(Ty.int u64).wf Q.2.1/\True->I Q->(0:(Ty.int u64).den)<=F/\(decide g=false->s<=i64.wrap (o-s-G)/\i64.wrap (o-s-G)<o-s)/\(decide g=false->(0:(Ty.int u64).den)<=F)/\(decide g=false->s<=i64.wrap (o-s-G)/\i64.wrap (o-s-G)<i64.wrap w-i64.wrap n)/\(iB (F5 (decide g) true (decide d)) (c/\(0:(Ty.int u64).den)<=F/\(iB (decide i) (J_1 (u64.wrap (Q.1-D),())) (I H/\a H<a Q))) (J_1 (Q.1,()))))/\∀(Q:D3),(Ty.int u64).wf Q.1/\True->J_1 Q->∃(I:Ub->Prop),∃(a: _->Nat),I (s,s,p.2.1,())/\∀(R:Ub),let N:=(i64.wrap n+R.2.1);let E:=(u64.wrap (u64.wrap (Q.1*u64.wrap (List.getD T.1 (s+R.2.1).toNat s))+R.1));let z:=(u64.wrap (u64.wrap (List.getD R.2.2.1 C.toNat s)-R.1));let y:=(u64.wrap (u64.wrap (List.getD R.2.2.1 N.toNat s)-u64.wrap (u32.wrap E)));let q:=(u64.wrap (E.fdiv (G^Min.min K u64.bits)+y.fdiv (G^Min.min P.toNat u64.bits)),i64.wrap (R.2.1+D),List.set R.2.2.1 N.toNat (u32.wrap y),());let j:Prop:=(R.2.1<o-s);let f:Prop:=(z.fdiv (G^Min.min P.toNat u64.bits)=s);let d:Prop:=(s<=R.2.1/\R.2.1<i64.wrap w-i64.wrap n);(Ty.int u64).wf R.1/\(Ty.int i64).wf R.2.1/\Ia R.2.2.1/\True->I R->(iB (decide j) ((s<=R.2.1/\j)/\d/\d/\(0:(Ty.int u64).den)<=F/\(0:(Ty.int u64).den)<=P/\I q/\a q<a R) (b/\b/\(0:(Ty.int u64).den)<=P/\(iB (decide f) (h/\J (List.set R.2.2.1 C.toNat (u32.wrap z),List.set p.2.2.1 (i64.wrap n).toNat (u32.wrap Q.1),())) (∃(I:Ub->Prop),∃(a: _->Nat),I (s,s,List.set R.2.2.1 C.toNat (u32.wrap z),())/\∀(S:Ub),let O:=(i64.wrap n+S.2.1);let B:=(u64.wrap (S.1+u64.wrap (u64.wrap (List.getD S.2.2.1 O.toNat s)+u64.wrap (List.getD T.1 (s+S.2.1).toNat s))));let t:=(B.fdiv (G^Min.min K u64.bits),i64.wrap (S.2.1+D),List.set S.2.2.1 O.toNat (u32.wrap B),());let k:Prop:=(S.2.1<o-s);let e:Prop:=(s<=S.2.1/\S.2.1<i64.wrap w-i64.wrap n);(Ty.int u64).wf S.1/\(Ty.int i64).wf S.2.1/\Ia S.2.2.1/\True->I S->(iB (decide k) ((s<=S.2.1/\k)/\e/\e/\(0:(Ty.int u64).den)<=F/\I t/\a t<a S) (b/\b/\h/\J (List.set S.2.2.1 C.toNat (u32.wrap (List.getD S.2.2.1 C.toNat s+u32.wrap S.1)),List.set p.2.2.1 (i64.wrap n).toNat (u32.wrap (u64.wrap (Q.1-D))),()))))))))/\∀(Q:Gt),let L:=(i64.wrap (p.1+D),Q.1,Q.2.1,());Ia Q.1/\Ia Q.2.1/\True->J Q->I L/\a L<a p) ((s<=s/\s<=o/\o<=M)/\N2 (List.drop s.toNat (List.take o.toNat p.2.1))/\∀(U:A7g),Ia U.1/\True/\True->(r.1<s->U.1= []/\U.2.1=false)/\(s<=r.1->U.1=nc (nv (List.drop s.toNat (List.take o.toNat p.2.1))/(2:Nat)^Int.toNat r.1)/\U.2.1=true)->True/\R6 λr=>r.1=nc (nv p.2.2.1)->r.1=nc (nv x.1/nv x.2.1)/\U.1=nc (nv x.1%nv x.2.1)))
def B5c {a b:Wf} {N D S:Nat} (g:B4 a) (h:B4 b) (f:b.length=N+2) (c:dg b (N+1)≠0) (d:a.length+1=D+(N+2)):nv a*2^S<nv b*2^S*4294967296^D:=by
 have d:0<2^S:=tY δ;have f:=Vx b (n:=N+1) ω;have f:4294967296^(N+1)<=nv b:=by
  have:=sB (4294967296^(N+1)) (tH c);omega
 have c:=Hd g;rw[(ω:a.length=(N+1)+D),uN]at c;have g:nv a<nv b*4294967296^D:=rI c (rG _ f);have c:=xH g d;rw[zX]at c;exact c
def C5q {A B S q r:Nat} (d:0<B) (c:A*2^S=q*(B*2^S)+r) (f:r<B*2^S):q=A/B/\r/2^S=A%B:=by
 have a:0<2^S:=tY δ;have b:q=A/B:=by
  rw[<-g0k A B a,c,sH q,g2z (g3u d a),uO f,tD]
 refine⟨b,?_⟩;have d:=xB A B;have f:r=(A%B)*2^S:=by
  have:A*2^S=(B*(A/B)+A%B)*2^S:=by rw[d]
  rw[this,b]at c;grind
 rw[f,g4s _ a]
def C7o {v:Wf} (d:B4 v) {n:Nat} (b:4294967296^n<=nv v) (c:nv v<4294967296^(n+1)):dg v n≠0:=by
 have a:0<4294967296^n:=tY δ;rw[QA d,uC (by rw[uA a,sH, <-sD];exact c)];have:=(vO a).2 (by rw[xI];exact b);omega
def B1h {u:Wf} (b:B4 u) {m i:Nat} (h:nv u<4294967296^m) (a:m<=i):dg u i=0:=by
 rw[QA b,uO (rI h (rY δ a))]
def jX {x y:Nat} (c:x<=4294967295) (d:y<=4294967295):u64.wrap (((BitVec.ofInt 64 (u64.wrap ((x:Int)*2^32)) |||BitVec.ofInt 64 (y:Int)).toNat:Nat):Int)=((x*4294967296+y:Nat):Int):=by
 rw[Y8 (a:=(x:Int)*2^32) ω ω];have:=MV (v:=(y:Int)) (b:=(x:Int)) (k:=32) ω ω ω ω ω;rw[this,Y8 ω ω];omega
def C0x {v:Int} :Int.fdiv v (2^32)=v/4294967296:=by
 rw[sP _ δ];rfl
def C8p {v:Int} :Int.fdiv v (2^63)=v/9223372036854775808:=by
 rw[sP _ δ];rfl
def iL {d x:Nat} (a:d<=4294967295) (b:x<=4294967295):d*x<=18446744065119617025:=qY (vB a b) δ
def B9f {d v2 r a:Nat} (b:v2<=4294967295):F5 (decide ((d:Int)/4294967296≠0)) true (decide (((r*4294967296+a:Nat):Int)<u64.wrap ((d:Int)*(v2:Int))))=decide (4294967296<=d\/r*4294967296+a<d*v2):=by
 rw[H7];rcases sI d 4294967296 with h|h
 . have a:=iL (d:=d) (x:=v2) ω b;rw[<-uY,Y8 ω ω];have a:decide ((d:Int)/4294967296≠0)=false:=qX ω;rw[a,vC,wH];omega
 have a:decide ((d:Int)/4294967296≠0)=true:=rB ω;rw[a,g1b];exact(rB (.inl h)).symm
def B8z {d x c y:Nat} (i:d<=4294967295) (j:x<=4294967295) (h:c<=d) (n:y<=4294967295):∃b f:Nat,
 u64.wrap (Int.fdiv (u64.wrap (u64.wrap ((d:Int)*(x:Int))+(c:Int))) (2^32)+Int.fdiv (u64.wrap ((y:Int)-u64.wrap (u32.wrap (u64.wrap (u64.wrap ((d:Int)*(x:Int))+(c:Int)))))) (2^63))=(b:Int)/\
 u32.wrap (u64.wrap ((y:Int)-u64.wrap (u32.wrap (u64.wrap (u64.wrap ((d:Int)*(x:Int))+(c:Int))))))=(f:Int)/\b<=d/\y+4294967296*b=f+(d*x+c):=by
 have l:=iL i j;obtain⟨k,g⟩:=B4j (D:=d) (v:=x) (c:=c) (t:=y) ω ω h;rw[<-uY,Y8 (a:=((d*x:Nat):Int)) ω ω];generalize d*x=p at*;rw[Y8 (a:=(p:Int)+(c:Int)) ω ω,Cs,Y8 (a:=((p:Int)+(c:Int))%4294967296) ω ω,C0x,C8p,Ct ((y:Int)-_),Cs];refine⟨(p+c)/4294967296+(if y<(p+c)%4294967296 then 1 else 0),if y<(p+c)%4294967296 then y+4294967296-(p+c)%4294967296 else y-(p+c)%4294967296,?_,?_,g,?_⟩
 . rw[Y8 ω ω];split<;>omega
 . split<;>omega
 split<;>omega
def B6z {U P V d:Nat} (a:0<P) (b:0<V) (h:P*(d*V)<=U):d<=U/P/V:=by
 rw[vO b,vO a,sH];exact h
def C6z {U P V d:Nat} (a:0<P) (b:0<V) (h:U<P*(d*V)):U/P/V<d:=by
 rw[uA b,uA a,sH];exact h
def gF {U0 U W V P d q a:Nat} (g:U0=q*V+U) (f:W+P*(d*V)=U) (i:a=q+P*d) (b:0<P) (c:0<V) (k:U/P/V=d):U0=a*V+W/\W<V*P:=by
 refine⟨by subst i;rw[g, <-f];grind,?_⟩;have j:¬(P*((d+1)*V)<=U):=λh=>by have:=B6z b c h;omega
 have e:P*((d+1)*V)=P*(d*V)+V*P:=by grind
 omega
def C4n {q:Wf} (f:B4 q) {Q j d:Nat} (a:nv q=Q*4294967296^(j+1)) (b:j<q.length):nv (q.set j (d:Int))=nv q+4294967296^j*d/\nv (q.set j (d:Int))=(Q*4294967296+d)*4294967296^j:=by
 have c:0<4294967296^j:=tY δ;have h:=Kq (l:=q) (k:=j) (v:=(d:Int)) b;rw[qN]at h;have b:dg q j=0:=by
  rw[QA f,a,sD,sH (4294967296^j), <-sK,g4s _ c,Nat.mul_mod_left]
 rw[b,wV,tD]at h;refine⟨h,?_⟩;rw[h,a,sD];grind
def B3v {x c y:Nat} (g:x<=4294967295) (f:c<=1) (h:y<=4294967295):∃b d:Nat,
 Int.fdiv (u64.wrap ((c:Int)+u64.wrap ((y:Int)+(x:Int)))) (2^32)=(b:Int)/\
 u32.wrap (u64.wrap ((c:Int)+u64.wrap ((y:Int)+(x:Int))))=(d:Int)/\b<=1/\d+4294967296*b=c+(y+x):=by
 rw[Y8 (a:=(y:Int)+(x:Int)) ω ω,Y8 (a:=(c:Int)+((y:Int)+(x:Int))) ω ω,C0x,Cs];exact⟨(c+(y+x))/4294967296,(c+(y+x))%4294967296,ω,ω,ω,ω⟩
def Rq:sq S3 Ip:=λx bu cm=>by
 obtain⟨a,b,_⟩:=x;have cd:B4 a:=A6 bu.1.2;have I:B4 b:=A6 bu.2.1.2;change Wf at a b;obtain⟨ds,db,di,bp⟩:a.length<=17592186044416/\2<=b.length/\b.length<=a.length/\Nv b:=cm;obtain⟨N,bg⟩:∃N,b.length=N+2:=⟨b.length-2,ω⟩;have a9:=SH I bp;rw[(ω:b.length-1=N+1)]at a9;simp only[Ip,iB,R6,Int.sub_zero,Int.zero_add];rw[wv (a:=(b.length:Int)-1) ω,wv (a:=(b.length:Int)-2) ω,Gb I ω ω,(ω:((b.length:Int)-1).toNat=N+1),(ω:((b.length:Int)-2).toNat=N)];refine⟨⟨ω,ω⟩,trivial,?_⟩;rintro⟨(s:Int),_⟩ _ bn;simp only at bn|-;rw[qN]at bn;have dk:=O5 I (N+1);have dh:=XU (v:=dg b (N+1)) ω;have df:=(EC a9).2;refine⟨⟨by show b.length<= _;omega,ω,ω⟩,?_⟩;rintro⟨v,_⟩ ⟨cu,_⟩ ⟨bt,R⟩;refine⟨⟨qH _,ω,by simp only at bt|-;omega⟩,⟨by show a.length<= _;omega,ω,ω⟩,?_⟩;rintro⟨f,_⟩ ⟨cs,_⟩ ⟨cp,ax⟩;have t:B4 v:=A6 cu.2;have dr:B4 f:=A6 cs.2;change Wf at v f;simp only at bt R cp ax|-;have Z:nv v<4294967296^(N+2):=by
  rw[R];exact A8q I (n:=N+1) ω (s:=s.toNat) ω
 have bh:4294967296^(N+1)<=nv v:=by
  have z:=Vx b (n:=N+1) ω;have bf:4294967296^(N+1)<=nv b:=by
   have:=sB (4294967296^(N+1)) (tH a9);omega
  rw[R];exact qY bf (g2h _ (tY δ))
 have bq:=C7o t bh Z;have a0:0<nv v:=rI (tY δ) bh;obtain⟨D,dc⟩:∃D,f.length=D+(N+2):=⟨f.length-(N+2),ω⟩;have bo:=B5c (S:=s.toNat) cd I bg a9 (D:=D) ω;rw[<-ax, <-R]at bo;rw[wv (a:=(f.length:Int)-(b.length:Int)) ω,(ω:(f.length:Int)-(b.length:Int)=(D:Int))];have dd:1<=D:=ω
 refine⟨⟨ω,qH _,ω,ω⟩,?_⟩;refine⟨λp=>0<=p.1/\p.1<=(D:Int)/\p.2.1.length=f.length/\p.2.2.1.length=D/\nv f=nv p.2.2.1*nv v+nv p.2.1/\nv p.2.1<nv v*4294967296^((D:Int)-p.1).toNat/\∃Q,nv p.2.2.1=Q*4294967296^((D:Int)-p.1).toNat,λp=>((D:Int)-p.1).toNat,⟨qH _,qF _,rfl,by simp,?_,?_,0,?_⟩,?_⟩
 . show nv f=nv (List.replicate _ 0)*nv v+nv f;rw[Sm];omega
 . show nv f<nv v*4294967296^((D:Int)-0).toNat;rw[(ω:((D:Int)-0).toNat=D)];exact bo
 . show nv (List.replicate _ 0)= _;rw[Sm];omega
 rintro⟨(k:Int),u,q,_⟩ ⟨_,ct,cr,_⟩ ⟨d0,d1,c5,b4,aa,J,Q,a8⟩;have F:B4 u:=A6 ct.2;have bm:B4 q:=A6 cr.2;change Wf at u q;simp only at d0 d1 c5 b4 aa J a8|-;refine⟨λa1=>?_,λa1=>?_⟩
 . have a1:=qA a1;obtain⟨j,cg⟩:∃j:Nat,(D:Int)-1-k=(j:Int):=⟨((D:Int)-1-k).toNat,ω⟩;rw[(ω:((D:Int)-k).toNat=j+1)]at J a8;rw[wv (a:=(D:Int)-1) ω,cg,wv (a:=(j:Int)) ω,wv (a:=(j:Int)+(b.length:Int)) ω,wv (a:=(j:Int)+(b.length:Int)+1) ω,wv (a:=k+1) ω];rw[(ω:((j:Int)+(b.length:Int)).toNat=j+N+2),(ω:((j:Int)+((b.length:Int)-1)).toNat=j+N+1),(ω:((j:Int)+((b.length:Int)-2)).toNat=j+N)];have dp:j+1<=D:=ω
   have a4:=C8i F t (j:=j) (n:=N) ω Z bq ω J;have dw:=O5 t (N+1);have d5:=O5 t N;have d7:=O5 F (j+N+2);have d8:=O5 F (j+N+1);have d9:=O5 F (j+N);have Y:0<4294967296^j:=tY δ;refine⟨λp=>p.1.length=f.length/\p.2.1.length=D/\nv f=nv p.2.1*nv v+nv p.1/\nv p.1<nv v*4294967296^j/\∃Q,nv p.2.1=Q*4294967296^j,?_,?_⟩
   . rw[Ab t,Ab t,Ab F,Ab F,Ab F];rw[Y8 (a:=(dg v (N+1):Int)) ω ω,Y8 (a:=(dg v N:Int)) ω ω,Y8 (a:=(dg u (j+N+2):Int)) ω ω,Y8 (a:=(dg u (j+N+1):Int)) ω ω,Y8 (a:=(dg u (j+N):Int)) ω ω];rw[show Min.min (Int.toNat 32) u64.bits=32 from rfl,show Min.min (Int.toNat 63) u64.bits=63 from rfl,show u64.bits=64 from rfl,jX d7 d8];refine⟨⟨ω,ω,ω⟩,⟨ω,ω⟩,δ,⟨ω,ω⟩,⟨ω,ω⟩,ω,⟨ω,ω⟩,ω,?_⟩;have ao:=a4.est;have ab:= @dO.near _ _ _ _ _ _ _ a4;have an:= @dO.dec _ _ _ _ _ _ _ a4;have ar:= @dO.out _ _ _ _ _ _ _ a4;generalize ca:nv u/4294967296^j/nv v=QS at ao ab an ar|-;refine⟨λp=>QS<=p.1.toNat/\p.1.toNat<=QS+1/\0<=p.1/\p.1<4294967296,?_,?_⟩
     . refine⟨λp=>∃d r:Nat,p.1=(d:Int)/\p.2.1=(r:Int)/\dg u (j+N+2)*4294967296+dg u (j+N+1)=d*dg v (N+1)+r/\QS<=d/\r<4294967296,λp=>p.1.toNat,?_,?_⟩
       . have bs:0<dg v (N+1):=tH bq;have ch:=(vO bs).2 ao;have o:=wL (dg u (j+N+2)*4294967296+dg u (j+N+1)) bs;have ce:=xB (dg u (j+N+2)*4294967296+dg u (j+N+1)) (dg v (N+1));have dm:=xC (dg u (j+N+2)*4294967296+dg u (j+N+1)) (dg v (N+1));have de:dg u (j+N+2)*4294967296+dg u (j+N+1)<=18446744073709551615:=ω
         refine⟨(dg u (j+N+2)*4294967296+dg u (j+N+1))/dg v (N+1),(dg u (j+N+2)*4294967296+dg u (j+N+1))%dg v (N+1),?_,rfl,?_,ch,ω⟩
         . show u64.wrap (Int.tdiv _ _)= _;have e:Int.tdiv ((dg u (j+N+2)*4294967296+dg u (j+N+1):Nat):Int) ((dg v (N+1):Nat):Int)=(((dg u (j+N+2)*4294967296+dg u (j+N+1))/dg v (N+1):Nat):Int):=rfl;rw[e];generalize (dg u (j+N+2)*4294967296+dg u (j+N+1))/dg v (N+1)=ba at*;exact Y8 ω ω
         have:=ce.symm;rw[sH (dg v (N+1))]at this;exact this
       rintro⟨(aj:Int),(d4:Int),_⟩ ⟨bk,_⟩ ⟨d,r,z,G,au,cn,dq⟩;simp only at z G bk|-;subst z G;have dj:(d:Int)<=18446744073709551615:=by have:=bk.2;rw[FG]at this;exact this
       rw[C0x,C0x,jX (x:=r) ω d9,B9f d5];refine⟨δ,λ_=>⟨ω,ω⟩,λ_=>δ,λ_=>⟨ω,ω⟩,λE=>?_,λE=>?_⟩
       . have E:=qA E;have dn:=an au cn E;rw[Y8 (a:=(r:Int)+(dg v (N+1):Int)) ω ω,Y8 (a:=(d:Int)-1) ω ω];obtain⟨e,rfl⟩:∃e,d=e+1:=⟨d-1,ω⟩;have av:dg u (j+N+2)*4294967296+dg u (j+N+1)=e*dg v (N+1)+(r+dg v (N+1)):=by rw[au,vA,xI];omega
         refine⟨⟨ω,ω⟩,δ,λX=>?_,λX=>?_⟩
         . have X:=qA X;obtain⟨d2,d3⟩:=ar av ω ω;have c4:=ab av d2 d3;have be:(((e+1:Nat):Int)-1).toNat=e:=ω
           refine⟨?_,?_,?_,?_⟩
           . show _ <=(((e+1:Nat):Int)-1).toNat;rw[be];omega
           . show(((e+1:Nat):Int)-1).toNat<= _;rw[be];exact c4
           . show(0:Int)<=((e+1:Nat):Int)-1;omega
           show((e+1:Nat):Int)-1< _;omega
         have X:(((r:Int)+(dg v (N+1):Int))/4294967296)=0:=g3k (qB X);refine⟨⟨e,r+dg v (N+1),ω,ω,av,ω,ω⟩,ω⟩
       have E:=qB E;have c4:=ab au ω ω;exact⟨by show _ <=(d:Int).toNat;omega,by show(d:Int).toNat<= _;omega,qF _,by show(d:Int)< _;omega⟩
     rintro⟨(aj:Int),_⟩ _ ⟨bb,ai,bc,c6⟩;simp only at bb ai bc c6|-;obtain⟨d,rfl⟩:=uU bc;rw[qN]at bb ai;clear ao ab an ar;refine⟨λp=>∃c i:Nat,p.1=(c:Int)/\p.2.1=(i:Int)/\i<=N+2/\c<=d/\p.2.2.1.length=f.length/\nv p.2.2.1+4294967296^j*(d*nv (v.take i))=nv u+4294967296^(j+i)*c/\∀m,j+i<=m->dg p.2.2.1 m=dg u m,λp=>((N:Int)+2-p.2.1).toNat,⟨0,0,rfl,rfl,ω,ω,c5,by simp[nv],λ_ _=>rfl⟩,?_⟩;rintro⟨(ah:Int),(ay:Int),w,_⟩ ⟨_,_,cv,_⟩ ⟨c,i,z,G,ap,E,ae,a5,a7⟩;have ac:B4 w:=A6 cv.2;change Wf at w;simp only at z G ap E ae a5 a7|-;subst z G;refine⟨λg=>?_,λg=>?_⟩
     . have g:(i:Int)<(b.length:Int):=qA g;have b8:=O5 t i;have af:=O5 ac (j+i);rw[show((i:Int)).toNat=i from qN _,(ω:((j:Int)+(i:Int)).toNat=j+i),Ab t,Ab ac,Y8 (a:=(dg v i:Int)) ω ω,Y8 (a:=(dg w (j+i):Int)) ω ω,wv (a:=(i:Int)+1) ω];obtain⟨ag,b5,b0,b1,b2,b3⟩:=B8z (d:=d) (x:=dg v i) (c:=c) (y:=dg w (j+i)) ω b8 E af;rw[b0,b1];refine⟨⟨ω,g⟩,⟨ω,ω⟩,⟨ω,ω⟩,δ,δ,⟨ag,i+1,rfl,ω,ω,b2,by rw[qP];exact ae,?_,?_⟩,ω⟩
       . have O:=Kq (l:=w) (k:=j+i) (v:=(b5:Int)) ω;rw[qN]at O;rw[J9,(ω:j+(i+1)=(j+i)+1),sD _ (j+i)];exact B2u a5 O b3 (uN ..)
       intro m o;rw[AH ω,qG ω];exact a7 m ω
     have g:=qB g;have aq:i=N+2:=ω
     subst aq;rw[Jt t,uC Z]at a5;have aw:=a7 (j+N+2) ω;rw[Ab ac,aw,Y8 (a:=(dg u (j+N+2):Int)) ω ω,C8p,show((j:Int)).toNat=j from qN _];have cj:nv u<4294967296^(j+N+3):=by
      refine rI J ?_;have e:4294967296^(j+N+3)=4294967296^(N+2)*4294967296^(j+1):=by rw[<-uN];congr 1;omega
      rw[e];exact rG _ (vV Z)
     rw[(ω:j+(N+2)=j+N+2)]at a5;refine⟨⟨ω,ω⟩,⟨ω,ω⟩,δ,λH=>?_,λH=>?_⟩
     . have H:=qA H;have bj:c<=dg u (j+N+2):=by rw[Ct]at H;omega
       rw[Y8 (a:=(dg u (j+N+2):Int)-(c:Int)) ω ω,w32 (a:=(dg u (j+N+2):Int)-(c:Int)) ω ω,w32 (a:=(d:Int)) ω ω];have O:=Kq (l:=w) (k:=j+N+2) (v:=(dg u (j+N+2):Int)-(c:Int)) ω;rw[aw,(ω:((dg u (j+N+2):Int)-(c:Int)).toNat=dg u (j+N+2)-c),Nat.mul_sub]at O;have bi:=sB (4294967296^(j+N+2)) bj;have am:nv (w.set (j+N+2) ((dg u (j+N+2):Int)-(c:Int)))+4294967296^j*(d*nv v)=nv u:=ω
       have cf:=B6z Y a0 (U:=nv u) (d:=d) ω;obtain⟨b6,b7⟩:=C4n bm (d:=d) a8 ω;obtain⟨T,W⟩:=gF aa am b6 Y a0 ω;exact⟨⟨ω,ω⟩,by show(List.set _ _ _).length= _;rw[qP];exact ae,by show(List.set _ _ _).length= _;rw[qP];exact b4,T,W,_,b7⟩
     have H:=qB H;have bj:dg u (j+N+2)<c:=by rw[Ct]at H;omega
     have c8:u32.wrap (u64.wrap ((dg u (j+N+2):Int)-(c:Int)))=((dg u (j+N+2)+4294967296-c:Nat):Int):=by
      rw[Ct,Cs];omega
     rw[c8];have O:=Kq (l:=w) (k:=j+N+2) (v:=((dg u (j+N+2)+4294967296-c:Nat):Int)) ω;rw[aw,qN,Nat.mul_sub,sZ]at O;have bi:=sB (4294967296^(j+N+2)) (ω:c<=dg u (j+N+2)+4294967296);rw[sZ]at bi;have d6:B4 (w.set (j+N+2) ((dg u (j+N+2)+4294967296-c:Nat):Int)):=iF ac (by show 0<= _ /\ _ <= _;omega);have bw:∀m,j+N+3<=m->dg (w.set (j+N+2) ((dg u (j+N+2)+4294967296-c:Nat):Int)) m=0:=λm o=>by
      rw[AH ω,qG ω,a7 m ω];exact B1h F cj o
     have ci:(w.set (j+N+2) ((dg u (j+N+2)+4294967296-c:Nat):Int)).length=f.length:=by rw[qP];exact ae
     generalize w.set (j+N+2) ((dg u (j+N+2)+4294967296-c:Nat):Int)=ad at*;have cc:nv ad+4294967296^j*(d*nv v)=nv u+4294967296^(j+N+2)*4294967296:=ω
     have cq:nv ad<4294967296^(j+N+2)*4294967296:=by
      have bf:=V5 d6 (j+N+3);rw[TK bw, <-C9j (j+N)]at bf;exact bf
     have cf:=C6z Y a0 (U:=nv u) (d:=d) ω;obtain⟨e,rfl⟩:∃e,d=e+1:=⟨d-1,ω⟩;refine⟨λp=>∃c i:Nat,p.1=(c:Int)/\p.2.1=(i:Int)/\i<=N+2/\c<=1/\p.2.2.1.length=f.length/\nv p.2.2.1+4294967296^(j+i)*c=nv ad+4294967296^j*nv (v.take i)/\∀m,j+i<=m->dg p.2.2.1 m=dg ad m,λp=>((N:Int)+2-p.2.1).toNat,⟨0,0,rfl,rfl,ω,ω,ci,by simp[nv],λ_ _=>rfl⟩,?_⟩;rintro⟨(ah:Int),(ay:Int),y,_⟩ ⟨_,_,cw,_⟩ ⟨h,i,z,G,ap,bl,b9,a6,ak⟩;have a3:B4 y:=A6 cw.2;change Wf at y;simp only at z G ap bl b9 a6 ak|-;subst z G;refine⟨λg=>?_,λg=>?_⟩
     . have g:(i:Int)<(b.length:Int):=qA g;have b8:=O5 t i;have af:=O5 a3 (j+i);rw[show((i:Int)).toNat=i from qN _,(ω:((j:Int)+(i:Int)).toNat=j+i),Ab t,Ab a3,Y8 (a:=(dg v i:Int)) ω ω,Y8 (a:=(dg y (j+i):Int)) ω ω,wv (a:=(i:Int)+1) ω];obtain⟨ag,b5,b0,b1,b2,b3⟩:=B3v (x:=dg v i) (c:=h) (y:=dg y (j+i)) b8 bl af;rw[b0,b1];refine⟨⟨ω,g⟩,⟨ω,ω⟩,⟨ω,ω⟩,δ,⟨ag,i+1,rfl,ω,ω,b2,by rw[qP];exact b9,?_,?_⟩,ω⟩
       . have a2:=Kq (l:=y) (k:=j+i) (v:=(b5:Int)) ω;rw[qN]at a2;rw[J9,(ω:j+(i+1)=(j+i)+1),sD _ (j+i)];exact B0e a6 a2 b3 (uN ..)
       intro m o;rw[AH ω,qG ω];exact ak m ω
     have g:=qB g;have aq:i=N+2:=ω
     subst aq;rw[Jt t,uC Z,(ω:j+(N+2)=j+N+2)]at a6;have af:=O5 a3 (j+N+2);have c9:u32.wrap ((dg y (j+N+2):Int)+u32.wrap (h:Int))=(((dg y (j+N+2)+h)%4294967296:Nat):Int):=by
      rw[w32 (a:=(h:Int)) ω ω,Cs];omega
     have c7:u32.wrap (u64.wrap (((e+1:Nat):Int)-1))=(e:Int):=by
      rw[Y8 ω ω,w32 ω ω];omega
     rw[Ab a3,c9,c7];have a2:=Kq (l:=y) (k:=j+N+2) (v:=(((dg y (j+N+2)+h)%4294967296:Nat):Int)) ω;rw[qN]at a2;obtain⟨az,ck,cl⟩:∃az,dg y (j+N+2)+h=(dg y (j+N+2)+h)%4294967296+4294967296*az/\az<=1:=⟨(dg y (j+N+2)+h)/4294967296,ω,ω⟩;have da:B4 (y.set (j+N+2) (((dg y (j+N+2)+h)%4294967296:Nat):Int)):=iF a3 (by show 0<= _ /\ _ <= _;omega);have cx:∀m,j+N+3<=m->dg (y.set (j+N+2) (((dg y (j+N+2)+h)%4294967296:Nat):Int)) m=0:=λm o=>by
      rw[AH ω,qG ω,ak m ω];exact bw m o
     have cy:(y.set (j+N+2) (((dg y (j+N+2)+h)%4294967296:Nat):Int)).length=f.length:=by rw[qP];exact b9
     generalize y.set (j+N+2) (((dg y (j+N+2)+h)%4294967296:Nat):Int)=ba at*;have cz:nv ba<4294967296^(j+N+2)*4294967296:=by
      have bf:=V5 da (j+N+3);rw[TK cx, <-C9j (j+N)]at bf;exact bf
     obtain⟨cb,am⟩:=B4a (U:=nv u) (P:=4294967296^j) (V:=nv v) (e:=e) (M:=4294967296^(j+N+2)) Y a0 cc cq (by rw[ca];exact ai) a6 a2 ck cl cz;obtain⟨b6,b7⟩:=C4n bm (d:=e) a8 ω;obtain⟨T,W⟩:=gF aa am b6 Y a0 cb;exact⟨⟨ω,ω⟩,⟨ω,ω⟩,⟨ω,ω⟩,cy,by show(List.set _ _ _).length= _;rw[qP];exact b4,T,W,_,b7⟩
   rintro⟨dv,du,_⟩ _ ⟨bx,bz,c0,c2,Q',c3⟩;simp only at bx bz c0 c2 c3|-;rw[(ω:((D:Int)-(k+1)).toNat=j)];exact⟨⟨ω,ω,bx,bz,c0,c2,Q',c3⟩,ω⟩
 have a1:=qB a1;rw[(ω:((D:Int)-k).toNat=0),g0j,wF]at J;have co:0<=s:=ω
 obtain⟨T,W⟩:=C5q (A:=nv a) (B:=nv b) (S:=s.toNat) (q:=nv q) (r:=nv u) (tH (bS I bp)) (by rw[<-ax, <-R];exact aa) (by rw[<-R];exact J);refine⟨⟨qH _,ω,ω⟩,?_,?_⟩
 . show(List.drop _ (List.take _ _)).length<= _;rw[sW,rA];omega
 rintro⟨m,dt,_⟩ _ o;refine⟨trivial,?_⟩;rintro⟨ba,_⟩ _ bv;simp only at o bv|-;have o:=(o.2 co).1;rw[show(Int.toNat 0)=0 from rfl,uH,show((b.length:Int)).toNat=b.length from qN _,Jt F,bg,uC ω,W]at o;exact⟨by rw[bv,T],o⟩
def LB:An:= {plan:= [(8,[],[],true, .done)]}
def XG:An:= {join:= [(4,⟨[],[],[(0,false,[.val qa]),(1,false,[.val qa])],[],[]⟩)],loop:= [(7,⟨[],[],[(5,false,vU),(6,false,vU)],[],[]⟩),(4,⟨[],[],[(0,false,[.val qa]),(1,false,[.val qa])],[],[]⟩)],plan:= [(8,[],[],true, .done),(15,[2,5,9,12],[],true, .done),(16,[2,5,9,12],[],true, .done)]}
def Qa(x:Gt):Prop:=let e:=(0:Nat);let d:=(nv x.1%nv x.2.1);let c:=(nv x.1/nv x.2.1);let b:=(0:Int);True/\R6 λr=>let f:Prop:=((r.1.length:Int)<=(2:Int));r.1=nc (nv x.1)->True/\R6 λh=>let a:=(h.1.length:Int);h.1=nc (nv x.2.1)->(iB (decide (a=b)) ((nv x.2.1=e->Ow Int= []/\Ow Int= []/\false=false)/\(nv x.2.1≠e->Ow Int=nc c/\Ow Int=nc d/\false=true)) (True/\Ci λk=>k.1=Dc (nv r.1) (nv h.1)->(iB (decide (k.1<b)) (Hz r.1/\R6 λg=>g.1=nc (nv r.1)->(nv x.2.1=e->Ow Int= []/\g.1= []/\true=false)/\(nv x.2.1≠e->Ow Int=nc c/\g.1=nc d/\true=true)) ((iB (decide f) (List.length r.1<=2/\rT1 λg=>g.1=(↑(nv r.1):Int)->List.length h.1<=2/\rT1 λr=>r.1=(↑(nv h.1):Int)->r.1≠b/\r.1≠b/\True/\R6 λi=>i.1=nc (u64.wrap (Int.tdiv g.1 r.1)).toNat->True/\R6 λj=>j.1=nc (Int.tmod g.1 r.1).toNat->(nv x.2.1=e->i.1= []/\j.1= []/\true=false)/\(nv x.2.1≠e->i.1=nc c/\j.1=nc d/\true=true)) ((iB (decide (a=(1:Int))) ((b<=b/\b<a)/\(N2 r.1/\gx b h.1 b≠b)/\∀(g:Gt),Ia g.1/\Ia g.2.1/\True->g.1=nc (nv r.1/(gx b h.1 b).toNat)/\g.2.1=nc (nv r.1%(gx b h.1 b).toNat)->(nv x.2.1=e->g.1= []/\g.2.1= []/\true=false)/\(nv x.2.1≠e->g.1=nc c/\g.2.1=nc d/\true=true)) ((N2 r.1/\(2:Nat)<=List.length h.1/\List.length h.1<=List.length r.1/\Nv h.1)/\∀(g:Gt),Ia g.1/\Ia g.2.1/\True->g.1=nc (nv r.1/nv h.1)/\g.2.1=nc (nv r.1%nv h.1)->(nv x.2.1=e->g.1= []/\g.2.1= []/\true=false)/\(nv x.2.1≠e->g.1=nc c/\g.2.1=nc d/\true=true)))))))))
abbrev B9k:=Wf×Wf×Bool×Unit
def CQ(x:Gt):Prop:=let e:=(nv x.2.1);let c:=(0:Int);True/\R6 λr=>r.1=nc (nv x.1)->True/\R6 λj=>j.1=nc e->∃(J:Gt->Prop),(True/\Ci λh=>h.1=Dc (nv r.1) (nv j.1)->(iB (decide (h.1<c)) (J (j.1,r)) (J (r.1,j))))/\∀(p:Gt),(Ty.int u32).sl.wf p.1/\(Ty.int u32).sl.wf p.2.1/\True->J p->∃(I:Gt->Prop),∃(a: _->Nat),I (p.1,p.2.1,())/\∀(p:Gt),let g:=(↑(nv p.2.1):Int);let d:Prop:=((p.1.length:Int)<=(2:Int));let b:Prop:=(c<(p.2.1.length:Int));(Ty.int u32).sl.wf p.1/\(Ty.int u32).sl.wf p.2.1/\True->I p->(iB (decide b) ((iB (decide d) (List.length p.1<=2/\rT1 λr=>r.1=(↑(nv p.1):Int)->List.length p.2.1<=2/\rT1 λh=>h.1=g->∃(I:Cw->Prop),∃(a: _->Nat),I (r.1,h)/\∀(p:Cw),let d:=(p.2.1,Int.tmod p.1 p.2.1,());(Ty.int u64).wf p.1/\(Ty.int u64).wf p.2.1/\True->I p->(iB (decide (p.2.1≠c)) (p.2.1≠c/\I d/\a d<a p) (True/\R6 λr=>r.1=nc p.1.toNat->r.1=nc ((nv x.1).gcd e)))) ((N2 p.1/\(3:Nat)<=List.length p.1/\Nv p.1/\nv p.2.1<=nv p.1/\List.length p.2.1<=List.length p.1)/\∀(r:(Int×Int×Int×Int×Bool)×Unit),(KS r.1.1/\KS r.1.2.1/\KS r.1.2.2.1/\KS r.1.2.2.2.1/\True)/\True->C6k (↑(nv p.1):Int) g r.1.1 r.1.2.1 r.1.2.2.1 r.1.2.2.2.1 r.1.2.2.2.2->(iB (decide (r.1.2.2.1=c)) (N2 p.1/\∀(r:B9k),let f:=(p.2.1,r.2.1,());Ia r.1/\Ia r.2.1/\True/\True->(nv p.2.1=0->r.1= []/\r.2.1= []/\r.2.2.1=false)/\(nv p.2.1≠0->r.1=nc (nv p.1/nv p.2.1)/\r.2.1=nc (nv p.1%nv p.2.1)/\r.2.2.1=true)->I f/\a f<a p) ((iB r.1.2.2.2.2 ((Fu p.1/\Fu p.2.1/\nv p.2.1*Int.toNat r.1.2.2.1<=nv p.1*Int.toNat r.1.1)/\R6 λh=>h.1=nc (nv p.1*Int.toNat r.1.1-nv p.2.1*Int.toNat r.1.2.2.1)->(Fu p.2.1/\Fu p.1/\nv p.1*Int.toNat r.1.2.1<=nv p.2.1*Int.toNat r.1.2.2.2.1)/\R6 λi=>i.1=nc (nv p.2.1*Int.toNat r.1.2.2.2.1-nv p.1*Int.toNat r.1.2.1)->I (h.1,i)/\a (h.1,i)<a p) ((Fu p.2.1/\Fu p.1/\nv p.1*Int.toNat r.1.1<=nv p.2.1*Int.toNat r.1.2.2.1)/\R6 λh=>h.1=nc (nv p.2.1*Int.toNat r.1.2.2.1-nv p.1*Int.toNat r.1.1)->(Fu p.1/\Fu p.2.1/\nv p.2.1*Int.toNat r.1.2.2.2.1<=nv p.1*Int.toNat r.1.2.1)/\R6 λi=>i.1=nc (nv p.1*Int.toNat r.1.2.1-nv p.2.1*Int.toNat r.1.2.2.2.1)->I (h.1,i)/\a (h.1,i)<a p))))))) (Hz p.1/\R6 λr=>r.1=nc (nv p.1)->r.1=nc ((nv x.1).gcd e)))
def CP:sq Ak Qa:=λx I R=>by
 obtain⟨a,b,_⟩:=x;have O:B4 a:=A6 I.1.2;have Y:B4 b:=A6 I.2.1.2;change Wf at a b;have B:a.length<=17592186044416:=R;have W:=D6 O;simp only[Qa,iB,R6,rT1,Ci];refine⟨trivial,?_⟩;rintro⟨y,_⟩ _ r;refine⟨trivial,?_⟩;rintro⟨s,_⟩ _ j;simp only at r j|-;have t:nv y=nv a:=by rw[r,F9]
 have u:nv s=nv b:=by rw[j,F9]
 have A:y.length<=a.length:=by rw[r];exact W
 have a1:B4 y:=r▸L5 _;have T:B4 s:=j▸L5 _;refine⟨λh=>?_,λh=>?_⟩
 . have h:=qA h;have c:nv b=0:=by rw[<-u,qR (l:=s) ω];rfl
   exact⟨λ_=>⟨by trivial,by trivial,by trivial⟩,λf=>absurd c f⟩
 have h:=qB h;have o:nv b≠0:=λc=>h (by rw[j,c,R5];rfl)
 refine⟨trivial,?_⟩;rintro⟨X,_⟩ _ g;simp only at g|-;rw[t,u]at g;refine⟨λh=>?_,λh=>?_⟩
 . have h:=qA h;have E:nv a<nv b:=by
    rcases sI (nv a) (nv b)with f|f
    . exact f
    unfold Dc at g;rw[qG ω]at g;split at g<;>omega
   refine⟨qY A (qY B δ),?_⟩;rintro⟨a3,_⟩ _ H;simp only at H|-;refine⟨λc=>absurd c o,λ_=>⟨?_,?_,by trivial⟩⟩
   . rw[uO E,R5]
   rw[uC E,H,t]
 have h:=qB h;have P:nv b<=nv a:=by
  rcases sI (nv a) (nv b)with f|f
  . rw[Pj f]at g;omega
  exact f
 have U:s.length<=y.length:=by rw[r,j];exact K7 P
 refine⟨λk=>?_,λk=>?_⟩
 . have k:=qA k;refine⟨ω,?_⟩;rintro⟨x,_⟩ ⟨J,_⟩ v;refine⟨ω,?_⟩;rintro⟨D,_⟩ ⟨V,_⟩ w;change Int at x D;simp only at J V v w|-;rw[t]at v;rw[u]at w;have a2:x<=18446744073709551615:=by have:=J.2;rw[FG]at this;exact this
   have M:Int.tdiv x D=((nv a/nv b:Nat):Int):=by rw[v,w];rfl
   have N:Int.tmod x D=((nv a%nv b:Nat):Int):=by rw[v,w];rfl
   have a0:nv a/nv b<=nv a:=xC _ _;refine⟨ω,ω,trivial,?_⟩;rintro⟨q,_⟩ _ G;refine⟨trivial,?_⟩;rintro⟨m,_⟩ _ F;simp only at G F|-;refine⟨λc=>absurd c o,λ_=>⟨?_,?_,by trivial⟩⟩
   . rw[G,M];generalize nv a/nv b=Q at*;rw[Y8 ω ω];rfl
   rw[F,N];rfl
 have k:=qB k;refine⟨λn=>?_,λn=>?_⟩
 . have n:=qA n;have e:(gx (0:Int) s (0:Int)).toNat=nv b:=by
    rw[<-u];obtain⟨z,rfl⟩:∃z,s= [z]:=g2s.1 ω;show z.toNat=z.toNat+4294967296*0;omega
   have Z:=Vq T (i:=0) (qH _) ω;refine⟨⟨qH _,ω⟩,⟨qY A B,ω⟩,?_⟩;rintro⟨q,m,_⟩ _ d;simp only at d|-;rw[e,t]at d;exact⟨λc=>absurd c o,λ_=>⟨d.1,d.2,by trivial⟩⟩
 have n:=qB n;refine⟨⟨qY A B,ω,U,by rw[j];exact iM o⟩,?_⟩;rintro⟨q,m,_⟩ _ d;simp only at d|-;rw[t,u]at d;exact⟨λc=>absurd c o,λ_=>⟨d.1,d.2,by trivial⟩⟩
structure oG (A B A' B':Nat):Prop where
 g:Nat.gcd A' B'=Nat.gcd A B
 le:B'<=A'
 lt:A'+B'<A+B
 top:A'<=A
def B1e {A B:Nat} (h:B<=A) (a:0<B):oG A B B (A%B) where
 g:=by rw[xG A B,xG B];exact(g3t B A).symm
 le:=vV (wL _ a)
 lt:=by have:=wL A a;omega
 top:=h
def B1n {A B:Nat} {u0 u1 v0 v1:Int} {ev:Bool} (I:0<B) (h:C6k A B u0 u1 v0 v1 ev) (r:v0≠0):
 (ev=true->B*v0.toNat<=A*u0.toNat/\A*u1.toNat<=B*v1.toNat/\oG A B (A*u0.toNat-B*v0.toNat) (B*v1.toNat-A*u1.toNat))/\
 (ev=false->A*u0.toNat<=B*v0.toNat/\B*v1.toNat<=A*u1.toNat/\oG A B (B*v0.toNat-A*u0.toNat) (A*u1.toNat-B*v1.toNat)):=by
 rcases h with h| ⟨A',B',d,f,k,n,u,iB,v,w,z,D⟩
 . exact absurd h r
 have o:=B6b (A:=A) (B:=B) (A':=A') (B':=B') (u0:=u0) (u1:=u1) (v0:=v0) (v1:=v1) (s:=if ev then u0 else -u0) (t:=if ev then -v0 else v0) (p:=if ev then -u1 else u1) (q:=if ev then v1 else -v1) u iB (by rw[d];cases ev<;>simp<;>grind) (by rw[f];cases ev<;>simp<;>grind);obtain⟨U0,rfl⟩:=uU z;obtain⟨U1,rfl⟩:=uU D;obtain⟨V0,rfl⟩:=uU (ω:(0:Int)<=v0);obtain⟨V1,rfl⟩:=uU (ω:(0:Int)<=v1);obtain⟨b,rfl⟩:=uU k;obtain⟨a,rfl⟩:=uU (g2q k n);simp only[qN];have J:(1:Int)*(a:Int)<=(V1:Int)*a:=sQ w ω;have M:(1:Int)*(b:Int)<=(V0:Int)*b:=sQ v ω;have c:∀x y:Nat,((x*y:Nat):Int)=(y:Int)*(x:Int):=λx y=>by rw[uY,g2r]
 have E:=c A U0;have F:=c B V0;have G:=c A U1;have H:=c B V1;have l:oG A B a b:=⟨o.symm,ω,ω,ω⟩;refine⟨λg=>?_,λg=>?_⟩
 . subst g;simp only[vZ]at d f;have i:A*U0-B*V0=a:=ω
   have j:B*V1-A*U1=b:=ω
   refine⟨ω,ω,?_⟩;rw[i,j];exact l
 subst g;simp only[wC,yF]at d f;have i:B*V0-A*U0=a:=ω
 have j:A*U1-B*V1=b:=ω
 refine⟨ω,ω,?_⟩;rw[i,j];exact l
def B6c {x y:Int} (d:0<=x) (f:0<y):Nat.gcd y.toNat (Int.tmod x y).toNat=Nat.gcd x.toNat y.toNat/\(Int.tmod x y).toNat<y.toNat:=by
 obtain⟨a,rfl⟩:=uU d;obtain⟨b,rfl⟩:=uU (xF f);have e:Int.tmod (a:Int) (b:Int)=((a%b:Nat):Int):=rfl;simp only[e,qN];have c:0<b:=ω
 exact⟨by rw[xG a b,xG b];exact(g3t b a).symm,wL _ c⟩
structure B3p (G:Nat) (a b:Wf):Prop where
 ea:a=nc (nv a)
 eb:b=nc (nv b)
 le:nv b<=nv a
 g:Nat.gcd (nv a) (nv b)=G
 len:a.length<=8796093022208
def B3p.step {G:Nat} {a b c d:Wf} {A' B':Nat} (h:B3p G a b) (s:oG (nv a) (nv b) A' B') (i:c=nc A') (j:d=nc B'):B3p G c d/\nv c+nv d<nv a+nv b:=by
 have f:nv c=A':=by rw[i,F9]
 have c:nv d=B':=by rw[j,F9]
 refine⟨⟨by rw[f];exact i,by rw[c];exact j,by rw[f,c];exact s.le,by rw[f,c,s.g];exact h.g,?_⟩,by rw[f,c];exact s.lt⟩;have:=K7 s.top;rw[<-h.ea]at this;rw[i];exact qY this h.len
def NY:sq Fc CQ:=λx J k=>by
 obtain⟨c,d,_⟩:=x;have U:B4 c:=A6 J.1.2;have V:B4 d:=A6 J.2.1.2;change Wf at c d;obtain⟨ah,ai⟩:c.length<=8796093022208/\d.length<=8796093022208:=k;have aj:=D6 U;have ak:=D6 V;simp only[CQ,iB,R6,rT1,Ci];refine⟨trivial,?_⟩;rintro⟨a3,_⟩ _ v;refine⟨trivial,?_⟩;rintro⟨a4,_⟩ _ w;simp only at v w|-;have n:nv a3=nv c:=by rw[v,F9]
 have o:nv a4=nv d:=by rw[w,F9]
 refine⟨λp=>B3p (Nat.gcd (nv c) (nv d)) p.1 p.2.1,⟨trivial,?_⟩,?_⟩
 . rintro⟨ad,_⟩ _ r;simp only at r|-;rw[n,o]at r;refine⟨λt=>?_,λt=>?_⟩
   . have t:=qA t;refine⟨by rw[o];exact w,by rw[n];exact v,?_,by rw[n,o,xG],by rw[w];omega⟩;rw[n,o];rcases sI (nv c) (nv d)with f|f
     . omega
     unfold Dc at r;rw[qG ω]at r;split at r<;>omega
   have t:=qB t;refine⟨by rw[n];exact v,by rw[o];exact w,?_,by rw[n,o],by rw[v];omega⟩;rw[n,o];rcases sI (nv c) (nv d)with f|f
   . rw[Pj f]at r;omega
   exact f
 rintro⟨ab,ac,_⟩ _ F;simp only at F|-;refine⟨λp=>B3p (Nat.gcd (nv c) (nv d)) p.1 p.2.1,λp=>nv p.1+nv p.2.1,F,?_⟩;rintro⟨s,h,_⟩ ⟨a1,a2,_⟩ a;have ae:B4 s:=A6 a1.2;have af:B4 h:=A6 a2.2;change Wf at s h;simp only at a|-;have ag:=a.len;have Z:h.length<=s.length:=by rw[a.ea,a.eb];exact K7 a.le
 refine⟨λj=>?_,λj=>?_⟩
 . have j:=qA j;have G:0<nv h:=by
    rcases vN (nv h)with f|f
    . have:=a.eb;rw[f,R5]at this;rw[this]at j;exact absurd j (by simp)
    exact f
   have T:nv s≠0:=by have:=a.le;omega
   refine⟨λu=>?_,λu=>?_⟩
   . have u:=qA u;refine⟨ω,?_⟩;rintro⟨x,_⟩ _ M;refine⟨ω,?_⟩;rintro⟨O,_⟩ _ N;simp only at M N|-;refine⟨λp=>0<=p.1/\0<=p.2.1/\Nat.gcd p.1.toNat p.2.1.toNat=Nat.gcd (nv c) (nv d),λp=>p.2.1.toNat,⟨by show(0:Int)<=x;omega,by show(0:Int)<=O;omega,?_⟩,?_⟩
     . show Nat.gcd x.toNat O.toNat= _;rw[M,N,qN,qN];exact a.g
     rintro⟨(X:Int),(Y:Int),_⟩ _ ⟨E,P,z⟩;simp only at E P z|-;refine⟨λi=>?_,λi=>?_⟩
     . have i:=qA i;obtain⟨Q,R⟩:=B6c E (ω:0<Y);exact⟨i,⟨P,zO _ E,by rw[Q];exact z⟩,R⟩
     have i:Y=0:=g3k (qB i);refine⟨trivial,?_⟩;rintro⟨q,_⟩ _ b;simp only at b|-;rw[i]at z;rw[b, <-z];exact sA nc (g1n _).symm
   have u:=qB u;refine⟨⟨ω,ω,by rw[a.ea];exact iM T,a.le,Z⟩,?_⟩;rintro⟨⟨(a5:Int),(a6:Int),(a7:Int),(a8:Int),(ev:Bool)⟩,_⟩ _ H;simp only at H|-;refine⟨λy=>?_,λy=>?_⟩
   . refine⟨ω,?_⟩;rintro⟨q,m,am,_⟩ _ I;simp only at I|-;obtain⟨_,a0,_⟩:=I.2 ω;exact a.step (B1e a.le G) a.eb a0
   have y:=qB y;obtain⟨a9,aa⟩:=B1n G H y;refine⟨λB=>?_,λB=>?_⟩
   . obtain⟨c1,A,D⟩:=a9 B;refine⟨⟨ω,ω,c1⟩,?_⟩;rintro⟨p,_⟩ _ k;refine⟨⟨ω,ω,A⟩,?_⟩;rintro⟨q,_⟩ _ b;simp only at k b|-;exact a.step D k b
   obtain⟨c1,A,D⟩:=aa B;refine⟨⟨ω,ω,c1⟩,?_⟩;rintro⟨p,_⟩ _ k;refine⟨⟨ω,ω,A⟩,?_⟩;rintro⟨q,_⟩ _ b;simp only at k b|-;exact a.step D k b
 have j:=qB j;refine⟨by show s.length<=35184372088832;omega,?_⟩;rintro⟨q,_⟩ _ b;simp only at b|-;have W:nv h=0:=by rw[qR (l:=h) ω];rfl
 have:=a.g;rw[W,g1n]at this;rw[b,this]
def KX:An:= {}
def HY:An:= {}
def UO:An:= {}
def UN:An:= {plan:= [(1,[1,3],[6],true, .done)]}
def XB:An:= {plan:= [(1,[1,4],[7],true, .done)]}
def WZ:An:= {plan:= [(2,[1,3,5],[8],true, .done)]}
def XA:An:= {plan:= [(1,[1,3,6,8],[11],true, .done)]}
def HX:An:= {plan:= [(1,[0,2],[],true, .done)]}
def Px(x:Bool×Wf×Unit):Prop:=(F5 x.1 (decide ((0:Int)<(x.2.1.length:Int))) false,x.2.1)=(x.1&&decide (x.2.1≠ []),x.2.1)
def V6 (P:(Bool×Wf)×Unit->Prop):Prop:=∀r:(Bool×Wf)×Unit,oA r.1/\True->P r
def Ob(x:D3):Prop:=(iB (decide (x.1<0)) (True/\R6 λr=>r.1=nc (u64.wrap (-u64.wrap x.1)).toNat->True/\V6 λa=>a.1=(true&&decide (r.1≠ []),r.1)->a.1=ic x.1) (True/\R6 λr=>r.1=nc (u64.wrap x.1).toNat->True/\V6 λa=>a.1=(false&&decide (r.1≠ []),r.1)->a.1=ic x.1))
abbrev Za:=(Bool×Wf)×Unit
def Xn(x:Za):Prop:=True/\Ci λr=>r.1=Dc (nv x.1.2) (nv [])->(iB (decide (r.1=0)) ((0:Int)=(iv x.1).sign) ((iB x.1.1 ((-1:Int)=(iv x.1).sign) ((1:Int)=(iv x.1).sign))))
def Xm(x:Za):Prop:=Hz x.1.2/\R6 λr=>r.1=nc (nv x.1.2)->True/\V6 λa=>a.1=(x.1.1&&decide (r.1≠ []),r.1)->a.1=ic (iv x.1)
def CG(x:Za):Prop:=Hz x.1.2/\R6 λr=>r.1=nc (nv x.1.2)->True/\V6 λa=>a.1=(!x.1.1&&decide (r.1≠ []),r.1)->a.1=ic (-iv x.1)
abbrev eZ:=(Bool×Wf)×(Bool×Wf)×Unit
def CE(x:eZ):Prop:=let b:Prop:=(N2 x.1.2/\N2 x.2.1.2);let a:=(iv x.1+iv x.2.1);(iB ((x.1.1==x.2.1.1)) (b/\R6 λr=>r.1=nc (nv x.1.2+nv x.2.1.2)->True/\V6 λc=>c.1=(x.1.1&&decide (r.1≠ []),r.1)->c.1=ic a) (b/\∀(r:A7g),Ia r.1/\True/\True->(nv x.1.2<nv x.2.1.2->r.1= []/\r.2.1=false)/\(nv x.2.1.2<=nv x.1.2->r.1=nc (nv x.1.2-nv x.2.1.2)/\r.2.1=true)->(iB r.2.1 (True/\V6 λc=>c.1=(x.1.1&&decide (r.1≠ []),r.1)->c.1=ic a) ((N2 x.2.1.2/\N2 x.1.2)/\∀(r:A7g),Ia r.1/\True/\True->(nv x.2.1.2<nv x.1.2->r.1= []/\r.2.1=false)/\(nv x.1.2<=nv x.2.1.2->r.1=nc (nv x.2.1.2-nv x.1.2)/\r.2.1=true)->True/\V6 λc=>c.1=(x.2.1.1&&decide (r.1≠ []),r.1)->c.1=ic a))))
def CF(x:eZ):Prop:=(N2 x.1.2/\N2 x.2.1.2)/\R6 λr=>r.1=nc (nv x.1.2*nv x.2.1.2)->True/\V6 λa=>a.1=(x.1.1 !=x.2.1.1&&decide (r.1≠ []),r.1)->a.1=ic (iv x.1*iv x.2.1)
def Oa(x:eZ):Prop:=let b:=(iv x.1);let a:=(iv x.2.1);True/\Ci λr=>r.1=b.sign->True/\Ci λc=>c.1=a.sign->(iB (decide (r.1<c.1)) ((-1:Int)=N4 b a) ((iB (decide (c.1<r.1)) ((1:Int)=N4 b a) ((iB (decide (r.1<0)) (True/\Ci λr=>r.1=Dc (nv x.2.1.2) (nv x.1.2)->r.1=N4 b a) (True/\Ci λr=>r.1=Dc (nv x.1.2) (nv x.2.1.2)->r.1=N4 b a))))))
def CH:sq Aj Px:=λx a _=>by
 obtain⟨(b:Bool),(l:Wf),_⟩:=x;simp only[Px,J5];cases l<;>simp
def Zg:sq X9 Ob:=λx d _=>by
 obtain⟨(v:Int),_⟩:=x;have c:i64.min<=v/\v<=i64.max:=d.1;rw[Vm,EQ]at c;simp only[Ob,iB,R6,V6];refine⟨λh=>⟨trivial,?_⟩,λh=>⟨trivial,?_⟩⟩
 . rintro⟨r,_⟩ _ a;refine⟨trivial,?_⟩;rintro⟨s,_⟩ _ b;simp only at a b|-;have h:=qA h;have e:(u64.wrap (-u64.wrap v)).toNat=v.natAbs:=by rw[Ct,Ct];omega
   rw[e]at a;subst b a;unfold ic;rw[rB h,wI,rB (by rw[g4k,AW];omega)]
 rintro⟨r,_⟩ _ a;refine⟨trivial,?_⟩;rintro⟨s,_⟩ _ b;simp only at a b|-;have h:=qB h;have e:(u64.wrap v).toNat=v.natAbs:=by rw[Ct];omega
 rw[e]at a;subst b a;unfold ic;rw[qX h,yW]
def KA:sq Dl Xn:=λx f _=>by
 obtain⟨⟨(d:Bool),(l:Wf)⟩,_⟩:=x;simp only[Xn,iB,Ci];refine⟨trivial,?_⟩;rintro⟨r,_⟩ _ a;simp only at a|-;rw[mM]at a;refine⟨λh=>?_,λh=>⟨λc=>?_,λc=>?_⟩⟩
 . have h:=qA h;have b:nv l=0:=ZP.1 (a▸h);unfold iv;simp only[b];split<;>rfl
 . have h:=qB h;have b:nv l≠0:=λe=>h (by rw[a,e];rfl)
   unfold iv;simp only[c,vZ];rw[Int.sign_neg,uK ω]
 have h:=qB h;have b:nv l≠0:=λe=>h (by rw[a,e];rfl)
 unfold iv;simp only[c];exact(uK (by simp;omega)).symm
def bJ {neg:Bool} {m:Nat} {v:Int} (h:v=if neg=true then -(m:Int)else(m:Int)):(neg&&decide (nc m≠ []),nc m)=ic v:=by
 have e:ic (iv (neg,nc m))=(neg&&decide (m≠0),nc m):=B6g;have a:iv (neg,nc m)=v:=by rw[h];unfold iv;simp only[F9]
 rw[a]at e;rw[e];have:decide (nc m≠ [])=decide (m≠0):=wH.2 (g5s AW);rw[this]
def JZ:sq Dk Xm:=λx f d=>by
 obtain⟨⟨(c:Bool),(l:Wf)⟩,_⟩:=x;simp only[Xm,R6,V6];refine⟨d,?_⟩;rintro⟨r,_⟩ _ a;refine⟨trivial,?_⟩;rintro⟨z,_⟩ _ b;simp only at a b|-;subst a;rw[b];exact bJ rfl
def NQ:sq Ev CE:=λx s o=>by
 obtain⟨⟨(b:Bool),(l:Wf)⟩,⟨(g:Bool),(k:Wf)⟩,_⟩:=x;obtain⟨j,i⟩:N2 l/\N2 k:=o;simp only[CE,iB,R6,V6];refine⟨λh=>?_,λh=>?_⟩
 . refine⟨⟨j,i⟩,?_⟩;rintro⟨r,_⟩ _ c;refine⟨trivial,?_⟩;rintro⟨z,_⟩ _ a;simp only at c a|-;have h:b=g:=by simpa using h
   subst c h;rw[a];refine bJ ?_;unfold iv;cases b<;>simp<;>omega
 have h:g= !b:=by cases b<;>cases g<;>simp_all
 subst h;refine⟨⟨j,i⟩,?_⟩;rintro⟨r,t,_⟩ _ c;simp only at c|-;refine⟨λf=>⟨trivial,?_⟩,λf=>⟨⟨i,j⟩,?_⟩⟩
 . rintro⟨z,_⟩ _ a;simp only at a|-;rcases sI (nv l) (nv k)with d|d
   . rw[(c.1 d).2]at f;exact absurd f δ
   rw[(c.2 d).1]at a;rw[a];refine bJ ?_;unfold iv;cases b<;>simp<;>omega
 rintro⟨v,u,_⟩ _ n;refine⟨trivial,?_⟩;rintro⟨z,_⟩ _ a;simp only at n a|-;rcases sI (nv l) (nv k)with d|d
 . rw[(n.2 ω).1]at a;rw[a];refine bJ ?_;unfold iv;cases b<;>simp<;>omega
 rw[(c.2 d).2]at f;exact absurd f δ
def NS:sq Ew CF:=λx i h=>by
 obtain⟨⟨(b:Bool),(l:Wf)⟩,⟨(c:Bool),(k:Wf)⟩,_⟩:=x;obtain⟨g,f⟩:N2 l/\N2 k:=h;simp only[CF,R6,V6];refine⟨⟨g,f⟩,?_⟩;rintro⟨r,_⟩ _ a;refine⟨trivial,?_⟩;rintro⟨z,_⟩ _ d;simp only at a d|-;subst a;rw[d];refine bJ ?_;unfold iv;cases b<;>cases c<;>simp<;>grind
def FR:An:= {}
def LH:An:= {plan:= [(3,[1],[4],false, .done)]}
def PP:An:= {}
def LI:An:= {}
def Zx:An:= {join:= [(4,⟨[0,1,4],[0],[(5,false,vU)],[],[]⟩)],loop:= [(5,⟨[0,1,4,5],[0],[(6,false,vU),(7,false,vU)],[],[]⟩)],plan:= [(6,[],[],true, .done),(7,[],[13],true, .done)]}
def IG:An:= {join:= [(8,⟨[2,4],[1],[(1,false,[.val qa])],[(0,44,[.val .bool, .val qa])],[]⟩)]}
def PO:An:= {}
def Le(x:D3):Prop:=True/\V6 λr=>r.1=ic x.1->(r.1,[(1:Int)])=ri x.1
def Qf(x:D1):Prop:=let d:=(1:Int);let c:=(0:Nat);let b:Prop:=(nv x.1.2=c->x.1.1=zi/\x.1.2= [d]);let a:Prop:=(nv x.1.2≠c->x.1.1=x.1.1/\x.1.2=x.1.2);True/\Ci λr=>r.1=Dc (nv x.1.2) (nv [])->(iB (decide (r.1=0)) ((nv x.1.2=c->(false,[])=zi/\ [d]= [d])/\(nv x.1.2≠c->(false,[])=x.1.1/\ [d]=x.1.2)) ((b/\a)/\b/\a))
abbrev nO:=(Bool×Wf)×Wf×Unit
def Un(x:D1):Prop:=True/\∀(r:nO),oA r.1/\Ia r.2.1/\True->(nv x.1.2=0->r.1=zi/\r.2.1= [(1:Int)])/\(nv x.1.2≠0->r.1=x.1.1/\r.2.1=x.1.2)->True/\Ci λa=>a.1=(iv r.1).sign->a.1=(rv x.1).num.sign
def Qg(x:D1):Prop:=let e:=(0:Int);let c:Prop:=(¬K9 x.1->true=false);let b:=(18446744073709551616:Nat);True/\∀(r:B2z),KS r.1/\True/\True->(nv x.1.1.2<b->r.1=(↑(nv x.1.1.2):Int)/\r.2.1=true)/\(b<=nv x.1.1.2->r.2.1=false)->True/\∀(f:B2z),let d:=(decide (2147483648<=f.1));let a:=(F5 (F5 (!r.2.1) true !f.2.1) true (decide (2147483648<=r.1)));KS f.1/\True/\True->(nv x.1.2<b->f.1=(↑(nv x.1.2):Int)/\f.2.1=true)/\(b<=nv x.1.2->f.2.1=false)->(iB (F5 a true d) ((K9 x.1->e=Sk x.1/\e=Ov x.1/\false=true)/\(¬K9 x.1->false=false)) ((iB (decide (f.1=e)) ((K9 x.1->e=Sk x.1/\(1:Int)=Ov x.1/\true=true)/\c) ((iB x.1.1.1 ((K9 x.1->i64.wrap (-i64.wrap r.1)=Sk x.1/\i64.wrap f.1=Ov x.1/\true=true)/\c) ((K9 x.1->i64.wrap r.1=Sk x.1/\i64.wrap f.1=Ov x.1/\true=true)/\c))))))
def Kl(x:Cw):Prop:=let a:=(0:Int);∃(J:D3->Prop),((iB (decide (x.1<a)) (J (u64.wrap (-u64.wrap x.1),())) (J (u64.wrap x.1,()))))/\∀(p:D3),(Ty.int u64).wf p.1/\True->J p->∃(I:Cw->Prop),∃(d: _->Nat),I (u64.wrap x.2.1,p)/\∀(c:Cw),let b:=(c.2.1,Int.tmod c.1 c.2.1,());(Ty.int u64).wf c.1/\(Ty.int u64).wf c.2.1/\True->I c->(iB (decide (c.2.1≠a)) (c.2.1≠a/\I b/\d b<d c) (c.1≠a/\c.1≠a/\True/\R6 λr=>r.1=nc (u64.wrap (Int.tdiv p.1 c.1)).toNat->True/\R6 λd=>d.1=nc (u64.wrap ((u64.wrap x.2.1).tdiv c.1)).toNat->((decide (x.1<a),r.1),d.1)=rc (mkRat x.1 x.2.1.toNat)))
abbrev D0r:=Wf×Bool×Wf×Unit
def Om(x:nO):Prop:=let g:=(0:Nat);let f:=(nv x.2.1);let c:=(1:Int);let b:=(0:Int);Hz x.1.2/\V6 λr=>let d:=(r.1.2.length:Int);r.1=ic (iv x.1)->Hz x.2.1/\R6 λk=>k.1=nc f->(iB (decide (d=b)) (((false,[]),[c])=rc (mkRat (iv x.1) f)) ((Fu r.1.2/\Fu k.1)/\R6 λh=>let e:=(decide (gx b h.1 b≠c));let a:=(h.1.length:Int);h.1=nc ((nv r.1.2).gcd (nv k.1))->∃(J:D0r->Prop),((decide (a≠c)=false->b<=b/\b<a)/\(iB (F5 (decide (a≠c)) true e) (N2 r.1.2/\∀(i:B9k),Ia i.1/\Ia i.2.1/\True/\True->(nv h.1=g->i.1= []/\i.2.1= []/\i.2.2.1=false)/\(nv h.1≠g->i.1=nc (nv r.1.2/nv h.1)/\i.2.1=nc (nv r.1.2%nv h.1)/\i.2.2.1=true)->N2 k.1/\∀(j:B9k),Ia j.1/\Ia j.2.1/\True/\True->(nv h.1=g->j.1= []/\j.2.1= []/\j.2.2.1=false)/\(nv h.1≠g->j.1=nc (nv k.1/nv h.1)/\j.2.1=nc (nv k.1%nv h.1)/\j.2.2.1=true)->J (j.1,r.1.1,i.1,())) (J (k.1,r.1.1,r.1.2,()))))/\∀(p:D0r),(Ty.int u32).sl.wf p.1/\Ty.bool.wf p.2.1/\(Ty.int u32).sl.wf p.2.2.1/\True->J p->((p.2.1,p.2.2.1),p.1)=rc (mkRat (iv x.1) f)))
def N6 (P:QQ×Unit->Prop):Prop:=∀r:QQ×Unit,OZ r.1/\True->P r
def Um(x:D1):Prop:=True/\∀(r:A3c),R8 r.1/\R8 r.2.1/\True/\True->(K9 x.1->r.1=Sk x.1/\r.2.1=Ov x.1/\r.2.2.1=true)/\(¬K9 x.1->r.2.2.1=false)->(iB r.2.2.1 (0<r.2.1/\N6 λa=>a.1=rc (mkRat r.1 r.2.1.toNat)->a.1=rc (rv x.1)) (True/\∀(r:nO),oA r.1/\Ia r.2.1/\True->(nv x.1.2=0->r.1=zi/\r.2.1= [(1:Int)])/\(nv x.1.2≠0->r.1=x.1.1/\r.2.1=x.1.2)->(nv r.2.1≠0/\Fu r.1.2/\Fu r.2.1)/\N6 λa=>a.1=rc (mkRat (iv r.1) (nv r.2.1))->a.1=rc (rv x.1)))
def Wz:sq Q9 Le:=λx b _=>by
 obtain⟨v,_⟩:=x;simp only[Le,V6];refine⟨trivial,?_⟩;rintro⟨r,_⟩ _ a;simp only at a|-;rw[a];rfl
def DK:sq Av Qf:=λx d _=>by
 obtain⟨⟨c,(l:Wf)⟩,_⟩:=x;simp only[Qf,iB,Ci];refine⟨trivial,?_⟩;rintro⟨r,_⟩ _ b;simp only at b|-;rw[mM]at b;refine⟨λh=>?_,λh=>?_⟩
 . have a:nv l=0:=ZP.1 (b▸qA h);exact⟨λ_=>⟨rfl,by trivial⟩,λh=>absurd a h⟩
 have a:nv l≠0:=λe=>(qB h) (by rw[b,e];rfl)
 exact⟨⟨λh=>absurd h a,λ_=>⟨by trivial,by trivial⟩⟩,λh=>absurd h a,λ_=>⟨by trivial,by trivial⟩⟩
def GU:sq X1 Un:=λx g _=>by
 obtain⟨⟨d,(l:Wf)⟩,_⟩:=x;simp only[Un,Ci];refine⟨trivial,?_⟩;rintro⟨r,f,_⟩ _ ⟨a,b⟩;refine⟨trivial,?_⟩;rintro⟨s,_⟩ _ c;simp only at a b c|-;rw[c, <-C2q];unfold C7e;split
 . rename_i h;rw[(a h).1];rfl
 rename_i h;rw[(b h).1]
def DL:sq Aw Qg:=λx O _=>by
 obtain⟨⟨⟨(g:Bool),(a:Wf)⟩,(l:Wf)⟩,_⟩:=x;simp only[Qg,iB];refine⟨trivial,?_⟩;rintro⟨u,f,_⟩ _ ⟨k,y⟩;refine⟨trivial,?_⟩;rintro⟨v,d,_⟩ _ ⟨n,z⟩;change Int at u v;change Bool at f d;simp only at k y n z|-;have r:F5 (F5 (F5 (!f) true !d) true (decide (2147483648<=u))) true (decide (2147483648<=v))=(!f|| !d||decide (2147483648<=u) ||decide (2147483648<=v)):=by simp only[H7]
 rw[r];have G:(!f|| !d||decide (2147483648<=u) ||decide (2147483648<=v))=false->K9 ((g,a),l)/\u=(nv a:Int)/\v=(nv l:Int):=λh=>by
  simp only[rE,g1f,rM]at h;obtain⟨⟨⟨t,w⟩,M⟩,N⟩:=h;have D:nv a<18446744073709551616:=by
   rcases sI (nv a) 18446744073709551616 with h|h
   . exact h
   rw[y h]at t;cases t
  have E:nv l<18446744073709551616:=by
   rcases sI (nv l) 18446744073709551616 with h|h
   . exact h
   rw[z h]at w;cases w
  have I:=(k D).1;have J:=(n E).1;exact⟨⟨by show nv a< _;omega,by show nv l< _;omega⟩,I,J⟩
 have H:K9 ((g,a),l)->(!f|| !d||decide (2147483648<=u) ||decide (2147483648<=v))=false:=λh=>by
  obtain⟨(i:nv a< _),(j:nv l< _)⟩:=h;obtain⟨D,t⟩:=k ω;obtain⟨E,w⟩:=n ω;simp only[rE,g1f,rM];exact⟨⟨⟨t,w⟩,ω⟩,ω⟩
 refine⟨λh=>⟨λr=>?_,λ_=>trivial⟩,λh=>?_⟩
 . rw[H r]at h;cases h
 obtain⟨A,F,B⟩:=G h;have s:=A;obtain⟨(i:nv a< _),(j:nv l< _)⟩:=A;refine⟨λc=>?_,λc=>⟨λo=>?_,λo=>?_⟩⟩
 . have c:=qA c;have b:nv l=0:=ω
   exact⟨λ_=>⟨by unfold Sk;rw[qK b],by unfold Ov;rw[qK b],trivial⟩,λh=>absurd s h⟩
 . have c:=qB c;have b:nv l≠0:=ω
   refine⟨λ_=>⟨?_,?_,trivial⟩,λh=>absurd s h⟩
   . unfold Sk;rw[qG b,wv (a:=u) ω,wv ω];unfold iv;simp only[o,vZ];omega
   unfold Ov;rw[qG b,wv ω];exact B
 have c:=qB c;have b:nv l≠0:=ω
 refine⟨λ_=>⟨?_,?_,trivial⟩,λh=>absurd s h⟩
 . unfold Sk;rw[qG b,wv (a:=u) ω];unfold iv;simp only[o];simpa using F
 unfold Ov;rw[qG b,wv ω];exact B
def Uo:sq U4 Kl:=λx A F=>by
 obtain⟨(n:Int),(d:Int),_⟩:=x;have I:0<d:=F;have c:=(show i64.min<=n/\n<=i64.max from A.1);have r:=(show i64.min<=d/\d<=i64.max from A.2.1);rw[Vm,EQ]at c r;obtain⟨Q,R⟩:=c;have J:=r.2;have P:i64.min= -9223372036854775808:=Vm;simp only[Kl,iB,R6];refine⟨λp=>p.1=(n.natAbs:Int),⟨λh=>?_,λh=>?_⟩,?_⟩
 . have h:=qA h;show u64.wrap (-u64.wrap n)= _;rw[Ct,Ct];omega
 . have h:=qB h;show u64.wrap n= _;rw[Ct];omega
 rintro⟨U,_⟩ _ z;simp only at z|-;subst z;have o:u64.wrap d=d:=Y8 ω ω;refine⟨λp=>0<=p.1/\0<=p.2.1/\(p.1≠0\/p.2.1≠0)/\p.1.toNat.gcd p.2.1.toNat=d.toNat.gcd n.natAbs,λp=>p.2.1.toNat,?_,?_⟩
 . refine⟨ω,by show(0:Int)<=(n.natAbs:Int);omega, .inl ω,?_⟩;rw[o];rfl
 rintro⟨(g:Int),(t:Int),_⟩ _ ⟨j,a,D,k⟩;simp only at j a D k|-;refine⟨λh=>?_,λh=>?_⟩
 . have h:=qA h;have e:Int.tmod g t=g%t:=uS j;have i:=g2u g h;have M:=zT g (b:=t) ω;rw[e];refine⟨h,⟨a,i, .inl h,?_⟩,ω⟩;rw[<-k,Int.toNat_emod j a,xG t.toNat, <-g3t,xG]
 have h:t=0:=by simpa using h
 subst h;have u:g≠0:=ω
 refine⟨u,u,trivial,?_⟩;rintro⟨T,_⟩ _ y;refine⟨trivial,?_⟩;rintro⟨q,_⟩ _ w;simp only at y w|-;have N:g.toNat=d.toNat.gcd n.natAbs:=by rw[<-k];simp
 have O:0<g:=ω
 have v:g=((d.toNat.gcd n.natAbs:Nat):Int):=ω
 obtain⟨c,E⟩:=Ph (x:=n) (d:=d.toNat) ω;have B:(u64.wrap (Int.tdiv (n.natAbs:Int) g)).toNat=n.natAbs/d.toNat.gcd n.natAbs:=by
  rw[IntWalk.u64_quo _ _ ⟨ω,ω,ω⟩,v, <-g5e,qN]
 have i:(u64.wrap (Int.tdiv d g)).toNat=d.toNat/d.toNat.gcd n.natAbs:=by
  rw[IntWalk.u64_quo _ _ ⟨ω,ω,ω⟩,v]
  conv=>lhs;rw[(ω:d=((d.toNat:Nat):Int))]
  rw[<-g5e,qN];simp only[qN]
 rw[y,w,o,B,i];unfold rc;rw[c,E];unfold ic;have s:((d.toNat.gcd n.natAbs:Nat):Int)∣n:=yH.2 (yV ..);have l:0<d.toNat.gcd n.natAbs:=ω
 generalize d.toNat.gcd n.natAbs=G at s l;obtain⟨f,rfl⟩:=s;rw[xX _ ω];have H:(G:Int)*f<0↔f<0:=by
  constructor
  . intro h;rcases g4x f 0 with a|a
    . exact a
    have:=tV (xF (sG.2 l)) a;omega
  intro h;exact zD ω h
 rw[vF,uR,yE _ l];simp only[H]
def Vw (x:C6):mkRat (Sk x) (Ov x).toNat=rv x:=by
 unfold Sk Ov rv;split
 . rename_i h;rw[h,yZ];rfl
 rename_i h;rw[qN]
def B7x (x:C6):0<Ov x:=by
 unfold Ov;split
 . decide
 omega
def Zp:sq Y7 Om:=λx w H=>by
 obtain⟨⟨b,l⟩,k,_⟩:=x;have G:B4 l:=A6 w.1.2.2;have F:B4 k:=A6 w.2.1.2;change Bool at b;change Wf at l k;obtain⟨j,V,U⟩:nv k≠0/\l.length<=8796093022208/\k.length<=8796093022208:=H;simp only[Om,iB,R6,V6];have N:=D6 G;have M:=D6 F;refine⟨by show l.length<=35184372088832;omega,?_⟩;rintro⟨⟨y,r⟩,_⟩ _ f;refine⟨by show k.length<=35184372088832;omega,?_⟩;rintro⟨d,_⟩ _ c;simp only at f c|-;have I:y=decide (iv (b,l)<0):=sA (·.1) f;have v:r=nc (iv (b,l)).natAbs:=sA (·.2) f;have A:(iv (b,l)).natAbs=nv l:=K6 _;have i:nv r=(iv (b,l)).natAbs:=by rw[v,F9]
 have o:nv d=nv k:=by rw[c,F9]
 have T:r.length<=l.length:=by rw[v,A];exact N
 have Q:d.length<=k.length:=by rw[c];exact M
 refine⟨λh=>?_,λh=>?_⟩
 . have h:=qA h;have B:r= []:=qR ω;rw[B,mM]at i;have:iv (b,l)=0:=Int.natAbs_eq_zero.1 i.symm;rw[this,Rat.zero_mkRat,A9l]
 have h:=qB h;refine⟨⟨ω,ω⟩,?_⟩;rintro⟨g,_⟩ _ n;simp only at n|-;rw[i,o]at n;have R:Nat.gcd (iv (b,l)).natAbs (nv k)≠0:=Nat.ne_of_gt (g1x _ (tH j));have s:nv g=Nat.gcd (iv (b,l)).natAbs (nv k):=by rw[n,F9]
 refine⟨λp=>((p.2.1,p.2.2.1),p.1)=rc (mkRat (iv (b,l)) (nv k)),⟨λa=>?_,λa=>?_,λa=>?_⟩,?_⟩
 . have a:=qB a;exact⟨qH _,ω⟩
 . refine⟨by show r.length<= _;omega,?_⟩;rintro⟨q,m,X,_⟩ _ t;refine⟨by show d.length<= _;omega,?_⟩;rintro⟨Z,W,Y,_⟩ _ u;simp only at t u|-;rw[nB j,(t.2 ω).1,(u.2 ω).1,i,o,s,I]
 . have a:g.length=1/\gx 0 g 0=1:=by
    rw[H7]at a;simp only[rE,rM]at a;omega
   obtain⟨z,rfl⟩:∃z,g= [z]:=g2s.1 a.1;have J:z=1:=a.2;subst J;have D:Nat.gcd (iv (b,l)).natAbs (nv k)=1:=by rw[<-s];rfl
   rw[C2m j D];show((y,r),d)= _;rw[c, <-f]
 rintro⟨O,a0,P,_⟩ _ E;exact E
def GT:sq T3 Um:=λx v n=>by
 obtain⟨(q:C6),_⟩:=x;obtain⟨i,j⟩:q.1.2.length<=2199023255552/\q.2.length<=2199023255552:=n;simp only[Um,iB,N6];refine⟨trivial,?_⟩;rintro⟨(s:Int),(f:Int),z,_⟩ _ ⟨c,d⟩;simp only at c d|-;refine⟨λh=>?_,λh=>⟨trivial,?_⟩⟩
 . have o:K9 q:=qM λhn=>by rw[d hn]at h;cases h
   obtain⟨rfl,rfl,_⟩:=c o;refine⟨B7x q,?_⟩;rintro⟨u,_⟩ _ a;simp only at a|-;rw[a,Vw]
 rintro⟨t,g,_⟩ _ b;simp only at b|-;obtain⟨l,r⟩:=Mw b;obtain⟨w,y⟩:=Iz (k:=2199023255552) b i j δ;refine⟨⟨l,by show t.2.length<= _;omega,by show g.length<= _;omega⟩,?_⟩;rintro⟨u,_⟩ _ a;simp only at a|-;rw[a,r]
def UU:An:= {plan:= [(13,[0,4],[10],true, .done),(14,[0],[5],true, .done)]}
def UZ:An:= {}
def UX:An:= {}
def UY:An:= {}
def FQ:An:= {plan:= [(1,[0,2],[],true, .done),(10,[0,4],[],true, .done)]}
def UW:An:= {}
def UV:An:= {}
def Xt(x:I9):Prop:=let h:=(0:Nat);let g:=(0:Int);let e:=(rv x.1+rv x.2.1);True/\Ci λr=>r.1=(rv x.1).num.sign->(iB (decide (r.1=g)) (H3 x.2.1/\N6 λr=>r.1=rc (rv x.2.1)->r.1=rc e) (True/\Ci λr=>r.1=(rv x.2.1).num.sign->(iB (decide (r.1=g)) (H3 x.1/\N6 λr=>r.1=rc (rv x.1)->r.1=rc e) (True/\∀(r:A3c),R8 r.1/\R8 r.2.1/\True/\True->(K9 x.1->r.1=Sk x.1/\r.2.1=Ov x.1/\r.2.2.1=true)/\(¬K9 x.1->r.2.2.1=false)->True/\∀(m:A3c),R8 m.1/\R8 m.2.1/\True/\True->(K9 x.2.1->m.1=Sk x.2.1/\m.2.1=Ov x.2.1/\m.2.2.1=true)/\(¬K9 x.2.1->m.2.2.1=false)->(iB (F5 r.2.2.1 m.2.2.1 false) (g<i64.wrap (r.2.1*m.2.1)/\N6 λj=>j.1=rc (mkRat (i64.wrap (i64.wrap (r.1*m.2.1)+i64.wrap (m.1*r.2.1))) (i64.wrap (r.2.1*m.2.1)).toNat)->j.1=rc e) (True/\∀(r:nO),oA r.1/\Ia r.2.1/\True->(nv x.1.2=h->r.1=zi/\r.2.1= [(1:Int)])/\(nv x.1.2≠h->r.1=x.1.1/\r.2.1=x.1.2)->True/\∀(j:nO),let i:=(iv r.1*iv (false,j.2.1));let f:=(iv j.1*iv (false,r.2.1));let d:Prop:=(N2 r.1.2/\N2 j.2.1);let c:Prop:=(N2 j.1.2/\N2 r.2.1);let a:(Za)->(Za)->(Za)->Prop:=(λl k n=>oA n.1/\True->n.1=ic (iv l.1+iv k.1)->(N2 r.2.1/\N2 j.2.1)/\R6 λo=>o.1=nc (nv r.2.1*nv j.2.1)->(nv o.1≠h/\Fu n.1.2/\Fu o.1)/\N6 λr=>r.1=rc (mkRat (iv n.1) (nv o.1))->r.1=rc e);let b:(Za)->(Za)->Prop:=(λl k=>(N2 l.1.2/\N2 k.1.2)/\∀(n:Za),a l k n);oA j.1/\Ia j.2.1/\True->(nv x.2.1.2=h->j.1=zi/\j.2.1= [(1:Int)])/\(nv x.2.1.2≠h->j.1=x.2.1.1/\j.2.1=x.2.1.2)->True/\Ci λp=>p.1=Dc (nv r.2.1) (nv j.2.1)->(iB (decide (p.1=g)) ((N2 r.1.2/\N2 j.1.2)/\V6 λl=>l.1=ic (iv r.1+iv j.1)->(nv r.2.1≠h/\Fu l.1.2/\Fu r.2.1)/\N6 λk=>k.1=rc (mkRat (iv l.1) (nv r.2.1))->k.1=rc e) ((d/\V6 λl=>l.1=ic i->(c/\V6 λk=>k.1=ic f->(b l k)/\(N2 l.1.2/\N2 k.1.2)/\∀(n:Za),a l k n)/\c/\V6 λk=>k.1=ic f->b l k)/\d/\V6 λl=>l.1=ic i->c/\V6 λk=>k.1=ic f->b l k))))))))
def Xy(x:I9):Prop:=let a:=((!x.2.1.1.1,x.2.1.1.2),x.2.1.2);(H3 x.1/\H3 a)/\N6 λr=>r.1=rc (rv x.1+rv a)->r.1=rc (rv x.1-rv x.2.1)
def Xw(x:I9):Prop:=let b:=(rv x.1*rv x.2.1);let a:=(0:Nat);True/\∀(r:A3c),R8 r.1/\R8 r.2.1/\True/\True->(K9 x.1->r.1=Sk x.1/\r.2.1=Ov x.1/\r.2.2.1=true)/\(¬K9 x.1->r.2.2.1=false)->True/\∀(d:A3c),R8 d.1/\R8 d.2.1/\True/\True->(K9 x.2.1->d.1=Sk x.2.1/\d.2.1=Ov x.2.1/\d.2.2.1=true)/\(¬K9 x.2.1->d.2.2.1=false)->(iB (F5 r.2.2.1 d.2.2.1 false) ((0:Int)<i64.wrap (r.2.1*d.2.1)/\N6 λc=>c.1=rc (mkRat (i64.wrap (r.1*d.1)) (i64.wrap (r.2.1*d.2.1)).toNat)->c.1=rc b) (True/\∀(r:nO),oA r.1/\Ia r.2.1/\True->(nv x.1.2=a->r.1=zi/\r.2.1= [(1:Int)])/\(nv x.1.2≠a->r.1=x.1.1/\r.2.1=x.1.2)->True/\∀(c:nO),oA c.1/\Ia c.2.1/\True->(nv x.2.1.2=a->c.1=zi/\c.2.1= [(1:Int)])/\(nv x.2.1.2≠a->c.1=x.2.1.1/\c.2.1=x.2.1.2)->(N2 r.1.2/\N2 c.1.2)/\V6 λf=>f.1=ic (iv r.1*iv c.1)->(N2 r.2.1/\N2 c.2.1)/\R6 λe=>e.1=nc (nv r.2.1*nv c.2.1)->(nv e.1≠a/\Fu f.1.2/\Fu e.1)/\N6 λr=>r.1=rc (mkRat (iv f.1) (nv e.1))->r.1=rc b))
def Xx(x:D1):Prop:=H3 x.1/\N6 λr=>r.1=rc (rv x.1)->Hz r.1.1.2/\V6 λa=>a.1=ic (-iv r.1.1)->(a.1,r.1.2)=rc (-rv x.1)
def Ld(x:I9):Prop:=let c:=(0:Nat);let b:=(rv x.1);let a:=(rv x.2.1);True/\Ci λr=>r.1=b.num.sign->True/\Ci λf=>f.1=a.num.sign->(iB (decide (r.1≠f.1)) (True/\Ci λe=>e.1=N4 r.1 f.1->e.1=Lk b a) (True/\∀(r:A3c),R8 r.1/\R8 r.2.1/\True/\True->(K9 x.1->r.1=Sk x.1/\r.2.1=Ov x.1/\r.2.2.1=true)/\(¬K9 x.1->r.2.2.1=false)->True/\∀(e:A3c),R8 e.1/\R8 e.2.1/\True/\True->(K9 x.2.1->e.1=Sk x.2.1/\e.2.1=Ov x.2.1/\e.2.2.1=true)/\(¬K9 x.2.1->e.2.2.1=false)->(iB (F5 r.2.2.1 e.2.2.1 false) (True/\Ci λd=>d.1=N4 (i64.wrap (r.1*e.2.1)) (i64.wrap (e.1*r.2.1))->d.1=Lk b a) (True/\∀(r:nO),oA r.1/\Ia r.2.1/\True->(nv x.1.2=c->r.1=zi/\r.2.1= [(1:Int)])/\(nv x.1.2≠c->r.1=x.1.1/\r.2.1=x.1.2)->True/\∀(d:nO),oA d.1/\Ia d.2.1/\True->(nv x.2.1.2=c->d.1=zi/\d.2.1= [(1:Int)])/\(nv x.2.1.2≠c->d.1=x.2.1.1/\d.2.1=x.2.1.2)->(N2 r.1.2/\N2 d.2.1)/\V6 λg=>g.1=ic (iv r.1*iv (false,d.2.1))->(N2 d.1.2/\N2 r.2.1)/\V6 λh=>h.1=ic (iv d.1*iv (false,r.2.1))->True/\Ci λr=>r.1=N4 (iv g.1) (iv h.1)->r.1=Lk b a))))
def Xv(x:D1):Prop:=let a:=(rv x.1);True/\Ci λr=>r.1=a.num.sign->(iB (decide (r.1=0)) ((rv x.1=(0:Rat)->false=false)/\(rv x.1≠(0:Rat)->dQ=rc a⁻¹/\false=true)) (H3 x.1/\N6 λr=>r.1=rc a->(rv x.1=(0:Rat)->true=false)/\(rv x.1≠(0:Rat)->((r.1.1.1,r.1.2),r.1.1.2)=rc a⁻¹/\true=true)))
def Xu(x:I9):Prop:=let b:=(rv x.1/rv x.2.1);let a:=((x.2.1.1.1,x.2.1.2),x.2.1.1.2);True/\Ci λr=>r.1=(rv x.2.1).num.sign->(iB (decide (r.1=0)) ((rv x.2.1=(0:Rat)->false=false)/\(rv x.2.1≠(0:Rat)->dQ=rc b/\false=true)) ((H3 x.1/\H3 a)/\N6 λr=>r.1=rc (rv x.1*rv a)->(rv x.2.1=(0:Rat)->true=false)/\(rv x.2.1≠(0:Rat)->r.1=rc b/\true=true)))
def BO {q:Rat} (h:q.num.sign=0):q=0:=yM.1 (xR.1 h)
def Ma {x:C6} (h:K9 x): -2147483647<=Sk x/\Sk x<=2147483647/\0<Ov x/\Ov x<=2147483647:=by
 obtain⟨a,b⟩:=h;have:=K6 x.1;unfold Sk Ov;split
 . omega
 omega
def Si {a b M N:Int} (f: -M<=a) (d:a<=M) (c:0<=b) (g:b<=N): -(M*N)<=a*b/\a*b<=M*N:=by
 have h:0<=M:=ω
 have i:M*b<=M*N:=uG g h;have g:a*b<=M*b:=sQ d c;have d: -M*b<=a*b:=sQ f c;rw[Int.neg_mul]at d;omega
def B2o {a b c d:Int} (h: -2147483647<=a/\a<=2147483647) (i: -2147483647<=b/\b<=2147483647) (g:0<c/\c<=2147483647) (f:0<d/\d<=2147483647):
 i64.wrap (c*d)=c*d/\0<c*d/\i64.wrap (i64.wrap (a*d)+i64.wrap (b*c))=a*d+b*c:=by
 have k:=Si h.1 h.2 (xF f.1) f.2;have l:=Si i.1 i.2 (xF g.1) g.2;have n:=Si (a:=c) (b:=d) (M:=2147483647) ω g.2 (xF f.1) f.2;have j:0<c*d:=Int.mul_pos g.1 f.1;rw[wv (a:=c*d) ω,wv (a:=a*d) ω,wv (a:=b*c) ω,wv ω];exact⟨rfl,j,rfl⟩
def KG:sq Aq Xt:=λx o a8=>by
 obtain⟨p,q,_⟩:=x;have ax:B4 p.1.2:=A6 o.1.1.2.2;have ay:B4 p.2:=A6 o.1.2.2;have az:B4 q.1.2:=A6 o.2.1.1.2.2;have b0:B4 q.2:=A6 o.2.1.2.2;change C6 at p q;obtain⟨a9,aa⟩:H3 p/\H3 q:=a8;obtain⟨N,O⟩:=a9;obtain⟨P,Q⟩:=aa;simp only[Xt,iB,R6,Ci,V6,N6];refine⟨trivial,?_⟩;rintro⟨b1,_⟩ _ R;simp only at R|-;refine⟨λh=>⟨⟨P,Q⟩,?_⟩,λh=>⟨trivial,?_⟩⟩
 . rintro⟨r,_⟩ _ f;simp only at f|-;rw[R]at h;rw[f,BO (qA h),sR]
 rintro⟨b2,_⟩ _ T;simp only at T|-;refine⟨λh=>⟨⟨N,O⟩,?_⟩,λh=>⟨trivial,?_⟩⟩
 . rintro⟨r,_⟩ _ f;simp only at f|-;rw[T]at h;rw[f,BO (qA h),rK]
 rintro⟨F,E,aq,_⟩ _ ⟨B,D⟩;refine⟨trivial,?_⟩;rintro⟨I,bd,ar,_⟩ _ ⟨G,H⟩;change Int at F E I bd;simp only at B D G H|-;refine⟨λh=>?_,λ_=>⟨trivial,?_⟩⟩
 . rw[J5,qC]at h;have X:K9 p:=qM λhn=>by have:=D hn;rw[this]at h;exact absurd h.1 δ
   have Y:K9 q:=qM λhn=>by have:=H hn;rw[this]at h;exact absurd h.2 δ
   obtain⟨a1,a3,_⟩:=B X;obtain⟨a2,a4,_⟩:=G Y;obtain⟨Z,a0,b3,b4⟩:=Ma X;obtain⟨b5,b6,b7,b8⟩:=Ma Y;obtain⟨am,an,ao⟩:=B2o (a:=F) (b:=I) (c:=E) (d:=bd) ω ω ω ω;rw[am,ao];refine⟨an,?_⟩;rintro⟨r,_⟩ _ f;simp only at f|-;rw[f, <-Vw p, <-Vw q, <-a1, <-a3, <-a2, <-a4,QY ω ω,tF ω,tF ω,g4h ω ω]
 rintro⟨n,d,_⟩ ⟨ae,ab,_⟩ w;refine⟨trivial,?_⟩;rintro⟨m,e,_⟩ ⟨ad,ac,_⟩ z;have W:B4 n.2:=A6 ae.2.2;have U:B4 d:=A6 ab.2;have V:B4 m.2:=A6 ad.2.2;have le:B4 e:=A6 ac.2;refine⟨trivial,?_⟩;rintro⟨c,_⟩ _ M;change Li at n m;change Wf at d e;simp only at w z M|-;obtain⟨j,a5⟩:=Mw w;obtain⟨J,a6⟩:=Mw z;obtain⟨aj,au⟩:=Iz (k:=2199023255552) w N O δ;obtain⟨ai,av⟩:=Iz (k:=2199023255552) z P Q δ;rw[a5,a6];refine⟨λh=>?_,λh=>?_⟩
 . have h:=qA h;have a7:nv d=nv e:=ZP.1 (M▸h);refine⟨⟨by show n.2.length<= _;omega,by show m.2.length<= _;omega⟩,?_⟩;rintro⟨u,_⟩ _ g;simp only at g|-;have af:=YS (x:=n) (y:=m) W V aj ai;refine⟨⟨j,by show u.2.length<= _;rw[g];omega,by show d.length<= _;omega⟩,?_⟩;rintro⟨r,_⟩ _ f;simp only at f|-;rw[f,g,L9, <-a7,A5v j]
 --the general case:the same four times
 have Z:=IR (x:=n) (y:=(false,e)) W le;have a0:=IR (x:=m) (y:=(false,d)) V U;have t:N2 n.2/\N2 e:=⟨by show n.2.length<= _;omega,by show e.length<= _;omega⟩;have l:N2 m.2/\N2 d:=⟨by show m.2.length<= _;omega,by show d.length<= _;omega⟩;have fin:∀u v:Li,u=ic (iv n*iv (false,e))->v=ic (iv m*iv (false,d))->(N2 u.2/\N2 v.2)/\∀(r_6:(Bool×Wf)×Unit),oA r_6.1/\True->r_6.1=ic (iv u+iv v)->(N2 d/\N2 e)/\∀(r_7:Wf×Unit),Ia r_7.1/\True->r_7.1=nc (nv d*nv e)->(nv r_7.1≠(0:Nat)/\Fu r_6.1.2/\Fu r_7.1)/\∀(r:QQ×Unit),OZ r.1/\True->r.1=rc (mkRat (iv r_6.1) (nv r_7.1))->r.1=rc (mkRat (iv n) (nv d)+mkRat (iv m) (nv e)):=by
  intro u v g i;have ag:u.2.length<=4398046511104:=by
   rw[g];refine qY Z ?_;show n.2.length+e.length<= _;omega
  have ah:v.2.length<=4398046511104:=by
   rw[i];refine qY a0 ?_;show m.2.length+d.length<= _;omega
  refine⟨⟨by show u.2.length<= _;omega,by show v.2.length<= _;omega⟩,?_⟩;rintro⟨ak,_⟩ _ A;refine⟨⟨l.2,t.2⟩,?_⟩;rintro⟨ap,_⟩ _ s;simp only at A s|-;have af:=YS (x:=u) (y:=v) (by rw[g];exact A0s _) (by rw[i];exact A0s _) ag ah;have aw:=IV U le;refine⟨⟨by rw[s,F9];exact zR j J,by show ak.2.length<= _;rw[A];omega,by show ap.length<= _;rw[s];omega⟩,?_⟩;rintro⟨r,_⟩ _ f;simp only at f|-;rw[f,A,s,F9,L9,g,i,L9,L9,Ko,Ko,QY j J]
 exact⟨⟨t,λu _ g=>⟨⟨l,λv _ i=>⟨fin _ _ g i,fin _ _ g i⟩⟩,l,λv _ i=>fin _ _ g i⟩⟩,t,λu _ g=>⟨l,λv _ i=>fin _ _ g i⟩⟩
def oO:An:= {loop:= [(2,⟨[0],[],[(3,false,vI)],[],[]⟩)]}
def kE:An:= {loop:= [(4,⟨[0,1],[],[(5,false,vI)],[],[]⟩)],plan:= [(6,[3,7],[],true, .done)]}
def LF:An:= {}
def A3u:An:= {join:= [(8,⟨[0,1,5,7],[0],[(6,false,vU)],[],[]⟩),(10,⟨[0,1,5,7],[0],[(6,false,vU)],[],[]⟩)],loop:= [(4,⟨[0,1,5],[],[(6,false,vU),(7,false,vI)],[],[(0, .row qg 118)]⟩)]}
def A3x:An:= {join:= [(12,⟨[0,1,6,8],[0],[(9,false,vU)],[],[]⟩),(17,⟨[0,1,6,8,9],[0],[(7,false,vU),(10,false,vU)],[],[]⟩)],loop:= [(7,⟨[0,1,6],[],[(7,false,vU),(8,false,vI)],[],[(0, .row qg 118)]⟩)]}
def XK:An:= {loop:= [(7,⟨[0,1],[],[(5,false,vI)],[],[]⟩)],plan:= [(9,[3,7],[],true, .done),(11,[3,7],[],true, .done)]}
def A3w:An:= {loop:= [(7,⟨[0,1,5,6],[],[(7,false,vU),(8,false,vI)],[],[(0, .row qg 118)]⟩),(3,⟨[0,1,5],[],[(6,false,vI)],[],[(0, .row qg 118)]⟩)],plan:= [(9,[6,11,16],[],true, .done)]}
def eD:An:= {loop:= [(6,⟨[0],[],[(4,false,vU),(5,false,vI)],[],[]⟩)]}
def TT(x:Rj):Prop:=let f:=(1:Int);let c:=(x.1.length:Int);let a:=(0:Int);let g:=a.toNat;∃(I:D3->Prop),∃(b: _->Nat),I (c,())/\∀(p:D3),let e:=p.1.toNat;let d:=(i64.wrap (p.1-f),());let h:=(decide (gx a x.1 (i64.wrap (p.1-f))=a));(Ty.int i64).wf p.1/\True->I p->(decide (a<p.1)=true->a<=i64.wrap (p.1-f)/\i64.wrap (p.1-f)<c)/\(iB (F5 (decide (a<p.1)) h false) (I d/\b d<b p) ((a<=a/\a<=p.1/\p.1<=c)/\(((0:Nat)+(List.drop g (List.take e x.1)).length)*(4:Nat)<=(140737488355328:Nat)/\(0:Nat)+(List.drop g (List.take e x.1)).length<=9223372036854775807)/\List.drop g (List.take e x.1)=nc (nv x.1)))
def OD(x:Gt):Prop:=let f:Prop:=(x.1=x.2.1);let e:=(0:Int);let b:=(x.2.1.length:Int);let a:=(x.1.length:Int);(iB (decide (a≠b)) (false=decide f) (∃(I:D3->Prop),∃(c: _->Nat),I (e,())/\∀(p:D3),let d:=(i64.wrap (p.1+1),());let g:Prop:=(gx e x.1 p.1≠gx e x.2.1 p.1);(Ty.int i64).wf p.1/\True->I p->(iB (decide (p.1<a)) ((e<=p.1/\p.1<a)/\(e<=p.1/\p.1<b)/\(iB (decide g) (false=decide f) (I d/\c d<c p))) (true=decide f))))
def Qd(x:D3):Prop:=let a:=((32:Int).toNat);(0:(Ty.int u64).den)<=(32:Int)/\Hz [u32.wrap x.1,u32.wrap (Int.fdiv x.1 ((2:Int)^Min.min a u64.bits))]/\R6 λr=>r.1=nc (nv [u32.wrap x.1,u32.wrap (Int.fdiv x.1 ((2:Int)^Min.min a u64.bits))])->r.1=nc x.1.toNat
def cB(x:Gt):Prop:=let f:=(1:Int);let e:=(0:Int);let b:=(x.1.length:Int);let a:=(x.2.1.length:Int);(e<=i64.wrap (Max.max b a+f)/\i64.wrap (Max.max b a+f)<=i64.wrap (Max.max b a+f)/\(↑(4:Nat):Int)*i64.wrap (Max.max b a+f)<=(281474976710656:Int)/\i64.wrap (Max.max b a+f)<=(9223372036854775807:Int))/\∃(I:Ub->Prop),∃(i: _->Nat),I (e,e,List.replicate (i64.wrap (Max.max b a+f)).toNat e,())/\∀(p:Ub),let d:=(p.2.2.1.length:Int);(Ty.int u64).wf p.1/\(Ty.int i64).wf p.2.1/\Ia p.2.2.1/\True->I p->(iB (decide (p.2.1<d)) (∃(J:D3->Prop),((iB (decide (p.2.1<b)) ((e<=p.2.1/\p.2.1<b)/\J (u64.wrap (p.1+u64.wrap (gx e x.1 p.2.1)),())) (J (p.1,()))))/\∀(g:D3),(Ty.int u64).wf g.1/\True->J g->∃(J:D3->Prop),((iB (decide (p.2.1<a)) ((e<=p.2.1/\p.2.1<a)/\J (u64.wrap (g.1+u64.wrap (gx e x.2.1 p.2.1)),())) (J g)))/\∀(h:D3),let c:=(Int.fdiv h.1 ((2:Int)^Min.min ((32:Int).toNat) u64.bits),i64.wrap (p.2.1+f),List.set p.2.2.1 p.2.1.toNat (u32.wrap h.1),());(Ty.int u64).wf h.1/\True->J h->(e<=p.2.1/\p.2.1<d)/\(0:(Ty.int u64).den)<=(32:Int)/\I c/\i c<i p) (Hz p.2.2.1/\R6 λr=>r.1=nc (nv p.2.2.1)->r.1=nc (nv x.1+nv x.2.1)))
def cF(x:Gt):Prop:=let f:=(nv x.1-nv x.2.1);let c:=(0:Int);(N2 x.1/\N2 x.2.1)/\Ci λr=>r.1=Dc (nv x.1) (nv x.2.1)->(iB (decide (r.1<c)) ((nv x.1<nv x.2.1->Ow Int= []/\false=false)/\(nv x.2.1<=nv x.1->Ow Int=nc f/\false=true)) (Hz x.1/\R6 λr=>let a:=(r.1.length:Int);r.1=nc (nv x.1)->Hz x.2.1/\R6 λj=>let e:=(j.1.length:Int);j.1=nc (nv x.2.1)->(c<=a/\a<=a/\(↑(4:Nat):Int)*a<=(281474976710656:Int)/\a<=(9223372036854775807:Int))/\∃(I:Ub->Prop),∃(g: _->Nat),I (c,c,List.replicate a.toNat c,())/\∀(p:Ub),let d:=(gx c r.1 p.2.1);(Ty.int u64).wf p.1/\(Ty.int i64).wf p.2.1/\Ia p.2.2.1/\True->I p->(iB (decide (p.2.1<a)) (∃(J:D3->Prop),((iB (decide (p.2.1<e)) ((c<=p.2.1/\p.2.1<e)/\J (u64.wrap (p.1+u64.wrap (gx c j.1 p.2.1)),())) (J (p.1,()))))/\∀(i:D3),let k:Prop:=(u64.wrap d<i.1);(Ty.int u64).wf i.1/\True->J i->(c<=p.2.1/\p.2.1<a)/\∃(J:Cw->Prop),((iB (decide k) (J ((1:Int),u64.wrap (u64.wrap d+(4294967296:Int)),())) (J (c,u64.wrap d,()))))/\∀(h:Cw),let b:=(h.1,i64.wrap (p.2.1+1),List.set p.2.2.1 p.2.1.toNat (u32.wrap (u64.wrap (h.2.1-i.1))),());(Ty.int u64).wf h.1/\(Ty.int u64).wf h.2.1/\True->J h->(c<=p.2.1/\p.2.1<(p.2.2.1.length:Int))/\I b/\g b<g p) (Hz p.2.2.1/\R6 λr=>r.1=nc (nv p.2.2.1)->(nv x.1<nv x.2.1->r.1= []/\true=false)/\(nv x.2.1<=nv x.1->r.1=nc f/\true=true)))))
def CX(x:Gt):Prop:=let i:=(1:Int);let e:=(nv x.1);let d:=(nv x.2.1);let c:=(0:Int);Hz x.1/\R6 λr=>let a:=(r.1.length:Int);r.1=nc e->Hz x.2.1/\R6 λj=>let b:=(j.1.length:Int);j.1=nc d->(iB (decide (a≠b)) ((iB (decide (a<b)) ((-1:Int)=Dc e d) (i=Dc e d))) (∃(I:D3->Prop),∃(g: _->Nat),I (i64.wrap (a-i),())/\∀(p:D3),let k:Prop:=(gx c j.1 p.1<gx c r.1 p.1);let h:Prop:=(gx c r.1 p.1<gx c j.1 p.1);let f:=(i64.wrap (p.1-i),());(Ty.int i64).wf p.1/\True->I p->(iB (decide (c<=p.1)) ((c<=p.1/\p.1<a)/\(c<=p.1/\p.1<b)/\(iB (decide h) ((-1:Int)=Dc e d) ((c<=p.1/\p.1<a)/\(c<=p.1/\p.1<b)/\(iB (decide k) (i=Dc e d) (I f/\g f<g p))))) (c=Dc e d))))
def cE(x:Gt):Prop:=let i:=(0:Int);let g:=(x.1.length:Int);let e:=(x.2.1.length:Int);(i<=i64.wrap (g+e)/\i64.wrap (g+e)<=i64.wrap (g+e)/\(↑(4:Nat):Int)*i64.wrap (g+e)<=(281474976710656:Int)/\i64.wrap (g+e)<=(9223372036854775807:Int))/\∃(I:bT->Prop),∃(n: _->Nat),I (i,List.replicate (i64.wrap (g+e)).toNat i,())/\∀(p:bT),let c:Prop:=(p.1<g);(Ty.int i64).wf p.1/\Ia p.2.1/\True->I p->(iB (decide c) (∃(I_1:Ub->Prop),∃(g: _->Nat),I_1 (i,i,p.2.1,())/\∀(l:Ub),let k:=(l.2.2.1.length:Int);let j:=(i64.wrap (p.1+l.2.1));let h:=(i64.wrap (p.1+1),List.set l.2.2.1 (i64.wrap (p.1+e)).toNat (u32.wrap l.1),());let d:=(u64.wrap (l.1+u64.wrap (u64.wrap (List.getD l.2.2.1 j.toNat i)+u64.wrap (u64.wrap (gx i x.1 p.1)*u64.wrap (gx i x.2.1 l.2.1)))));let f:=(d.fdiv ((2:Int)^Min.min ((32:Int).toNat) u64.bits),i64.wrap (l.2.1+1),List.set l.2.2.1 j.toNat (u32.wrap d),());let b:Prop:=(l.2.1<e);let a:Prop:=(i<=i64.wrap (p.1+l.2.1)/\i64.wrap (p.1+l.2.1)<k);(Ty.int u64).wf l.1/\(Ty.int i64).wf l.2.1/\Ia l.2.2.1/\True->I_1 l->(iB (decide b) (a/\(i<=p.1/\c)/\(i<=l.2.1/\b)/\a/\(0:(Ty.int u64).den)<=(32:Int)/\I_1 f/\g f<g l) ((i<=i64.wrap (p.1+e)/\i64.wrap (p.1+e)<k)/\I h/\n h<n p))) (Hz p.2.1/\R6 λr=>r.1=nc (nv p.2.1)->r.1=nc (nv x.1*nv x.2.1)))
def HQ(x:Rj):Prop:=let d:=(0:Int);let c:=(18446744073709551616:Nat);Hz x.1/\R6 λr=>let b:=(r.1.length:Int);r.1=nc (nv x.1)->(iB (decide ((2:Int)<b)) ((nv x.1<c->d=(↑(nv x.1):Int)/\false=true)/\(c<=nv x.1->false=false)) (∃(I:Cw->Prop),∃(f: _->Nat),I (d,i64.wrap (b-(1:Int)),())/\∀(p:Cw),let a:=(u64.wrap (↑(BitVec.ofInt u64.bits (u64.wrap (p.1*2^Min.min ((32:Int).toNat) u64.bits)) |||BitVec.ofInt u64.bits (u64.wrap (gx d r.1 p.2.1))).toNat:Int),i64.wrap (p.2.1-1),());(Ty.int u64).wf p.1/\(Ty.int i64).wf p.2.1/\True->I p->(iB (decide (d<=p.2.1)) ((0:(Ty.int u64).den)<=(32:Int)/\(d<=p.2.1/\p.2.1<b)/\I a/\f a<f p) ((nv x.1<c->p.1=(↑(nv x.1):Int)/\true=true)/\(c<=nv x.1->true=false)))))
end Go.Proofs.YtcbjamefalhfgaaGreat
