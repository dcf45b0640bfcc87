/- Part. -/
import Derived.Test.YtcbjamefalhfgaaGreatRows
import Derived.Test.YtcbjamefalhfgaaGreatKSE
set_option linter.all false
namespace Go.Proofs.YtcbjamefalhfgaaGreat
open Go.Proofs.Tryz
open Go.Vc Go.Gw
open Go.IntKind (i64 u64 u32)
abbrev O0 (a:Int):Prop:=i64.min<=a/\a<=i64.max
abbrev IX (a:Int):Prop:=u64.min<=a/\a<=u64.max
abbrev Hn (l:Wf):Prop:=List.length l<=(9223372036854775807:Nat)/\∀(x:Int),x∈l->u32.min<=x/\x<=u32.max
abbrev bO (l:Wf):Prop:=List.length l<=(9223372036854775807:Nat)/\∀(x:Int),x∈l->i64.min<=x/\x<=i64.max
abbrev mH (z:Bool×Wf):Prop:=True/\Hn z.2
abbrev IU (q:(Bool×Wf)×Wf):Prop:=mH q.1/\Hn q.2
abbrev WfE (e:Int×(Bool×Wf)×Wf):Prop:=O0 e.1/\mH e.2.1/\Hn e.2.2
abbrev DX (l:List (Int×(Bool×Wf)×Wf)):Prop:=List.length l<=(9223372036854775807:Nat)/\∀(x:Int×(Bool×Wf)×Wf),x∈l->WfE x
abbrev QQ:=(Bool×Wf)×Wf
abbrev EE:=Int×(Bool×Wf)×Wf
abbrev dQ:QQ:=((false,[]),[])
abbrev E6:EE:=((0:Int),(false,[]),[])
abbrev MM:=Int×Int×List (List EE)
abbrev IT (l:List QQ):Prop:=List.length l<=9223372036854775807/\∀(x:QQ),x∈l->IU x
abbrev Qy (l:List (List QQ)):Prop:=List.length l<=9223372036854775807/\∀(x:List QQ),x∈l->x.length<=9223372036854775807/\∀(y:QQ),y∈x->IU y
abbrev DY (l:List (List EE)):Prop:=List.length l<=9223372036854775807/\∀(x:List EE),x∈l->x.length<=9223372036854775807/\∀(y:EE),y∈x->WfE y
abbrev WfM (m:MM):Prop:=O0 m.1/\O0 m.2.1/\DY m.2.2
abbrev tQ:Ty:=(.pair (.pair .bool (.sl (.int .u32))) (.sl (.int .u32)))
abbrev tE:Ty:=(.pair (.int .i64) tQ)
abbrev tM:Ty:=(.pair (.int .i64) (.pair (.int .i64) (.sl (.sl tE))))
def tys:List (Nat×TI):= [(2,{ty:=(.int .i64),agg:=false}),
 (3,{ty:=(.int .i64),agg:=false}),
 (4,{ty:= .bool,agg:=false}),
 (5,{ty:=(.int .u8),agg:=false}),
 (9,{ty:= .str,agg:=false}),
 (22,{ty:=(.sl (.int .i64)),agg:=false,elem:=3,bytes:=8}),
 (23,{ty:=(.sl (.sl tE)),agg:=false,elem:=61,bytes:=24}),
 (25,{ty:=tM,agg:=true,fields:= [(0,1,false),(1,1,false),(2,1,false)]}),
 (27,{ty:=(.pair (.sl (.int .i64)) (.pair (.sl (.int .i64)) (.pair tM tM))),agg:=true,fields:= [(0,1,false),(1,1,false),(2,3,true),(5,3,true)]}),
 (28,{ty:=(.sl tQ),agg:=false,elem:=46,bytes:=56}),
 (42,{ty:=(.sl (.int .u32)),agg:=false,elem:=118,bytes:=4}),
 (44,{ty:=(.pair .bool (.sl (.int .u32))),agg:=true,fields:= [(0,1,false),(1,1,false)]}),
 (46,{ty:=tQ,agg:=true,fields:= [(0,2,true),(2,1,false)]}),
 (53,{ty:=(.sl (.sl tQ)),agg:=false,elem:=28,bytes:=24}),
 (59,{ty:=(.pair (.sl (.int .i64)) (.int .i64)),agg:=true,fields:= [(0,1,false),(1,1,false)]}),
 (61,{ty:=(.sl tE),agg:=false,elem:=75,bytes:=64}),
 (66,{ty:=(.ptr (.pair (.sl (.sl tE)) (.pair (.sl (.sl tE)) (.pair (.sl (.mp false (.int .i64) false .bool)) (.sl (.int .i64)))))),agg:=false}),
 (71,{ty:=(.sl (.mp false (.int .i64) false .bool)),agg:=false,elem:=112,bytes:=8}),
 (73,{ty:=(.pair (.sl (.sl tE)) (.pair (.sl (.sl tE)) (.pair (.sl (.mp false (.int .i64) false .bool)) (.sl (.int .i64))))),agg:=true,fields:= [(0,1,false),(1,1,false),(2,1,false),(3,1,false)]}),
 (75,{ty:=tE,agg:=true,fields:= [(0,1,false),(1,3,true)]}),
 (112,{ty:=(.mp false (.int .i64) false .bool),agg:=false,elem:=4,key:=3}),
 (118,{ty:=(.int .u32),agg:=false}),
 (121,{ty:=(.sl (.sl (.int .i64))),agg:=false,elem:=22,bytes:=24}),
 (123,{ty:=(.mp false (.int .i64) false (.sl tE)),agg:=false,elem:=61,key:=3}),
 (130,{ty:=(.int .u64),agg:=false}),
 (148,{ty:=(.sl .bool),agg:=false,elem:=4,bytes:=1}),
 (151,{ty:=(.int .u64),agg:=false}),
 (157,{ty:=(.mp false (.int .i64) false (.sl (.int .i64))),agg:=false,elem:=22,key:=3}),
 (190,{ty:=(.pair (.int .u64) (.pair (.int .u64) (.pair (.int .u64) (.pair (.int .u64) .bool)))),agg:=true,fields:= [(0,1,false),(1,1,false),(2,1,false),(3,1,false),(4,1,false)]})]
def A9:G9 prog tys=true:=by kernel_rfl
def lY:List (Nat×TI):= [(2,{ty:=(.int .i64),agg:=false}),
 (3,{ty:=(.int .i64),agg:=false}),
 (4,{ty:= .bool,agg:=false}),
 (5,{ty:=(.int .u8),agg:=false}),
 (9,{ty:= .str,agg:=false}),
 (22,{ty:=(.sl (.int .i64)),agg:=false,elem:=3,bytes:=8}),
 (23,{ty:=(.sl (.sl tE)),agg:=false,elem:=61,bytes:=24,rows:=true}),
 (25,{ty:=tM,agg:=true,fields:= [(0,1,false),(1,1,false),(2,1,false)]}),
 (27,{ty:=(.pair (.sl (.int .i64)) (.pair (.sl (.int .i64)) (.pair tM tM))),agg:=true,fields:= [(0,1,false),(1,1,false),(2,3,true),(5,3,true)]}),
 (28,{ty:=(.sl tQ),agg:=false,elem:=46,bytes:=56}),
 (42,{ty:=(.sl (.int .u32)),agg:=false,elem:=118,bytes:=4}),
 (44,{ty:=(.pair .bool (.sl (.int .u32))),agg:=true,fields:= [(0,1,false),(1,1,false)]}),
 (46,{ty:=tQ,agg:=true,fields:= [(0,2,true),(2,1,false)]}),
 (53,{ty:=(.sl (.sl tQ)),agg:=false,elem:=28,bytes:=24,rows:=true}),
 (59,{ty:=(.pair (.sl (.int .i64)) (.int .i64)),agg:=true,fields:= [(0,1,false),(1,1,false)]}),
 (61,{ty:=(.sl tE),agg:=false,elem:=75,bytes:=64}),
 (66,{ty:=(.ptr (.pair (.sl (.sl tE)) (.pair (.sl (.sl tE)) (.pair (.sl (.mp false (.int .i64) false .bool)) (.sl (.int .i64)))))),agg:=false}),
 (71,{ty:=(.sl (.mp false (.int .i64) false .bool)),agg:=false,elem:=112,bytes:=8}),
 (73,{ty:=(.pair (.sl (.sl tE)) (.pair (.sl (.sl tE)) (.pair (.sl (.mp false (.int .i64) false .bool)) (.sl (.int .i64))))),agg:=true,fields:= [(0,1,false),(1,1,false),(2,1,false),(3,1,false)]}),
 (75,{ty:=tE,agg:=true,fields:= [(0,1,false),(1,3,true)]}),
 (112,{ty:=(.mp false (.int .i64) false .bool),agg:=false,elem:=4,key:=3}),
 (118,{ty:=(.int .u32),agg:=false}),
 (121,{ty:=(.sl (.sl (.int .i64))),agg:=false,elem:=22,bytes:=24}),
 (123,{ty:=(.mp false (.int .i64) false (.sl tE)),agg:=false,elem:=61,key:=3}),
 (130,{ty:=(.int .u64),agg:=false}),
 (148,{ty:=(.sl .bool),agg:=false,elem:=4,bytes:=1}),
 (151,{ty:=(.int .u64),agg:=false}),
 (157,{ty:=(.mp false (.int .i64) false (.sl (.int .i64))),agg:=false,elem:=22,key:=3,rows:=true}),
 (190,{ty:=(.pair (.int .u64) (.pair (.int .u64) (.pair (.int .u64) (.pair (.int .u64) .bool)))),agg:=true,fields:= [(0,1,false),(1,1,false),(2,1,false),(3,1,false),(4,1,false)]})]
def Hh:G9 prog lY=true:=by kernel_rfl
def TP:List (Nat×TI):= [(2,{ty:=(.int .i64),agg:=false}),
 (3,{ty:=(.int .i64),agg:=false}),
 (4,{ty:= .bool,agg:=false}),
 (5,{ty:=(.int .u8),agg:=false}),
 (9,{ty:= .str,agg:=false}),
 (22,{ty:=(.sl (.int .i64)),agg:=false,elem:=3,bytes:=8}),
 (23,{ty:=(.sl (.sl tE)),agg:=false,elem:=61,bytes:=24,nest:= [14]}),
 (25,{ty:=tM,agg:=true,fields:= [(0,1,false),(1,1,false),(2,1,false)]}),
 (27,{ty:=(.pair (.sl (.int .i64)) (.pair (.sl (.int .i64)) (.pair tM tM))),agg:=true,fields:= [(0,1,false),(1,1,false),(2,3,true),(5,3,true)]}),
 (28,{ty:=(.sl tQ),agg:=false,elem:=46,bytes:=56}),
 (42,{ty:=(.sl (.int .u32)),agg:=false,elem:=118,bytes:=4}),
 (44,{ty:=(.pair .bool (.sl (.int .u32))),agg:=true,fields:= [(0,1,false),(1,1,false)]}),
 (46,{ty:=tQ,agg:=true,fields:= [(0,2,true),(2,1,false)]}),
 (53,{ty:=(.sl (.sl tQ)),agg:=false,elem:=28,bytes:=24}),
 (59,{ty:=(.pair (.sl (.int .i64)) (.int .i64)),agg:=true,fields:= [(0,1,false),(1,1,false)]}),
 (61,{ty:=(.sl tE),agg:=false,elem:=75,bytes:=64}),
 (66,{ty:=(.ptr (.pair (.sl (.sl tE)) (.pair (.sl (.sl tE)) (.pair (.sl (.mp false (.int .i64) false .bool)) (.sl (.int .i64)))))),agg:=false}),
 (71,{ty:=(.sl (.mp false (.int .i64) false .bool)),agg:=false,elem:=112,bytes:=8,nest:= [17]}),
 (73,{ty:=(.pair (.sl (.sl tE)) (.pair (.sl (.sl tE)) (.pair (.sl (.mp false (.int .i64) false .bool)) (.sl (.int .i64))))),agg:=true,fields:= [(0,1,false),(1,1,false),(2,1,false),(3,1,false)]}),
 (75,{ty:=tE,agg:=true,fields:= [(0,1,false),(1,3,true)]}),
 (112,{ty:=(.mp false (.int .i64) false .bool),agg:=false,elem:=4,key:=3,nest:= [44,66]}),
 (118,{ty:=(.int .u32),agg:=false}),
 (121,{ty:=(.sl (.sl (.int .i64))),agg:=false,elem:=22,bytes:=24}),
 (123,{ty:=(.mp false (.int .i64) false (.sl tE)),agg:=false,elem:=61,key:=3}),
 (130,{ty:=(.int .u64),agg:=false}),
 (148,{ty:=(.sl .bool),agg:=false,elem:=4,bytes:=1}),
 (151,{ty:=(.int .u64),agg:=false}),
 (157,{ty:=(.mp false (.int .i64) false (.sl (.int .i64))),agg:=false,elem:=22,key:=3}),
 (190,{ty:=(.pair (.int .u64) (.pair (.int .u64) (.pair (.int .u64) (.pair (.int .u64) .bool)))),agg:=true,fields:= [(0,1,false),(1,1,false),(2,1,false),(3,1,false),(4,1,false)]})]
def DU:G9 prog TP=true:=by kernel_rfl
abbrev V7 (a:List AM) (r:List RT) (p:A4 a->Prop) (q:A4 a->Bc r->Prop):B6:= {args:=a,res:=r,shared:=true,pre:=p,post:=q}
abbrev mkM (a:List AM) (r:List RT) (p:A4 a->Prop) (q:A4 a->Bc r->Prop) (m:A4 a->Bc r->Nu a->Prop):B6:= {args:=a,res:=r,shared:=true,pre:=p,post:=q,mpost:=m}
abbrev K7:=QQ×QQ×Unit
abbrev D4:=QQ×Unit
abbrev sn (s:B6) (v:A4 s.args->Prop):Prop:=∀x,awf s.args x->s.pre x->v x
abbrev qb:Ty:=.int .i64
abbrev qe:Ty:=.mp false qb false .bool
abbrev qf:Ty:=.sl tE
abbrev qg:Ty:=.int .u32
abbrev qa:Ty:=.sl qg
abbrev qc:Ty:=.pair .bool qa
abbrev qh:Ty:=.sl tQ
abbrev qi:Ty:=.sl qb
abbrev qd:Ty:=.pair qi (.pair qi (.pair tM tM))
abbrev qj:Ty:=.int .u64
abbrev qk:Ty:=.pair qi qb
abbrev ql:List RT:=[.val false .bool]
abbrev qm:List RT:=[.val true tQ]
abbrev qn:List RT:=[.val false qb]
abbrev qo:List RT:=[.val true qc]
abbrev qp:List AM:=[.val false qa, .val false qa]
abbrev qq:List AM:=[.val true tQ, .val true tQ]
abbrev qr:List RT:=[.val false qa]
abbrev qt:List AM:=[.val true tQ]
abbrev qu:List AM:=[.val true qc, .val true qc]
abbrev qv:List AM:=[.val true tM]
abbrev qw:List AM:=[.val false qa]
abbrev qx:List AM:=[.val false qb]
abbrev qy:List AM:=[.val true qc]
abbrev qz:List AM:=[.val false qb, .val false qb]
abbrev rb:List AM:=[.val false qf, .val false qb]
abbrev re:List RT:=[.val true tM]
abbrev rf:List AM:=[.val false qf]
abbrev rg:List RT:=[.val false qf]
abbrev rh:List RT:=[.val false qh, .val false qb]
abbrev rj:List AM:=[.val false qi]
abbrev rk:List AM:=[.val true qd, .val false qh]
abbrev rn:List AM:=[.val true tM, .val false qh]
abbrev ro:List RT:=[.val true tQ, .val false .bool]
abbrev rp:List RT:=[.val false qa, .val false .bool]
abbrev rq:List AM:=[.val false qa, .val false qb]
abbrev rr:List RT:=[.val false qj]
abbrev rt:List AM:=[.box 59 qk, .val false qb]
abbrev rx:List AM:=[.val false (.sl qh), .val false qb]
abbrev ry:List AM:=[.val false .bool, .val false qa]
abbrev rz:List RT:=[.val false qa, .val false qa, .val false .bool]
abbrev sc:List RT:=[.val false qa, .val false qa]
abbrev sd:List RT:=[.val false qh, .val false .bool]
abbrev se:List AM:=[.val false qh, .val false qh]
abbrev sf:List AM:=[.val false qi, .val false qb]
abbrev si:List RT:=[.val false qj, .val false .bool]
abbrev sj:List AM:=[.val true qd, .val false qb]
abbrev sk:List RT:=[.val true tM, .val false qb]
abbrev sm (a:List AM) (r:List RT) (p:A4 a->Prop) (q:A4 a->Bc r->Prop):B6:={args:=a,res:=r,pre:=p,post:=q}
def Lc:B6:=V7 qq qm (fun(x:K7)=>G4 x.1/\G4 x.2.1) (fun(x:K7) (r:D4)=>r.1=rc (rv x.1+rv x.2.1))
abbrev E3:=Int×Unit
def Bu:B6:=V7 qx qm (fun(x:E3)=>True) (fun(x:E3) (r:D4)=>r.1=ri x.1)
def Q3:B6:=Bu
abbrev R8:=Bool×Unit
def Jm:B6:=sm qq ql (fun(x:K7)=>True) (fun(x:K7) (r:R8)=>r.1=decide (x.1=x.2.1))
abbrev Wm:=QQ×Bool×Unit
def Ac:B6:=V7 qq ro (fun(x:K7)=>G4 x.1/\G4 x.2.1) (fun(x:K7) (r:Wm)=>(rv x.2.1=0->r.2.1=false)/\(rv x.2.1≠0->r.1=rc (rv x.1/rv x.2.1)/\r.2.1=true))
def Bh:B6:=sm qt ql (fun(x:D4)=>G4 x.1) (fun(x:D4) (r:R8)=>r.1=decide (x.1=rc (rv x.1)))
def Io:B6:=V7 qt qm (fun(x:D4)=>G4 x.1) (fun(x:D4) (r:D4)=>r.1=rc (rv x.1))
def Mv:B6:=V7 [] qm (fun(x:Unit)=>True) (fun(x:Unit) (r:D4)=>r.1=rc 0)
abbrev iE:=(Bool×Wf)×(Bool×Wf)×Unit
def Mr:B6:=V7 qu qm (fun(x:iE)=>Fg x.1.2/\Fg x.2.1.2) (fun(x:iE) (r:D4)=>r.1=rc (Kq x.1 x.2.1))
abbrev IW:=(Bool×Wf)×Unit
def Sq:B6:=V7 qu qo (fun(x:iE)=>M9 x.1.2/\M9 x.2.1.2) (fun(x:iE) (r:IW)=>r.1=ic (iv x.1+iv x.2.1))
def Ss:B6:=V7 qu qo (fun(x:iE)=>M9 x.1.2/\M9 x.2.1.2) (fun(x:iE) (r:IW)=>r.1=ic (iv x.1*iv x.2.1))
def Sz:B6:=V7 qt qo (fun(x:D4)=>G4 x.1) (fun(x:D4) (r:IW)=>r.1=ic ((rv x.1).den:Int))
def Ew:B6:=V7 qx qo (fun(x:E3)=>True) (fun(x:E3) (r:IW)=>r.1=ic x.1)
abbrev Ee:=Int×Int×Unit
def AE:B6:=V7 qz qm (fun(x:Ee)=>True) (fun(x:Ee) (r:D4)=>r.1=rc (Rat.divInt x.1 x.2.1))
def Ex:B6:=sm qq qn (fun(x:K7)=>(x.1.1.2.length<=549755813888/\x.1.2.length<=549755813888)/\x.2.1.1.2.length<=549755813888/\x.2.1.2.length<=549755813888) (fun(x:K7) (r:E3)=>r.1=EK (rv x.1) (rv x.2.1))
def Mu:B6:=sm qt qn (fun(x:D4)=>G4 x.1) (fun(x:D4) (r:E3)=>r.1=(rv x.1).num.sign)
def Le:B6:=V7 qq qm (fun(x:K7)=>G4 x.1/\G4 x.2.1) (fun(x:K7) (r:D4)=>r.1=rc (rv x.1-rv x.2.1))
def Ld:B6:=V7 qq qm (fun(x:K7)=>G4 x.1/\G4 x.2.1) (fun(x:K7) (r:D4)=>r.1=rc (rv x.1*rv x.2.1))
def Ip:B6:=V7 qq qm (fun(x:K7)=>G4 x.1/\G4 x.2.1) (fun(x:K7) (r:D4)=>rv x.2.1≠0->r.1=rc (rv x.1/rv x.2.1))
def Ad:B6:=V7 qt ro (fun(x:D4)=>G4 x.1) (fun(x:D4) (r:Wm)=>(rv x.1=0->r.2.1=false)/\(rv x.1≠0->r.1=rc (rv x.1)⁻¹/\r.2.1=true))
def Ae:B6:=Ld
def V2:B6:=V7 qt qm (fun(x:D4)=>G4 x.1) (fun(x:D4) (r:D4)=>r.1=rc (-(rv x.1)))
def W9:B6:=Ew
def Jk:B6:=sm qu ql (fun(x:iE)=>True) (fun(x:iE) (r:R8)=>r.1=decide (x.1=x.2.1))
abbrev Du:=Wf×Wf×Unit
def Jj:B6:=sm qp ql (fun(x:Du)=>True) (fun(x:Du) (r:R8)=>r.1=decide (x.1=x.2.1))
def Bl:B6:=sm qt qn (fun(x:D4)=>True) (fun(x:D4) (r:E3)=>r.1=(rv x.1).num.sign)
def Dd:B6:=Le
def Mq:B6:=sm qy qn (fun(x:IW)=>Hm x.1.2) (fun(x:IW) (r:E3)=>r.1=(iv x.1).sign)
def Mp:B6:=V7 qy qo (fun(x:IW)=>Hm x.1.2) (fun(x:IW) (r:IW)=>r.1=ic (iv x.1))
def Sr:B6:=V7 qu qo (fun(x:iE)=>Fg x.1.2/\Fg x.2.1.2) (fun(x:iE) (r:IW)=>r.1=ic (Nat.gcd (nv x.1.2) (nv x.2.1.2):Int))
def Hd:B6:=V7 qu [.val true qc, .val true qc, .val false .bool] (fun(x:iE)=>Fg x.1.2/\Fg x.2.1.2) (fun(x:iE) (r:(Bool×Wf)×(Bool×Wf)×Bool×Unit)=>iv x.2.1≠0->r.1=ic (iv x.1/iv x.2.1)/\r.2.1=ic (iv x.1%iv x.2.1)/\r.2.2.1=true)
def Su:B6:=V7 qy qo (fun(x:IW)=>Hm x.1.2) (fun(x:IW) (r:IW)=>r.1=ic (-iv x.1))
abbrev C1i:=Bool×Wf×Unit
def Mo:B6:=V7 ry qo (fun(x:C1i)=>Hm x.2.1) (fun(x:C1i) (r:IW)=>r.1=ic (iv (x.1,x.2.1)))
abbrev Ck:=Wf×Unit
def Sk:B6:=V7 qp qr (fun(x:Du)=>M9 x.1/\M9 x.2.1) (fun(x:Du) (r:Ck)=>r.1=nc (nv x.1+nv x.2.1))
abbrev C5j:=Wf×Bool×Unit
def Sn:B6:=V7 qp rp (fun(x:Du)=>M9 x.1/\M9 x.2.1) (fun(x:Du) (r:C5j)=>(nv x.1<nv x.2.1->r.1= []/\r.2.1=false)/\(nv x.2.1<=nv x.1->r.1=nc (nv x.1-nv x.2.1)/\r.2.1=true))
def Sm:B6:=V7 qp qr (fun(x:Du)=>M9 x.1/\M9 x.2.1) (fun(x:Du) (r:Ck)=>r.1=nc (nv x.1*nv x.2.1))
def Aa:B6:=V7 [.val false qj] qr (fun(x:E3)=>True) (fun(x:E3) (r:Ck)=>r.1=nc x.1.toNat)
def Sy:B6:=V2
def Sw:B6:=Ac
def W0:B6:=Io
def Dc:B6:=Lc
abbrev A1l:=Int×Int×Bool×Unit
def Ag:B6:=sm qt [.val false qb, .val false qb, .val false .bool] (fun(x:D4)=>True) (fun(x:D4) (r:A1l)=>(K3 x.1->r.1=Rq x.1/\r.2.1=Ns x.1/\r.2.2.1=true)/\(¬K3 x.1->r.2.2.1=false))
def T4:B6:=V7 qz qm (fun(x:Ee)=>0<x.2.1) (fun(x:Ee) (r:D4)=>r.1=rc (mkRat x.1 x.2.1.toNat))
abbrev ty7:=(Bool×Wf)×Wf×Unit
def Af:B6:=V7 qt [.val true qc, .val false qa] (fun(x:D4)=>True) (fun(x:D4) (r:ty7)=>(nv x.1.2=0->r.1=zi/\r.2.1= [1])/\(nv x.1.2≠0->r.1=x.1.1/\r.2.1=x.1.2))
def X4:B6:=V7 [.val true qc, .val false qa] qm (fun(x:ty7)=>nv x.2.1≠0/\Fg x.1.2/\Fg x.2.1) (fun(x:ty7) (r:D4)=>r.1=rc (mkRat (iv x.1) (nv x.2.1)))
def Ek:B6:=Ss
def Et:B6:=Sm
def Em:B6:=Su
def Y9:B6:=V7 ry qo (fun(x:C1i)=>True) (fun(x:C1i) (r:IW)=>r.1=(x.1&&decide (x.2.1≠ []),x.2.1))
def R4:B6:=Aa
def W6:B6:=sm qz qn (fun(x:Ee)=>True) (fun(x:Ee) (r:E3)=>r.1=P6 x.1 x.2.1)
def U9:B6:=sm qq qn (fun(x:K7)=>G4 x.1/\G4 x.2.1) (fun(x:K7) (r:E3)=>r.1=EK (rv x.1) (rv x.2.1))
def Cw:B6:=sm qy qn (fun(x:IW)=>True) (fun(x:IW) (r:E3)=>r.1=(iv x.1).sign)
def Sl:B6:=V7 qp qr (fun(x:Du)=>Fg x.1/\Fg x.2.1) (fun(x:Du) (r:Ck)=>r.1=nc (Nat.gcd (nv x.1) (nv x.2.1)))
abbrev C7n:=Wf×Wf×Bool×Unit
def Hb:B6:=V7 qp rz (fun(x:Du)=>Fg x.1/\Fg x.2.1) (fun(x:Du) (r:C7n)=>(nv x.2.1=0->r.2.2.1=false)/\(nv x.2.1≠0->r.1=nc (nv x.1/nv x.2.1)/\r.2.1=nc (nv x.1%nv x.2.1)/\r.2.2.1=true))
def Sp:B6:=V7 qy qo (fun(x:IW)=>Hm x.1.2) (fun(x:IW) (r:IW)=>r.1=ic ((iv x.1).natAbs:Int))
def Sv:B6:=V7 qu qo (fun(x:iE)=>M9 x.1.2/\M9 x.2.1.2) (fun(x:iE) (r:IW)=>r.1=ic (iv x.1-iv x.2.1))
def Mn:B6:=V7 qw qr (fun(x:Ck)=>Hm x.1) (fun(x:Ck) (r:Ck)=>r.1=nc (nv x.1))
def Ev:B6:=sm qp qn (fun(x:Du)=>M9 x.1/\M9 x.2.1) (fun(x:Du) (r:E3)=>r.1=Cp (nv x.1) (nv x.2.1))
def X0:B6:=sm qp qn (fun(x:Du)=>True) (fun(x:Du) (r:E3)=>r.1=Cp (nv x.1) (nv x.2.1))
def Ej:B6:=Sq
abbrev B1m:=Int×Bool×Unit
def Z8:B6:=sm qw si (fun(x:Ck)=>True) (fun(x:Ck) (r:B1m)=>(nv x.1<18446744073709551616->r.1=(nv x.1:Int)/\r.2.1=true)/\(18446744073709551616<=nv x.1->r.2.1=false))
def Cv:B6:=Mp
def Cy:B6:=Mn
def Es:B6:=Sl
def Z7:B6:=V7 qp rz (fun(x:Du)=>M9 x.1) (fun(x:Du) (r:C7n)=>(nv x.2.1=0->r.1= []/\r.2.1= []/\r.2.2.1=false)/\(nv x.2.1≠0->r.1=nc (nv x.1/nv x.2.1)/\r.2.1=nc (nv x.1%nv x.2.1)/\r.2.2.1=true))
def Bt:B6:=V7 qw qr (fun(x:Ck)=>True) (fun(x:Ck) (r:Ck)=>r.1=nc (nv x.1))
def Gx:B6:=sm [.val false qg] qn (fun(x:E3)=>True) (fun(x:E3) (r:E3)=>r.1=(M7 x.1.toNat:Int))
def Be:B6:=sm qx ql (fun(x:E3)=>True) (fun(x:E3) (r:R8)=>r.1=false)
def T2:B6:=W6
def W8:B6:=sm qu qn (fun(x:iE)=>True) (fun(x:iE) (r:E3)=>r.1=P6 (iv x.1) (iv x.2.1))
def Hc:B6:=sm qw si (fun(x:Ck)=>Hm x.1) (fun(x:Ck) (r:B1m)=>(nv x.1<18446744073709551616->r.1=(nv x.1:Int)/\r.2.1=true)/\(18446744073709551616<=nv x.1->r.2.1=false))
def Mm:B6:=sm qw qn (fun(x:Ck)=>M9 x.1) (fun(x:Ck) (r:E3)=>r.1=(M7 (nv x.1):Int))
abbrev PP:=Wf×Int×Unit
def So:B6:=sm rq [.val false qg] (fun(x:PP)=>0<=x.2.1) (fun(x:PP) (r:E3)=>r.1=((nv x.1/2^x.2.1.toNat%2:Nat):Int))
def Er:B6:=Sk
def Eu:B6:=Sn
def Cz:B6:=sm qw rr (fun(x:Ck)=>x.1.length<=2) (fun(x:Ck) (r:E3)=>r.1=(nv x.1:Int))
def X2:B6:=sm qp [.val true (.pair qj (.pair qj (.pair qj (.pair qj .bool))))] (fun(x:Du)=>M9 x.1/\3<=x.1.length/\Mz x.1/\nv x.2.1<=nv x.1/\x.2.1.length<=x.1.length) (fun(x:Du) (r:(Int×(Int×(Int×(Int×Bool))))×Unit)=>C4g (nv x.1) (nv x.2.1) r.1.1 r.1.2.1 r.1.2.2.1 r.1.2.2.2.1 r.1.2.2.2.2)
abbrev C7o:=Wf×Int×Wf×Int×Unit
def X1:B6:=V7 [.val false qa, .val false qj, .val false qa, .val false qj] qr (fun(x:C7o)=>Fg x.1/\Fg x.2.2.1/\nv x.2.2.1*x.2.2.2.1.toNat<=nv x.1*x.2.1.toNat) (fun(x:C7o) (r:Ck)=>r.1=nc (nv x.1*x.2.1.toNat-nv x.2.2.1*x.2.2.2.1.toNat))
def O7:B6:=V7 [.val false qa, .val false qg] sc (fun(x:PP)=>M9 x.1/\x.2.1≠0) (fun(x:PP) (r:Du)=>r.1=nc (nv x.1/x.2.1.toNat)/\r.2.1=nc (nv x.1%x.2.1.toNat))
def R5:B6:=V7 qp sc (fun(x:Du)=>M9 x.1/\2<=x.2.1.length/\x.2.1.length<=x.1.length/\Mz x.2.1) (fun(x:Du) (r:Du)=>r.1=nc (nv x.1/nv x.2.1)/\r.2.1=nc (nv x.1%nv x.2.1))
def W7:B6:=Be
def M5:B6:=sm [.val false qg] qn (fun(x:E3)=>True) (fun(x:E3) (r:E3)=>r.1=32-(M7 x.1.toNat:Int))
abbrev C7p:=Wf×Int×Int×Unit
def Z9:B6:=sm [.val false qa, .val false qb, .val false qb] rr (fun(x:C7p)=>3<=x.2.1/\(x.1.length:Int)<=x.2.1/\x.2.1<=17592186044416/\0<=x.2.2.1/\x.2.2.1<=31/\nv x.1*2^x.2.2.1.toNat<4294967296^x.2.1.toNat) (fun(x:C7p) (r:E3)=>r.1=((nv x.1*2^x.2.2.1.toNat/4294967296^(x.2.1.toNat-2):Nat):Int))
def S2:B6:=sm rq [.own qg 118] (fun(x:PP)=>M9 x.1/\0<=x.2.1/\x.2.1<=31) (fun(x:PP) (r:Ck)=>r.1.length=x.1.length+1/\nv r.1=nv x.1*2^x.2.1.toNat)
def N8:B6:=V7 rq rp (fun(x:PP)=>M9 x.1) (fun(x:PP) (r:C5j)=>(x.2.1<0->r.1= []/\r.2.1=false)/\(0<=x.2.1->r.1=nc (nv x.1/2^x.2.1.toNat)/\r.2.1=true))
def U8:B6:=sm [.val false qb, .val false (.ptr qa)] rr (fun(x:Int×Wf×Unit)=>0<=x.1) (fun(x:Int×Wf×Unit) (r:E3)=>r.1=(if x.1<(x.2.1.length:Int)then x.2.1.getD x.1.toNat 0 else 0))
def pZ9:Nat→Nat→Pl→Pl
 | _,0,k=>k
 |i,n+1,k=> .p i (pZ9 (i+1) n k)
def vI:List Wd:= [.val (.int .i64)]
def vU:List Wd:= [.val (.int .u64)]
def VN:An:= {loop:= [(2,⟨[0],[],[(3,false,vI)],[],[]⟩)]}
def Xj:An:= {}
def SE:An:= {loop:= [(3,⟨[6,7],[],[(3,false,vU),(8,false,vI)],[],[]⟩)]}
def JI:An:= {}
def GO:An:= {loop:= [(7,⟨[0,1],[],[(5,false,vI)],[],[]⟩)],plan:= [(9,[3,7],[],true, .done),(11,[3,7],[],true, .done)]}
def SD:An:= {}
abbrev Ql:=Wf×Unit
def BH(x:Ql):Prop:=let e:=(1:Int);let c:=(x.1.length:Int);let a:=(0:Int);∃(I:E3->Prop),∃(b: _->Nat),I (c,())/\∀(p:E3),let d:=(i64.wrap (p.1-e),());let f:=(decide (gx a x.1 (i64.wrap (p.1-e))=a));(Ty.int i64).wf p.1/\True->I p->(decide (a<p.1)=true->a<=i64.wrap (p.1-e)/\i64.wrap (p.1-e)<c)/\(iB (G6 (decide (a<p.1)) f false) (I d/\b d<b p) ((a<=a/\a<=p.1/\p.1<=c)/\List.drop a.toNat (List.take p.1.toNat x.1)=nc (nv x.1)))
def Q8 (P:Wf×Unit->Prop):Prop:=∀r:Wf×Unit,Hn r.1/\True->P r
def Hv(x:E3):Prop:=(0:(Ty.int u64).den)<=(32:Int)/\True/\Q8 λr=>r.1=nc (nv [u32.wrap x.1,u32.wrap (Int.fdiv x.1 ((2:Int)^Min.min ((32:Int).toNat) u64.bits))])->r.1=nc x.1.toNat
def Wu(x:Ql):Prop:=let c:=(0:Int);let b:=(x.1.length:Int);∃(I:Ee->Prop),∃(d: _->Nat),I (c,c,())/\∀(p:Ee),let a:=(u64.wrap (↑(BitVec.ofInt u64.bits p.1|||BitVec.ofInt u64.bits (u64.wrap (u64.wrap (gx c x.1 p.2.1)*(2:Int)^Min.min (i64.wrap (32*p.2.1)).toNat u64.bits))).toNat:Int),i64.wrap (p.2.1+1),());(Ty.int u64).wf p.1/\(Ty.int i64).wf p.2.1/\True->I p->(iB (decide (p.2.1<b)) ((c<=p.2.1/\p.2.1<b)/\(0:(Ty.int i64).den)<=i64.wrap (32*p.2.1)/\I a/\d a<d p) (p.1=(↑(nv x.1):Int)))
def rT1 (P:Int×Unit->Prop):Prop:=∀r:Int×Unit,IX r.1/\True->P r
def Pg(x:Ql):Prop:=let a:=(18446744073709551616:Nat);True/\Q8 λr=>let b:Prop:=((2:Int)<(r.1.length:Int));r.1=nc (nv x.1)->(iB (decide b) ((nv x.1<a->(0:Int)=(↑(nv x.1):Int)/\false=true)/\(a<=nv x.1->false=false)) (List.length r.1<=2/\rT1 λc=>c.1=(↑(nv r.1):Int)->(nv x.1<a->c.1=(↑(nv x.1):Int)/\true=true)/\(a<=nv x.1->true=false)))
abbrev Gd:=Wf×Wf×Unit
def Ng(x:Gd):Prop:=let i:=(1:Int);let e:=(nv x.1);let d:=(nv x.2.1);let c:=(0:Int);True/\Q8 λr=>let a:=(r.1.length:Int);r.1=nc e->True/\Q8 λj=>let b:=(j.1.length:Int);j.1=nc d->(iB (decide (a≠b)) ((iB (decide (a<b)) ((-1:Int)=Cp e d) (i=Cp e d))) (∃(I:E3->Prop),∃(g: _->Nat),I (i64.wrap (a-i),())/\∀(p:E3),let k:Prop:=(gx c j.1 p.1<gx c r.1 p.1);let h:Prop:=(gx c r.1 p.1<gx c j.1 p.1);let f:=(i64.wrap (p.1-i),());(Ty.int i64).wf p.1/\True->I p->(iB (decide (c<=p.1)) ((c<=p.1/\p.1<a)/\(c<=p.1/\p.1<b)/\(iB (decide h) ((-1:Int)=Cp e d) ((c<=p.1/\p.1<a)/\(c<=p.1/\p.1<b)/\(iB (decide k) (i=Cp e d) (I f/\g f<g p))))) (c=Cp e d))))
def Wt(x:Ql):Prop:=True/\Q8 λr=>let a:=(r.1.length:Int);r.1=nc (nv x.1)->((0:Int)<=a/\a<=a/\(↑(4:Nat):Int)*a<=(281474976710656:Int)/\a<=(9223372036854775807:Int))/\Ll (List.replicate a.toNat (0:Int)) r.1=nc (nv x.1)
def MD:sn Bt BH:=λx k _=>by
 obtain⟨l,_⟩:=x;have t:l.length<=9223372036854775807:=k.1.1;have o:B4 l:=A5 k.1.2;change Wf at l;simp only[BH,iB];refine⟨λp=>0<=p.1/\p.1<=(l.length:Int)/\∀i x,p.1.toNat<=i->l[i]? =some x->x=0,λp=>p.1.toNat,⟨qD _,qH _,λi x j a=>?_⟩,?_⟩
 . rw[rT (by simpa using j)]at a;cases a
 rintro⟨(n:Int),_⟩ _ ⟨c,f,b⟩;simp only at c f b|-;refine⟨λh=>?_,λh=>?_,λh=>?_⟩
 . have h:=qA h;rw[wv ω];exact⟨ω,ω⟩
 . rw[J0]at h;simp only[qC,rQ]at h;obtain⟨s,g⟩:=h;rw[wv ω]at g|-;refine⟨⟨ω,ω,λi x j a=>?_⟩,ω⟩;by_cases r:i=(n-1).toNat
   . subst r;rw[J1 (d:=(0:Int)) ω ω]at a;cases a;exact g
   . exact b i x ω a
 . refine⟨⟨qH _,c,f⟩,?_⟩;show(l.take n.toNat).drop 0= _;rw[uB];refine A7s o ω b ?_;rw[J0]at h;simp only[wS,rO]at h;rcases h with h|h
   . exact .inl ω
   . by_cases u:n=0
     . exact .inl ω
     . rw[wv ω]at h;refine .inr ⟨gx 0 l (n-1),?_,h⟩;have:=J1 (d:=(0:Int)) (l:=l) (i:=n-1) ω ω;rw[<-this];congr 1;omega
def Qp:sn R4 Hv:=λx c _=>by
 obtain⟨(v:Int),_⟩:=x;have b:u64.min<=v/\v<=u64.max:=c.1;rw[lZ,DW]at b;simp only[Hv,Q8];refine⟨δ,trivial,?_⟩;rintro⟨r,_⟩ _ a;simp only at a|-;rw[a];congr 1;rw[show Min.min (Int.toNat 32) u64.bits=32 from rfl];simp only[nv,Ch];rw[sP _ δ,show(2:Int)^32=4294967296 from rfl];omega
def II:sn Cz Wu:=λx u s=>by
 obtain⟨l,_⟩:=x;have n:B4 l:=A5 u.1.2;have y:l.length<=2:=s;change Wf at l;simp only[Wu,iB];refine⟨λp=>0<=p.2.1/\p.2.1<=(l.length:Int)/\p.1=(nv (l.take p.2.1.toNat):Int),λp=>((l.length:Int)-p.2.1).toNat,⟨qH _,qD _,rfl⟩,?_⟩;rintro⟨(v:Int),(i:Int),_⟩ z ⟨f,o,d⟩;simp only at f o d|-;refine⟨λh=>?_,λh=>?_⟩
 . have h:=qA h;have g:=Ut n f h;have j:=Gk (l:=l.take i.toNat) λx hx=>n x (sB hx)
   rw[qZ,tG ω]at j;have t:=KL f h;rw[wv (a:=32*i) ω,wv (a:=i+1) ω,X5 g.1 ω];have r:Min.min (32*i).toNat u64.bits=32*i.toNat:=by
    show Min.min (32*i).toNat 64= _;omega
   rw[r];have c:i.toNat=0\/i.toNat=1:=ω
   refine⟨⟨f,h⟩,by show(0:Int)<=32*i;omega,?_⟩;have w:u64.wrap (((BitVec.ofInt 64 v|||BitVec.ofInt 64 (u64.wrap (gx 0 l i*2^(32*i.toNat)))).toNat:Nat):Int)=(nv (l.take (i+1).toNat):Int):=by
    rw[t];generalize gx 0 l i=b at g;rcases c with c|c
    . rw[c]at j|-;have A:v=0:=by rw[d,c];simp[nv]
      rw[X5 (a:=b*2^(32*0)) ω ω,YT (v:=v) (b:=b) (k:=32*0) ω ω g.1 ω ω,X5 ω ω];simp[nv];omega
    . rw[c]at j|-;rw[c]at d;rw[X5 (a:=b*2^(32*1)) ω ω,YT (v:=v) (b:=b) (k:=32*1) ω ω g.1 ω ω,X5 ω ω];omega
   exact⟨⟨ω,ω,w⟩,ω⟩
 . have h:=qB h;rw[I5 ω]at d;exact d
def BG:sn Z8 Pg:=λx f _=>by
 obtain⟨(l:Wf),_⟩:=x;simp only[Pg,iB,Q8,rT1];refine⟨trivial,?_⟩;rintro⟨r,_⟩ _ a;simp only at a|-;subst a;refine⟨λh=>?_,λh=>?_⟩
 . have h:=qA h;have:=B5w (k:=2) (n:=nv l) ω;refine⟨λc=>?_,λ_=>trivial⟩;rw[show(4294967296:Nat)^2=18446744073709551616 from rfl]at this;omega
 . have h:=qB h;have b:(nc (nv l)).length<=2:=ω
   refine⟨b,?_⟩;rintro⟨r,_⟩ _ a;simp only at a|-;have d:=rH (Fs (nv l)) (rX δ b);rw[G1]at a;refine⟨λ_=>⟨a,trivial⟩,λc=>?_⟩;rw[show(4294967296:Nat)^2=18446744073709551616 from rfl]at d;omega
def Yf:sn X0 Ng:=λx A _=>by
 obtain⟨(b:Wf),(c:Wf),_⟩:=x;simp only[Ng,iB,Q8];refine⟨trivial,?_⟩;rintro⟨r,_⟩ ⟨⟨y,_⟩,_⟩ o;simp only at o y|-;subst o;refine⟨trivial,?_⟩;rintro⟨s,_⟩ ⟨⟨z,_⟩,_⟩ t;simp only at t z|-;subst t;have k:=K6 (nv b);have l:=K6 (nv c);refine⟨λj=>⟨λh=>?_,λh=>?_⟩,λj=>?_⟩
 . have h:=qA h;exact(Oj (DG ω)).symm
 . have h:=qB h;have j:=qA j;exact(UO (DG ω)).symm
 . have n:(nc (nv b)).length=(nc (nv c)).length:=by have:=qB j;omega
   have u:=G1 (nv b);have v:=G1 (nv c);generalize nc (nv b)=r at*;generalize nc (nv c)=s at*;rw[<-u, <-v];refine⟨λp=> -1<=p.1/\p.1<(r.length:Int)/\r.drop (p.1+1).toNat=s.drop (p.1+1).toNat,λp=>(p.1+1).toNat,?_,?_⟩
   . rw[wv ω];refine⟨ω,ω,?_⟩;rw[sJ ω,sJ ω]
   rintro⟨(i:Int),_⟩ _ ⟨w,d,a⟩;simp only at w d a|-;refine⟨λh=>?_,λh=>?_⟩
   . have h:=qA h;refine⟨⟨h,d⟩,⟨h,ω⟩,λg=>?_,λg=>⟨⟨h,d⟩,⟨h,ω⟩,λf=>?_,λf=>?_⟩⟩
     . exact(Oj (kO k l n h d a (qA g))).symm
     . exact(UO (kO l k n.symm h ω a.symm (qA f))).symm
     . have g:=qB g;have f:=qB f;rw[wv ω];refine⟨⟨ω,ω,?_⟩,ω⟩;rw[(ω:i-1+1=i),W1 h d,W1 h ω,a,(ω:gx 0 r i=gx 0 s i)]
   . have h:=qB h;rw[(ω:(i+1).toNat=0),uB,uB]at a;rw[a,fR]
def NU {α:Type} {l:List α} {d:α} :Ll (List.replicate ((l.length:Nat):Int).toNat d) l=l:=by
 unfold Ll;rw[rG,qK,uZ,sJ (by simp),vS]
def IH:sn Cy Wt:=λx d c=>by
 obtain⟨l,_⟩:=x;have b:B4 l:=A5 d.1.2;have g:l.length<=35184372088832:=c;simp only[Wt,Q8];refine⟨trivial,?_⟩;rintro⟨r,_⟩ _ a;simp only at a|-;have f:r.length<=l.length:=by rw[a];exact D8 b
 refine⟨⟨ω,qH _,by simp;omega,ω⟩,?_⟩;rw[NU,a]
def VJ:An:= {join:= [(4,⟨[],[],[(0,false,[.val qa]),(1,false,[.val qa])],[],[]⟩),(12,⟨[0,1,5,7,24,25,26],[0],[(6,false,vU)],[],[]⟩)],loop:= [(7,⟨[0,1,5,24,25],[],[(6,false,vU),(26,false,vI)],[],[(0, .row qg 118)]⟩)]}
def VM:An:= {join:= [(12,⟨[1,6,8,22,23,24],[0],[(10,false,vU)],[],[]⟩)],loop:= [(7,⟨[1,6,22,23],[],[(7,false,vU),(24,false,vI)],[],[(0, .row qg 118)]⟩)]}
def VL:An:= {join:= [(18,⟨[1,5,29,30,31],[],[],[],[(0, .row qg 118)]⟩)],loop:= [(11,⟨[1,5,6,7,29,30,31,38,39],[],[(8,false,vU),(40,false,vI)],[],[(0, .row qg 118)]⟩),(6,⟨[1,5,29,30],[],[(31,false,vI)],[],[(0, .row qg 118)]⟩)]}
def Rc:An:= {loop:= [(4,⟨[0,1,4],[],[(6,false,vU),(7,false,vI)],[],[(0, .row qg 118)]⟩)]}
def Xk:An:= {join:= [(15,⟨[0,6,7,8,29,30,31],[0],[(10,false,vU)],[],[]⟩)],loop:= [(10,⟨[0,6,7,29,30],[],[(31,false,vI)],[],[(0, .row qg 118)]⟩)]}
def GR:An:= {loop:= [(4,⟨[0,1,5,13,14],[],[(6,false,vU),(15,false,vI)],[],[(0, .row qg 118)]⟩)]}
abbrev Tj:=Int×Int×Wf×Unit
def BB(x:Gd):Prop:=let f:=(1:Int);let c:=(0:Int);True/\Q8 λr=>r.1=nc (nv x.1)->True/\Q8 λj=>let e:Prop:=((r.1.length:Int)<(j.1.length:Int));j.1=nc (nv x.2.1)->∃(J:Gd->Prop),((iB (decide e) (J (j.1,r)) (J (r.1,j))))/\∀(p:Gd),let d:=(p.2.1.length:Int);let a:=(p.1.length:Int);(Ty.int u32).sl.wf p.1/\(Ty.int u32).sl.wf p.2.1/\True->J p->(c<=i64.wrap (a+f)/\i64.wrap (a+f)<=i64.wrap (a+f)/\(↑(4:Nat):Int)*i64.wrap (a+f)<=(281474976710656:Int)/\i64.wrap (a+f)<=(9223372036854775807:Int))/\∃(I:Tj->Prop),∃(j: _->Nat),I (c,c,List.replicate (i64.wrap (a+f)).toNat c,())/\∀(i:Tj),let h:=(gx c p.1 i.2.1);let g:=(i.2.2.1.length:Int);(Ty.int u64).wf i.1/\(Ty.int i64).wf i.2.1/\Hn i.2.2.1/\True->I i->(iB (decide (i.2.1<a)) ((c<=i.2.1/\i.2.1<a)/\∃(J:E3->Prop),((iB (decide (i.2.1<d)) ((c<=i.2.1/\i.2.1<d)/\J (u64.wrap (u64.wrap (i.1+u64.wrap h)+u64.wrap (gx c p.2.1 i.2.1)),())) (J (u64.wrap (i.1+u64.wrap h),()))))/\∀(p:E3),let b:=(Int.fdiv p.1 ((2:Int)^Min.min ((32:Int).toNat) u64.bits),i64.wrap (i.2.1+f),List.set i.2.2.1 i.2.1.toNat (u32.wrap p.1),());(Ty.int u64).wf p.1/\True->J p->(c<=i.2.1/\i.2.1<g)/\(0:(Ty.int u64).den)<=(32:Int)/\I b/\j b<j i) ((c<=a/\a<g)/\True/\Q8 λr=>r.1=nc (nv (List.set i.2.2.1 a.toNat (u32.wrap i.1)))->r.1=nc (nv x.1+nv x.2.1)))
def Dx (P:Int×Unit->Prop):Prop:=∀r:Int×Unit,O0 r.1/\True->P r
def BF(x:Gd):Prop:=let f:=(nv x.1-nv x.2.1);let c:=(0:Int);True/\Q8 λr=>let a:=(r.1.length:Int);r.1=nc (nv x.1)->True/\Q8 λg=>let d:=(g.1.length:Int);g.1=nc (nv x.2.1)->True/\Dx λi=>i.1=Cp (nv r.1) (nv g.1)->(iB (decide (i.1<c)) ((nv x.1<nv x.2.1->Ef Int= []/\false=false)/\(nv x.2.1<=nv x.1->Ef Int=nc f/\false=true)) ((c<=a/\a<=a/\(↑(4:Nat):Int)*a<=(281474976710656:Int)/\a<=(9223372036854775807:Int))/\∃(I:Tj->Prop),∃(j: _->Nat),I (c,c,List.replicate a.toNat c,())/\∀(p:Tj),let e:=(u64.wrap (gx c r.1 p.2.1)-p.1);(Ty.int u64).wf p.1/\(Ty.int i64).wf p.2.1/\Hn p.2.2.1/\True->I p->(iB (decide (p.2.1<a)) ((c<=p.2.1/\p.2.1<a)/\∃(J:E3->Prop),((iB (decide (p.2.1<d)) ((c<=p.2.1/\p.2.1<d)/\J (u64.wrap (u64.wrap e-u64.wrap (gx c g.1 p.2.1)),())) (J (u64.wrap e,()))))/\∀(h:E3),let b:=(Int.fdiv h.1 ((2:Int)^Min.min ((63:Int).toNat) u64.bits),i64.wrap (p.2.1+1),List.set p.2.2.1 p.2.1.toNat (u32.wrap h.1),());(Ty.int u64).wf h.1/\True->J h->(c<=p.2.1/\p.2.1<(p.2.2.1.length:Int))/\(0:(Ty.int u64).den)<=(63:Int)/\I b/\j b<j p) (True/\Q8 λr=>r.1=nc (nv p.2.2.1)->(nv x.1<nv x.2.1->r.1= []/\true=false)/\(nv x.2.1<=nv x.1->r.1=nc f/\true=true)))))
abbrev ZT:=Int×Wf×Unit
def BE(x:Gd):Prop:=let o:=(nv x.1*nv x.2.1);let k:=(0:Int);True/\∀(r:Ql),let j:=(r.1.length:Int);let e:Prop:=(j=k);Hn r.1/\True->r.1=nc (nv x.1)->True/\∀(s:Ql),let h:=(s.1.length:Int);let d:Prop:=(h=k);Hn s.1/\True->s.1=nc (nv x.2.1)->(iB (G6 (decide e) true (decide d)) (Ef Int=nc o) ((k<=i64.wrap (j+h)/\i64.wrap (j+h)<=i64.wrap (j+h)/\(↑(4:Nat):Int)*i64.wrap (j+h)<=(281474976710656:Int)/\i64.wrap (j+h)<=(9223372036854775807:Int))/\∃(I:ZT->Prop),∃(a: _->Nat),I (k,List.replicate (i64.wrap (j+h)).toNat k,())/\∀(p:ZT),let f:Prop:=(gx k r.1 p.1=k);let c:Prop:=(p.1<j);(Ty.int i64).wf p.1/\Hn p.2.1/\True->I p->(iB (decide c) (∃(J:Ql->Prop),((k<=p.1/\c)/\(iB (decide f) (J (p.2.1,())) (∃(I:Tj->Prop),∃(a: _->Nat),I (k,k,p.2.1,())/\∀(q:Tj),let n:=(q.2.2.1.length:Int);let m:=(i64.wrap (p.1+q.2.1));let g:=(u64.wrap (q.1+u64.wrap (u64.wrap (u64.wrap (gx k r.1 p.1)*u64.wrap (gx k s.1 q.2.1))+u64.wrap (List.getD q.2.2.1 m.toNat k))));let i:=(g.fdiv ((2:Int)^Min.min ((32:Int).toNat) u64.bits),i64.wrap (q.2.1+1),List.set q.2.2.1 m.toNat (u32.wrap g),());let c:Prop:=(q.2.1<h);let b:Prop:=(k<=i64.wrap (p.1+q.2.1)/\i64.wrap (p.1+q.2.1)<n);(Ty.int u64).wf q.1/\(Ty.int i64).wf q.2.1/\Hn q.2.2.1/\True->I q->(iB (decide c) ((k<=q.2.1/\c)/\b/\b/\(0:(Ty.int u64).den)<=(32:Int)/\I i/\a i<a q) ((k<=i64.wrap (p.1+h)/\i64.wrap (p.1+h)<n)/\J (List.set q.2.2.1 (i64.wrap (p.1+h)).toNat (u32.wrap q.1),()))))))/\Q8 λq=>let l:=(i64.wrap (p.1+1),q);J q->I l/\a l<a p) (True/\Q8 λr=>r.1=nc (nv p.2.1)->r.1=nc o))))
abbrev ZU:=Wf×Int×Unit
def Fw(x:ZU):Prop:=let e:=(u64.wrap x.2.1);let d:=(0:Int);let c:=(x.1.length:Int);(d<=c/\c<=c/\(↑(4:Nat):Int)*c<=(281474976710656:Int)/\c<=(9223372036854775807:Int))/\∃(I:Tj->Prop),∃(f: _->Nat),I (d,i64.wrap (c-(1:Int)),List.replicate c.toNat d,())/\∀(p:Tj),let a:=(u64.wrap (↑(BitVec.ofInt u64.bits (u64.wrap (p.1*2^Min.min ((32:Int).toNat) u64.bits)) |||BitVec.ofInt u64.bits (u64.wrap (gx d x.1 p.2.1))).toNat:Int));let b:=(a.tmod e,i64.wrap (p.2.1-1),List.set p.2.2.1 p.2.1.toNat (u32.wrap (u64.wrap (a.tdiv e))),());(Ty.int u64).wf p.1/\(Ty.int i64).wf p.2.1/\Hn p.2.2.1/\True->I p->(iB (decide (d<=p.2.1)) ((0:(Ty.int u64).den)<=(32:Int)/\(d<=p.2.1/\p.2.1<c)/\u64.wrap x.2.1≠d/\(d<=p.2.1/\p.2.1<(p.2.2.1.length:Int))/\u64.wrap x.2.1≠d/\I b/\f b<f p) (True/\Q8 λr=>r.1=nc (nv p.2.2.1)->True/\Q8 λf=>f.1=nc p.1.toNat->r.1=nc (nv x.1/x.2.1.toNat)/\f.1=nc (nv x.1%x.2.1.toNat)))
def Hw(x:ZU):Prop:=let l:=(1:Int);let j:=(nv x.1/(2:Nat)^x.2.1.toNat);let i:=(32:Int);let h:=(i64.wrap (Int.tdiv x.2.1 i));let g:=(0:Int);(iB (decide (x.2.1<g)) ((x.2.1<g->Ef Int= []/\false=false)/\(g<=x.2.1->Ef Int=nc j/\false=true)) (True/\∀(r:Ql),let e:=(r.1.length:Int);let d:=(↑(List.drop h.toNat (List.take e.toNat r.1)).length:Int);let a:Prop:=(e<=i64.wrap (Int.tdiv x.2.1 i));Hn r.1/\True->r.1=nc (nv x.1)->i≠g/\(iB (decide a) ((x.2.1<g->Ef Int= []/\true=false)/\(g<=x.2.1->Ef Int=nc j/\true=true)) (i≠g/\(g<=i64.wrap (Int.tdiv x.2.1 i)/\i64.wrap (Int.tdiv x.2.1 i)<=e/\e<=e)/\i≠g/\(g<=d/\d<=d/\(↑(4:Nat):Int)*d<=(281474976710656:Int)/\d<=(9223372036854775807:Int))/\∃(I:ZT->Prop),∃(c: _->Nat),I (g,List.replicate d.toNat g,())/\∀(p:ZT),let k:=(gx g (List.drop h.toNat (List.take e.toNat r.1)) p.1);let b:Prop:=(p.1<d);let a:Prop:=(i64.wrap (p.1+l)<d);(Ty.int i64).wf p.1/\Hn p.2.1/\True->I p->(iB (decide b) ((g<=p.1/\b)/\∃(J:E3->Prop),((iB (decide a) ((g<=i64.wrap (p.1+l)/\a)/\(0:(Ty.int u64).den)<=i/\J (u64.wrap (↑(BitVec.ofInt u64.bits (u64.wrap k) |||BitVec.ofInt u64.bits (u64.wrap (u64.wrap (gx g (List.drop h.toNat (List.take e.toNat r.1)) (i64.wrap (p.1+l)))*(2:Int)^Min.min i.toNat u64.bits))).toNat:Int),())) (J (u64.wrap k,()))))/\∀(m:E3),let f:=(i64.wrap (p.1+l),List.set p.2.1 p.1.toNat (u32.wrap (Int.fdiv m.1 ((2:Int)^Min.min (Int.tmod x.2.1 i).toNat u64.bits))),());(Ty.int u64).wf m.1/\True->J m->(0:(Ty.int i64).den)<=Int.tmod x.2.1 i/\(g<=p.1/\p.1<(p.2.1.length:Int))/\I f/\c f<c p) (True/\Q8 λr=>r.1=nc (nv p.2.1)->(x.2.1<g->r.1= []/\true=false)/\(g<=x.2.1->r.1=nc j/\true=true)))))))
def Nk(x:ZU):Prop:=let f:=(1:Int);let d:=(0:Int);let b:=(x.1.length:Int);(d<=i64.wrap (b+f)/\i64.wrap (b+f)<=i64.wrap (b+f)/\(↑(4:Nat):Int)*i64.wrap (b+f)<=(281474976710656:Int)/\i64.wrap (b+f)<=(9223372036854775807:Int))/\∃(I:Tj->Prop),∃(h: _->Nat),I (d,d,List.replicate (i64.wrap (b+f)).toNat d,())/\∀(p:Tj),let g:=(p.2.2.1.length:Int);let e:=(List.set p.2.2.1 b.toNat (u32.wrap p.1));let a:=(u64.wrap (↑(BitVec.ofInt u64.bits p.1|||BitVec.ofInt u64.bits (u64.wrap (u64.wrap (gx d x.1 p.2.1)*(2:Int)^Min.min x.2.1.toNat u64.bits))).toNat:Int));let c:=(a.fdiv ((2:Int)^Min.min ((32:Int).toNat) u64.bits),i64.wrap (p.2.1+f),List.set p.2.2.1 p.2.1.toNat (u32.wrap a),());(Ty.int u64).wf p.1/\(Ty.int i64).wf p.2.1/\Hn p.2.2.1/\True->I p->(iB (decide (p.2.1<b)) ((d<=p.2.1/\p.2.1<b)/\(0:(Ty.int i64).den)<=x.2.1/\(d<=p.2.1/\p.2.1<g)/\(0:(Ty.int u64).den)<=(32:Int)/\I c/\h c<h p) ((d<=b/\b<g)/\e.length=x.1.length+(1:Nat)/\nv e=nv x.1*2^x.2.1.toNat))
def A5c (v:Int) (_:0<=v):Int.fdiv v (2^Min.min (Int.toNat 32) u64.bits)=v/4294967296:=by
 rw[show Min.min (Int.toNat 32) u64.bits=32 from rfl,sP _ δ];rfl
def C5d (v:Int) (_:0<=v):Int.fdiv v (2^Min.min (Int.toNat 63) u64.bits)=v/9223372036854775808:=by
 rw[show Min.min (Int.toNat 63) u64.bits=63 from rfl,sP _ δ];rfl
def KZ {v b:Int} {k:Nat} (v0:0<=v) (v1:v<2^k) (b0:0<=b) (a:b*2^k<18446744073709551616) (c:v<18446744073709551616):(((BitVec.ofInt 64 (b*2^k) |||BitVec.ofInt 64 v).toNat:Nat):Int)=v+b*2^k:=by
 rw[BitVec.or_comm];exact YT v0 v1 b0 a c
def LZ:sn Er BB:=λx y H=>by
 obtain⟨a,b,_⟩:=x;have F:B4 a:=A5 y.1.2;have G:B4 b:=A5 y.2.1.2;change Wf at a b;obtain⟨R,T⟩:a.length<=17592186044416/\b.length<=17592186044416:=H;have U:=D8 F;have V:=D8 G;simp only[BB,iB,Q8];refine⟨trivial,?_⟩;rintro⟨M,_⟩ _ g;refine⟨trivial,?_⟩;rintro⟨W,_⟩ _ w;simp only at g w|-;subst g w;refine⟨λp=>p.2.1.length<=p.1.length/\p.1.length<=17592186044416/\nv p.1+nv p.2.1=nv a+nv b,⟨λh=>?_,λh=>?_⟩,?_⟩
 . have h:=qA h;refine⟨by show(nc (nv a)).length<=(nc (nv b)).length;omega,by show(nc (nv b)).length<= _;omega,?_⟩;show nv (nc (nv b))+nv (nc (nv a))= _;rw[G1,G1,vT]
 . have h:=qB h;refine⟨by show(nc (nv b)).length<=(nc (nv a)).length;omega,by show(nc (nv a)).length<= _;omega,?_⟩;show nv (nc (nv a))+nv (nc (nv b))= _;rw[G1,G1]
 rintro⟨(P:Wf),(Q:Wf),_⟩ ⟨I,J,_⟩ ⟨n,A,o⟩;simp only at n A o|-;have s:B4 P:=A5 I.2;have t:B4 Q:=A5 J.2;rw[wv (a:=(P.length:Int)+1) ω];refine⟨⟨ω,qH _,by simp;omega,ω⟩,?_⟩;refine⟨λp=>0<=p.2.1/\p.2.1<=(P.length:Int)/\0<=p.1/\p.1<=1/\p.2.2.1.length=P.length+1/\nv (p.2.2.1.take p.2.1.toNat)+4294967296^p.2.1.toNat*p.1.toNat=nv (P.take p.2.1.toNat)+nv (Q.take p.2.1.toNat),λp=>((P.length:Int)-p.2.1).toNat,⟨qH _,qD _,qH _,by show(0:Int)<=1;omega,by rw[rG];omega,by simp[nv]⟩,?_⟩;rintro⟨(f:Int),(i:Int),(out:Wf),_⟩ ⟨_,_,O,_⟩ ⟨d,B,D,E,r,j⟩;simp only at d B D E r j|-;have N:=N9 s i.toNat;have dQ:=N9 t i.toNat;refine⟨λk=>?_,λk=>?_⟩
 . have h:i<(P.length:Int):=qA k;rw[Fp s d h,X5 (a:=(dg P i.toNat:Int)) ω ω,X5 (a:=f+(dg P i.toNat:Int)) ω ω];refine⟨⟨d,h⟩,λp=>p.1=f+(dg P i.toNat:Int)+(dg Q i.toNat:Int),⟨λc=>?_,λc=>?_⟩,?_⟩
   . have c:=qA c;refine⟨⟨d,c⟩,?_⟩;show u64.wrap _= _;rw[Fp t d c,X5 (a:=(dg Q i.toNat:Int)) ω ω,X5 ω ω]
   . have c:=qB c;show f+(dg P i.toNat:Int)= _;rw[Px (l:=Q) ω];omega
   rintro⟨(z:Int),_⟩ _ u;simp only at u|-;subst u;refine⟨⟨d,ω⟩,δ,?_⟩;rw[A5c _ ω,wv ω,Ch];refine⟨⟨ω,ω,ω,ω,by rw[qO];exact r,?_⟩,ω⟩;rw[(ω:(i+1).toNat=i.toNat+1),T8 ω,J5 P,J5 Q,sD];exact fV j ω
 . have h:=qB k;refine⟨⟨ω,ω⟩,trivial,?_⟩;rintro⟨M,_⟩ _ g;simp only at g|-;rw[g];congr 1;rw[(ω:i.toNat=P.length),qS (qP P.length),qS n]at j;rw[qK,w32 ω ω];have e:=T8 (l:=out) (i:=P.length) (v:=f) ω;rw[qS (by rw[qO];omega)]at e;rw[e,j,o]
def MC:sn Eu BF:=λx F O=>by
 obtain⟨a,d,_⟩:=x;have I:B4 a:=A5 F.1.2;have J:B4 d:=A5 F.2.1.2;change Wf at a d;obtain⟨Y,Z⟩:a.length<=17592186044416/\d.length<=17592186044416:=O;have T:=D8 I;have a0:=D8 J;simp only[BF,iB,Q8,Dx];refine⟨trivial,?_⟩;rintro⟨r,_⟩ _ c;refine⟨trivial,?_⟩;rintro⟨s,_⟩ _ g;refine⟨trivial,?_⟩;rintro⟨w,_⟩ _ k;simp only at c g k|-;rw[c,g,G1,G1]at k;subst k;refine⟨λh=>?_,λh=>?_⟩
 . have h:=qA h;refine⟨λ_=>⟨by trivial,by trivial⟩,λv=>?_⟩;unfold Cp at h;rw[qG ω]at h;split at h<;>omega
 . have h:=qB h;have v:nv d<=nv a:=by
    rcases sF (nv a) (nv d)with j|j
    . rw[Oj j]at h;omega
    . exact j
   have A:B4 r:=c▸K6 _;have D:B4 s:=g▸K6 _;have B:nv r=nv a:=by rw[c,G1]
   have E:nv s=nv d:=by rw[g,G1]
   have X:r.length<=a.length:=by rw[c];exact T
   have Q:s.length<=r.length:=by rw[c,g];exact J9 v
   rw[<-B, <-E]at v|-;clear c g B E;refine⟨⟨ω,qH _,by simp;omega,ω⟩,?_⟩;refine⟨λp=>0<=p.2.1/\p.2.1<=(r.length:Int)/\0<=p.1/\p.1<=1/\p.2.2.1.length=r.length/\nv (r.take p.2.1.toNat)+4294967296^p.2.1.toNat*p.1.toNat=nv (p.2.2.1.take p.2.1.toNat)+nv (s.take p.2.1.toNat),λp=>((r.length:Int)-p.2.1).toNat,⟨qH _,qD _,qH _,by show(0:Int)<=1;omega,by simp,by simp[nv]⟩,?_⟩;rintro⟨(o:Int),(i:Int),(out:Wf),_⟩ ⟨_,_,R,_⟩ ⟨f,j,G,H,u,n⟩;simp only at f j G H u n|-;have N:B4 out:=A5 R.2;have U:=N9 A i.toNat;have V:=N9 D i.toNat;refine⟨λt=>?_,λt=>?_⟩
   . have h:i<(r.length:Int):=qA t;rw[Fp A f h,X5 (a:=(dg r i.toNat:Int)) ω ω];refine⟨⟨f,h⟩,λp=>p.1=((dg r i.toNat:Int)-o-(dg s i.toNat:Int))%18446744073709551616,⟨λb=>?_,λb=>?_⟩,?_⟩
     . have b:=qA b;refine⟨⟨f,b⟩,?_⟩;show u64.wrap _= _;rw[Fp D f b,X5 (a:=(dg s i.toNat:Int)) ω ω,Ci,Ci];omega
     . have b:=qB b;show u64.wrap _= _;rw[Px (l:=s) ω,Ci];omega
     rintro⟨(w:Int),_⟩ _ k;simp only at k|-;refine⟨⟨f,ω⟩,δ,?_⟩;rw[C5d _ ω,wv ω,Ch];refine⟨⟨ω,ω,ω,ω,by rw[qO];exact u,?_⟩,ω⟩;rw[(ω:(i+1).toNat=i.toNat+1),T8 ω,J5 r,J5 s,sD];exact XX n ω
   . have h:=qB t;refine⟨trivial,?_⟩;rintro⟨q,_⟩ _ z;simp only at z|-;refine⟨λW=>ω,λ_=>⟨?_,by trivial⟩⟩;rw[z];congr 1;rw[(ω:i.toNat=r.length),qS (qP _),qS ω,qS Q]at n;have y:nv out<4294967296^out.length:=Gk N;rw[u]at y;have M:o.toNat=0:=GX (P:=4294967296^r.length) (x:=nv out) ω y;rw[M,wW,tA]at n;omega
def MB:sn Et BE:=λx T ac=>by
 obtain⟨g,n,_⟩:=x;have a6:B4 g:=A5 T.1.2;have a7:B4 n:=A5 T.2.1.2;change Wf at g n;obtain⟨aj,am⟩:g.length<=17592186044416/\n.length<=17592186044416:=ac;have ae:=D8 a6;have af:=D8 a7;simp only[BE,iB,Q8];refine⟨trivial,?_⟩;rintro⟨a,_⟩ _ d;refine⟨trivial,?_⟩;rintro⟨b,_⟩ _ f;simp only at d f|-;have J:B4 a:=d▸K6 _;have N:B4 b:=f▸K6 _;have ai:a.length<=17592186044416:=by rw[d];omega
 have ak:b.length<=17592186044416:=by rw[f];omega
 have X:nv a=nv g:=by rw[d,G1]
 have Y:nv b=nv n:=by rw[f,G1]
 rw[<-X, <-Y];clear d f X Y ae af;refine⟨λh=>?_,λ_=>?_⟩
 . rw[K8]at h;simp only[uP,rQ]at h;have:nv a*nv b=0:=by
    rcases h with h|h
    . rw[qT (l:=a) ω];simp[nv]
    . rw[qT (l:=b) ω];simp[nv]
   rw[this,Q7]
 have a2:i64.wrap ((a.length:Int)+(b.length:Int))=((a.length+b.length:Nat):Int):=by
  rw[wv ω];omega
 rw[a2];refine⟨⟨ω,qH _,by simp;omega,ω⟩,?_⟩;refine⟨λp=>0<=p.1/\p.1<=(a.length:Int)/\p.2.1.length=a.length+b.length/\nv p.2.1=nv (a.take p.1.toNat)*nv b/\∀j,p.1.toNat+b.length<=j->dg p.2.1 j=0,λp=>((a.length:Int)-p.1).toNat,⟨qH _,qD _,by rw[rG,qK],by simp[nv,Rs],λj _=>JX _ _⟩,?_⟩;rintro⟨(i:Int),(out:Wf),_⟩ ⟨_,ah,_⟩ ⟨A,a4,B,t,D⟩;simp only at A a4 B t D|-;refine⟨λz=>?_,λz=>?_⟩
 . have h:i<(a.length:Int):=qA z;have Z:=N9 J i.toNat;rw[Fp J A h];refine⟨λp=>p.1.length=a.length+b.length/\nv p.1=nv (a.take (i.toNat+1))*nv b/\∀j,i.toNat+1+b.length<=j->dg p.1 j=0,⟨⟨A,h⟩,λG=>?_,λG=>?_⟩,?_⟩
   . have G:(dg a i.toNat:Int)=0:=qA G;refine⟨B,?_,λj u=>D j ω⟩;show nv out= _;rw[t,J5,(ω:dg a i.toNat=0),wW,tA]
   . refine⟨λp=>0<=p.2.1/\p.2.1<=(b.length:Int)/\0<=p.1/\p.1<=4294967295/\p.2.2.1.length=a.length+b.length/\nv p.2.2.1+4294967296^(i.toNat+p.2.1.toNat)*p.1.toNat=nv out+4294967296^i.toNat*(dg a i.toNat*nv (b.take p.2.1.toNat))/\∀j,i.toNat+b.length<=j->dg p.2.2.1 j=0,λp=>((b.length:Int)-p.2.1).toNat,⟨qH _,qD _,qH _,by show(0:Int)<=4294967295;omega,B,by simp[nv],D⟩,?_⟩;rintro⟨(c:Int),(j:Int),(o:Wf),_⟩ ⟨_,_,ad,_⟩ ⟨w,a3,H,I,y,r,s⟩;simp only at w a3 H I y r s|-;have O:B4 o:=A5 ad.2;refine⟨λE=>?_,λE=>?_⟩
     . have u:j<(b.length:Int):=qA E;have a0:=N9 N j.toNat;rw[wv (a:=i+j) ω];refine⟨⟨w,u⟩,⟨ω,ω⟩,⟨ω,ω⟩,δ,?_⟩;rw[Fp N w u,Y1 O,(ω:(i+j).toNat=i.toNat+j.toNat)];have ag:=N9 O (i.toNat+j.toNat);have aa:dg a i.toNat*dg b j.toNat<=4294967295*4294967295:=vD Z a0;have ab:(dg a i.toNat:Int)*(dg b j.toNat:Int)=((dg a i.toNat*dg b j.toNat:Nat):Int):=(uY _ _).symm;rw[X5 (a:=(dg a i.toNat:Int)) ω ω,X5 (a:=(dg b j.toNat:Int)) ω ω,X5 (a:=(dg o (i.toNat+j.toNat):Int)) ω ω,ab];generalize a5:dg a i.toNat*dg b j.toNat=M at aa;rw[X5 (a:=(M:Int)) ω ω,X5 (a:=(M:Int)+(dg o (i.toNat+j.toNat):Int)) ω ω,X5 ω ω,A5c _ ω,wv ω,Ch];refine⟨⟨ω,ω,ω,ω,by rw[qO];exact y,?_,λq Q=>?_⟩,ω⟩
       . have F:=Jz (l:=o) (k:=i.toNat+j.toNat) (v:=(c+((M:Int)+(dg o (i.toNat+j.toNat):Int)))%4294967296) ω;rw[(ω:(j+1).toNat=j.toNat+1),J5 b, <-uM i.toNat,sD,sS (dg a i.toNat)];have a1:dg a i.toNat*(4294967296^j.toNat*dg b j.toNat)=4294967296^j.toNat*M:=by rw[<-a5,g0j]
         rw[a1,sS (4294967296^i.toNat), <-sI (4294967296^i.toNat) (4294967296^j.toNat), <-uN, <-uM (nv out), <-r];generalize 4294967296^(i.toNat+j.toNat)=P at*;have a8:((c+((M:Int)+(dg o (i.toNat+j.toNat):Int)))%4294967296).toNat+4294967296*((c+((M:Int)+(dg o (i.toNat+j.toNat):Int)))/4294967296).toNat=c.toNat+dg o (i.toNat+j.toNat)+M:=ω
         have a9:=sZ (P* ·) a8;simp only[sS, <-sI]at a9;omega
       . rw[Yz ω,qG ω];exact s q Q
     . have u:=qB E;rw[wv (a:=i+(b.length:Int)) ω,w32 H I];refine⟨⟨ω,ω⟩,⟨by show(o.set _ _).length= _;rw[qO];exact y,?_,λq Q=>?_⟩⟩
       . show nv (o.set _ _)= _;have F:=Jz (l:=o) (k:=(i+(b.length:Int)).toNat) (v:=c) ω;rw[s _ ω,wW,tA]at F;rw[F,(ω:(i+(b.length:Int)).toNat=i.toNat+b.length)];rw[(ω:j.toNat=b.length),qS (qP b.length)]at r;rw[r,J5,vC,t,sI]
       . show dg (o.set _ _) q=0;rw[Yz ω,qG ω];exact s q ω
   . rintro⟨o,_⟩ _ ⟨U,V,W⟩;simp only at U V W|-;rw[wv ω,(ω:(i+1).toNat=i.toNat+1)];exact⟨⟨ω,ω,U,V,W⟩,ω⟩
 . have h:=qB z;refine⟨trivial,?_⟩;rintro⟨an,_⟩ _ R;simp only at R|-;rw[R,t,qS ω]
def Ni:sn O7 Fw:=λx D P=>by
 obtain⟨l,d,_⟩:=x;have O:B4 l:=A5 D.1.2;change Wf at l;change Int at d;have J:u32.min<=d/\d<=u32.max:=D.2.1;rw[UW,UV]at J;obtain⟨X,o⟩:l.length<=17592186044416/\d≠0:=P;simp only[Fw,iB,Q8];have T:u64.wrap d=d:=X5 ω ω;rw[T,wv (a:=(l.length:Int)-1) ω];refine⟨⟨ω,qH _,by simp;omega,ω⟩,?_⟩;refine⟨λp=> -1<=p.2.1/\p.2.1<(l.length:Int)/\0<=p.1/\p.1<d/\p.2.2.1.length=l.length/\nv (l.drop (p.2.1+1).toNat)=nv (p.2.2.1.drop (p.2.1+1).toNat)*d.toNat+p.1.toNat,λp=>(p.2.1+1).toNat,⟨by show(-1:Int)<=(l.length:Int)-1;omega,by show(l.length:Int)-1< _;omega,qH _,by show(0:Int)<d;omega,by simp,?_⟩,?_⟩
 . show nv (l.drop ((l.length:Int)-1+1).toNat)=nv ((List.replicate _ 0).drop ((l.length:Int)-1+1).toNat)* _ + _;rw[sJ ω,sJ (by rw[rG];omega)];simp[nv]
 rintro⟨(c:Int),(i:Int),(q:Wf),_⟩ _ ⟨H,j,s,I,u,g⟩;simp only at H j s I u g|-;refine⟨λr=>?_,λr=>?_⟩
 . have h:0<=i:=qA r;have w:=Ut O h j;have M:=W1 (l:=l) h j;rw[show Min.min (Int.toNat 32) u64.bits=32 from rfl];generalize gx 0 l i=b at*;have E:u64.wrap (c*2^32)=c*2^32:=X5 ω ω;have F:u64.wrap b=b:=X5 ω ω;have G:(((BitVec.ofInt u64.bits (c*2^32) |||BitVec.ofInt u64.bits b).toNat:Nat):Int)=b+c*4294967296:=KZ (v:=b) (b:=c) (k:=32) w.1 ω s ω ω;rw[E,F,G,X5 (a:=b+c*4294967296) ω ω,wv (a:=i-1) ω];have t:0<=b+c*4294967296:=ω
   rw[uS t,IntWalk.u64_quo _ _ ⟨t,ω,ω⟩];have y:=g0w t (ω:0<=d);have V:(b+c*4294967296)/d<4294967296:=by
    rw[g2n ω];have:(c+1)*4294967296<=d*4294967296:=sQ ω δ;omega
   have A:=g2r (b+c*4294967296) o;have Q:=zS (b+c*4294967296) (b:=d) ω;have U:=yL (b+c*4294967296) d;rw[w32 y ω];generalize (b+c*4294967296)/d=f at*;generalize (b+c*4294967296)%d=ri at*;refine⟨δ,⟨h,j⟩,o,⟨h,ω⟩,o,⟨ω,ω,A,Q,by rw[qO];exact u,?_⟩,ω⟩;rw[(ω:i-1+1=i),M];have N:(q.set i.toNat f).drop i.toNat=f::q.drop (i+1).toNat:=by
    have n:i.toNat<q.length:=ω
    rw[xO (by rw[qO];exact n),List.getElem_set_self,zD ω,(ω:(i+1).toNat=i.toNat+1)]
   rw[N];simp only[nv];rw[g];have R:(b.toNat:Int)+4294967296*c.toNat=f.toNat*d.toNat+ri.toNat:=by
    rw[tH w.1,tH s,tH y,tH (ω:0<=d),tH A,g2p f];omega
   have W:b.toNat+4294967296*c.toNat=f.toNat*d.toNat+ri.toNat:=by
    have:((b.toNat+4294967296*c.toNat:Nat):Int)=((f.toNat*d.toNat+ri.toNat:Nat):Int):=by
     rw[wO,wO,uY,uY];exact R
    exact wV this
   rw[sS, <-sI,vC];omega
 . have h:¬0<=i:=qB r;rw[(ω:(i+1).toNat=0),uB,uB]at g;refine⟨trivial,?_⟩;rintro⟨Y,_⟩ _ z;refine⟨trivial,?_⟩;rintro⟨Z,_⟩ _ B;simp only at z B|-;have n:c.toNat<d.toNat:=ω
   rw[sG]at g;rw[z,B,g,g2x,uE n,g2w ω,uO n,tA];exact⟨rfl,rfl⟩
def Yi:sn S2 Nk:=λx F E=>by
 obtain⟨l,s,_⟩:=x;have u:B4 l:=A5 F.1.2;change Wf at l;change Int at s;obtain⟨Q,G,R⟩:l.length<=17592186044416/\0<=s/\s<=31:=E;simp only[Nk,iB];rw[wv (a:=(l.length:Int)+1) ω];refine⟨⟨ω,qH _,by simp;omega,ω⟩,?_⟩;have N:(2:Nat)^s.toNat<=2^31:=rX δ ω;have J:0<(2:Nat)^s.toNat:=tZ δ;have d:((2:Int)^s.toNat)=((2^s.toNat:Nat):Int):=by rw[xP];rfl
 refine⟨λp=>0<=p.2.1/\p.2.1<=(l.length:Int)/\0<=p.1/\p.1<2^s.toNat/\p.2.2.1.length=l.length+1/\nv (p.2.2.1.take p.2.1.toNat)+4294967296^p.2.1.toNat*p.1.toNat=nv (l.take p.2.1.toNat)*2^s.toNat,λp=>((l.length:Int)-p.2.1).toNat,⟨qH _,qD _,qH _,by show(0:Int)<2^s.toNat;rw[d];omega,by rw[rG];omega,by simp[nv]⟩,?_⟩;rintro⟨(c:Int),(i:Int),(out:Wf),_⟩ ⟨_,_,O,_⟩ ⟨f,y,t,o,r,g⟩;simp only at f y t o r g|-;have H:c<((2^s.toNat:Nat):Int):=by rw[<-d];exact o
 refine⟨λn=>?_,λn=>?_⟩
 . have j:i<(l.length:Int):=qA n;have dl:=N9 u i.toNat;have D:Min.min (Int.toNat s) u64.bits=s.toNat:=by show Min.min (Int.toNat s) 64= _;omega
   rw[Fp u f j,D,d];have h:(dg l i.toNat:Int)*((2^s.toNat:Nat):Int)=((dg l i.toNat*2^s.toNat:Nat):Int):=(uY _ _).symm;have I:dg l i.toNat*2^s.toNat<=4294967295*2^s.toNat:=rC _ dl;have w:(((BitVec.ofInt u64.bits c|||BitVec.ofInt u64.bits ((dg l i.toNat*2^s.toNat:Nat):Int)).toNat:Nat):Int)=c+((dg l i.toNat*2^s.toNat:Nat):Int):=by
    have:=YT (v:=c) (b:=(dg l i.toNat:Int)) (k:=s.toNat) t o ω (by rw[d,h];omega) ω;rw[d,h]at this;exact this
   rw[X5 (a:=(dg l i.toNat:Int)) ω ω,h,X5 (a:=((dg l i.toNat*2^s.toNat:Nat):Int)) ω ω,w,X5 ω ω,A5c _ ω,wv ω,Ch];generalize z:dg l i.toNat*2^s.toNat=M at*;refine⟨⟨f,j⟩,G,⟨f,ω⟩,δ,⟨ω,ω,ω,?_,by rw[qO];exact r,?_⟩,ω⟩
   . generalize 2^s.toNat=T at*;omega
   . rw[(ω:(i+1).toNat=i.toNat+1),T8 ω,J5 l,sD,vC, <-g,sI (4294967296^i.toNat) (dg l i.toNat),z];generalize 4294967296^i.toNat=P at*;have A:((c+(M:Int))%4294967296).toNat+4294967296*((c+(M:Int))/4294967296).toNat=c.toNat+M:=ω
     have B:=sZ (P* ·) A;simp only[sS, <-sI]at B;omega
 . have j:¬i<(l.length:Int):=qB n;rw[qK,w32 ω ω];refine⟨⟨ω,ω⟩,by rw[qO];exact r,?_⟩;have e:=T8 (l:=out) (i:=l.length) (v:=c) ω;rw[qS (by rw[qO];omega)]at e;rw[(ω:i.toNat=l.length),qS (qP l.length)]at g;rw[e,g]
def Qq:sn N8 Hw:=λx J R=>by
 obtain⟨a,n,_⟩:=x;have Q:B4 a:=A5 J.1.2;have G:=(show i64.min<=n/\n<=i64.max from J.2.1);rw[Uo,CW]at G;change Wf at a;change Int at n;have a3:a.length<=17592186044416:=R;have V:=D8 Q;have Y: -9223372036854775808<=n/\n<=9223372036854775807:=G;simp only[Hw,iB,Q8];refine⟨λh=>?_,λh=>⟨trivial,?_⟩⟩
 . have h:=qA h;exact⟨λ_=>⟨by trivial,by trivial⟩,λg=>ω⟩
 have h:=qB h;have z:0<=n:=ω
 rintro⟨r,_⟩ _ o;simp only at o|-;have A:i64.wrap (Int.tdiv n 32)=((n.toNat/32:Nat):Int):=by
  rw[yV z,wv ω];omega
 have B:(Int.tmod n 32).toNat=n.toNat%32:=by rw[uS z];omega
 have N:(0:Int)<=Int.tmod n 32:=zN _ z;have D:n.toNat=32*(n.toNat/32)+n.toNat%32:=ω
 have O:n.toNat%32<=31:=ω
 have E:Min.min (n.toNat%32) u64.bits=n.toNat%32:=by show Min.min (n.toNat%32) 64= _;omega
 rw[A,B,E];have T:nv r=nv a:=by rw[o,G1]
 have I:B4 r:=o▸K6 _;have a0:r.length<=a.length:=by rw[o];exact V
 have u:=gR (l:=r) I (k:=n.toNat/32) (s:=n.toNat%32);rw[<-D,T]at u;clear A B E;refine⟨δ,λg=>?_,λg=>?_⟩
 . have g:=qA g;refine⟨λc=>ω,λ_=>⟨?_,by trivial⟩⟩;rw[u,sJ ω,kN,g4w,Q7]
 . have g:=qB g;rw[u];rw[show(((n.toNat/32:Nat):Int)).toNat=n.toNat/32 from qK _,show((r.length:Int)).toNat=r.length from qK _,qS (qP _)];have f:B4 (r.drop (n.toNat/32)):=λy hy=>I y (vQ hy)
   have a1:(r.drop (n.toNat/32)).length<=r.length:=by rw[sV];omega
   refine⟨δ,⟨ω,ω,qH _⟩,δ,⟨ω,qH _,ω,ω⟩,?_⟩;clear u D;generalize r.drop (n.toNat/32)=t at*;generalize n.toNat%32=s at*;have P:nv t/2^s<4294967296^t.length:=xJ (xC _ _) (Gk f);refine⟨λp=>0<=p.1/\p.1<=(t.length:Int)/\p.2.1.length=t.length/\nv (p.2.1.take p.1.toNat)=nv t/2^s%4294967296^p.1.toNat,λp=>((t.length:Int)-p.1).toNat,⟨qH _,qD _,by simp,by simp[nv];omega⟩,?_⟩;rintro⟨(i:Int),(out:Wf),_⟩ ⟨_,a2,_⟩ ⟨j,U,M,w⟩;simp only at j U M w|-;have W:=N9 f i.toNat;have X:=N9 f (i.toNat+1);refine⟨λc=>?_,λc=>?_⟩
   . have c:=qA c;rw[wv (a:=i+1) ω];refine⟨⟨j,c⟩,λp=>p.1=((dg t i.toNat+dg t (i.toNat+1)*4294967296:Nat):Int),⟨λd=>?_,λd=>?_⟩,?_⟩
     . have d:=qA d;refine⟨⟨ω,d⟩,δ,?_⟩;show u64.wrap _= _;rw[Fp f j c,Fp f ω d,(ω:(i+1).toNat=i.toNat+1)];rw[show Min.min (Int.toNat 32) u64.bits=32 from rfl];rw[X5 (a:=(dg t i.toNat:Int)) ω ω,X5 (a:=(dg t (i.toNat+1):Int)) ω ω,X5 (a:=(dg t (i.toNat+1):Int)*2^32) ω ω];have:=YT (v:=(dg t i.toNat:Int)) (b:=(dg t (i.toNat+1):Int)) (k:=32) ω ω ω ω ω;rw[show u64.bits=64 from rfl,this,X5 ω ω];omega
     . have d:=qB d;show u64.wrap _= _;rw[Fp f j c,X5 ω ω,Px (i:=i.toNat+1) ω];omega
     rintro⟨a4,_⟩ _ F;simp only at F|-;refine⟨N,⟨j,ω⟩,⟨ω,ω,by rw[qO];exact M,?_⟩,ω⟩;rw[(ω:(i+1).toNat=i.toNat+1),T8 ω,w,sD,Nat.mod_mul,B1c f _ O];congr 2;rw[F,Ch];have:Int.fdiv ((dg t i.toNat+dg t (i.toNat+1)*4294967296:Nat):Int) (2^s)=(((dg t i.toNat+dg t (i.toNat+1)*4294967296)/2^s:Nat):Int):=by
      rw[show((2:Int)^s)=((2^s:Nat):Int)from by rw[xP];rfl,sP _ (qD _)];rfl
     rw[this];generalize (dg t i.toNat+dg t (i.toNat+1)*4294967296)/2^s=Z;omega
   . have c:=qB c;refine⟨trivial,?_⟩;rintro⟨q,_⟩ _ H;simp only at H|-;refine⟨λh=>ω,λ_=>⟨?_,by trivial⟩⟩;rw[(ω:i.toNat=t.length),qS ω,uE P]at w;rw[H,w]
def bV:An:= {join:= [(4,⟨[],[],[(0,false,[.val qg]),(2,false,vI)],[],[]⟩),(7,⟨[],[],[(0,false,[.val qg]),(2,false,vI)],[],[]⟩)]}
def Tz:An:= {}
def ED:An:= {}
def JJ:An:= {plan:= [(2,[],[],true, .done)]}
def GQ:An:= {loop:= [(7,⟨[4],[0],[(7,false,vU),(8,false,vU),(9,false,vU),(10,false,vU),(11,false,vU),(12,false,vU),(13,false,vU),(14,false,vU),(15,false,[.val .bool])],[],[]⟩)],plan:= [(9,[],[],true, .done)]}
def GP:An:= {}
def Dp:ByteArray:=ByteArray.mk (([(0:UInt8),1,2,2,3,3,3,3,4,4,4,4,4,4,4,4,5,5,5,5,5,5,5,5,5,5,5,5,5,5,5,5,6,6,6,6,6,6,6,6,6,6,6,6,6,6,6,6,6,6,6,6,6,6,6,6,6,6,6,6,6,6,6,6].append [(7:UInt8),7,7,7,7,7,7,7,7,7,7,7,7,7,7,7,7,7,7,7,7,7,7,7,7,7,7,7,7,7,7,7,7,7,7,7,7,7,7,7,7,7,7,7,7,7,7,7,7,7,7,7,7,7,7,7,7,7,7,7,7,7,7,7]).append ([(8:UInt8),8,8,8,8,8,8,8,8,8,8,8,8,8,8,8,8,8,8,8,8,8,8,8,8,8,8,8,8,8,8,8,8,8,8,8,8,8,8,8,8,8,8,8,8,8,8,8,8,8,8,8,8,8,8,8,8,8,8,8,8,8,8,8].append [(8:UInt8),8,8,8,8,8,8,8,8,8,8,8,8,8,8,8,8,8,8,8,8,8,8,8,8,8,8,8,8,8,8,8,8,8,8,8,8,8,8,8,8,8,8,8,8,8,8,8,8,8,8,8,8,8,8,8,8,8,8,8,8,8,8,8])).toArray
def FZ(x:E3):Prop:=∃(J:Ee->Prop),((iB (decide (65536<=x.1)) ((0:(Ty.int u64).den)<=(16:Int)/\J (Int.fdiv x.1 ((2:Int)^Min.min ((16:Int).toNat) u32.bits),(16:Int),())) (J (x.1,(0:Int),()))))/\∀(p:Ee),(Ty.int u32).wf p.1/\(Ty.int i64).wf p.2.1/\True->J p->∃(J:Ee->Prop),((iB (decide (256<=p.1)) ((0:(Ty.int u64).den)<=(8:Int)/\J (Int.fdiv p.1 ((2:Int)^Min.min ((8:Int).toNat) u32.bits),i64.wrap (p.2.1+8),())) (J (p.1,p.2.1,()))))/\∀(p:Ee),(Ty.int u32).wf p.1/\(Ty.int i64).wf p.2.1/\True->J p->((0:Int)<=IntKind.u8.wrap p.1/\IntKind.u8.wrap p.1<(↑(Dp).data.toList.length:Int))/\i64.wrap (p.2.1+i64.wrap (GW (Dp) (IntKind.u8.wrap p.1)))=(↑(M7 x.1.toNat):Int)
def Hi(x:E3):Prop:=True/\Dx λr=>r.1=(↑(M7 x.1.toNat):Int)->i64.wrap (32-r.1)=(32:Int)-(↑(M7 x.1.toNat):Int)
def Kj(x:ZT):Prop:=let c:=(↑x.2.1.length:Int);let b:=(0:Int);let a:=(x.2.1.length:Int);(iB (decide (x.1<a)) ((b<=x.1/\x.1<a)/\u64.wrap (gx b x.2.1 x.1)=if x.1<c then x.2.1.getD x.1.toNat b else b) (b=if x.1<c then x.2.1.getD x.1.toNat b else b))
def Ph(x:Wf×Int×Int×Unit):Prop:=let d:=(32:Int);let c:=(2:Int);let b:=(x.1.length:Int);let a:=(0:Int);a<=i64.wrap (x.2.1-1)/\rT1 λr=>(r.1=if i64.wrap (x.2.1-1)<b then List.getD x.1 (i64.wrap (x.2.1-1)).toNat a else a)->(0:(Ty.int u64).den)<=d/\a<=i64.wrap (x.2.1-c)/\rT1 λe=>(e.1=if i64.wrap (x.2.1-c)<b then List.getD x.1 (i64.wrap (x.2.1-c)).toNat a else a)->(0:(Ty.int i64).den)<=x.2.2.1/\a<=i64.wrap (x.2.1-3)/\rT1 λf=>(f.1=if i64.wrap (x.2.1-3)<b then List.getD x.1 (i64.wrap (x.2.1-3)).toNat a else a)->(0:(Ty.int i64).den)<=i64.wrap (d-x.2.2.1)/\u64.wrap (↑(BitVec.ofInt u64.bits (u64.wrap (u64.wrap (↑(BitVec.ofInt u64.bits (u64.wrap (r.1*c^Min.min d.toNat u64.bits)) |||BitVec.ofInt u64.bits e.1).toNat:Int)*c^Min.min x.2.2.1.toNat u64.bits)) |||BitVec.ofInt u64.bits (Int.fdiv f.1 (c^Min.min (i64.wrap (d-x.2.2.1)).toNat u64.bits))).toNat:Int)=(↑(nv x.1*2^x.2.2.1.toNat/(4294967296:Nat)^(x.2.1.toNat-(2:Nat))):Int)
abbrev C7u:=Int×Int×Int×Int×Int×Int×Int×Int×Bool×Unit
def Nj(x:Gd):Prop:=let l:=(17592186044416:Int);let k:=(2:Nat);let j:=(1:Int);let i:=(4294967296:Nat);let g:=(↑(nv x.1):Int);let e:=(↑(nv x.2.1):Int);let d:=(0:Int);let c:=(x.1.length:Int);(d<=i64.wrap (c-j)/\i64.wrap (c-j)<c)/\True/\Dx λr=>r.1=32-(↑(M7 (gx d x.1 (i64.wrap (c-j))).toNat):Int)->((3:Int)<=c/\c<=c/\c<=l/\d<=r.1/\r.1<=31/\nv x.1*k^Int.toNat r.1<i^c.toNat)/\rT1 λm=>m.1=(↑(nv x.1*k^Int.toNat r.1/i^(c.toNat-k)):Int)->((3:Int)<=c/\(x.2.1.length:Int)<=c/\c<=l/\d<=r.1/\r.1<=31/\nv x.2.1*k^Int.toNat r.1<i^c.toNat)/\rT1 λn=>n.1=(↑(nv x.2.1*k^Int.toNat r.1/i^(c.toNat-k)):Int)->∃(I:C7u->Prop),∃(a: _->Nat),I (m.1,n.1,d,j,d,d,d,j,false,())/\∀(p:C7u),let h:=(u64.wrap (Int.tdiv p.1 p.2.1)*p.2.2.2.2.1);let f:=(u64.wrap (Int.tdiv p.1 p.2.1)*p.2.2.2.2.2.2.2.1);let c:Prop:=(p.2.2.2.2.2.2.2.1<=p.2.1);let b:Prop:=(u64.wrap (p.2.2.2.2.2.2.1+p.2.2.2.2.2.2.2.1)<=u64.wrap (p.1-p.2.1));(Ty.int u64).wf p.1/\(Ty.int u64).wf p.2.1/\(Ty.int u64).wf p.2.2.1/\(Ty.int u64).wf p.2.2.2.1/\(Ty.int u64).wf p.2.2.2.2.1/\(Ty.int u64).wf p.2.2.2.2.2.1/\(Ty.int u64).wf p.2.2.2.2.2.2.1/\(Ty.int u64).wf p.2.2.2.2.2.2.2.1/\Ty.bool.wf p.2.2.2.2.2.2.2.2.1/\True->I p->(iB (G6 (decide c) (decide b) false) (p.2.1≠d/\p.2.1≠d/\I (p.2.1,Int.tmod p.1 p.2.1,p.2.2.2.1,p.2.2.2.2.1,u64.wrap (p.2.2.2.1+u64.wrap h),p.2.2.2.2.2.2.1,p.2.2.2.2.2.2.2.1,u64.wrap (p.2.2.2.2.2.2.1+u64.wrap f), !p.2.2.2.2.2.2.2.2.1,())/\a (p.2.1,Int.tmod p.1 p.2.1,p.2.2.2.1,p.2.2.2.2.1,u64.wrap (p.2.2.2.1+u64.wrap h),p.2.2.2.2.2.2.1,p.2.2.2.2.2.2.2.1,u64.wrap (p.2.2.2.2.2.2.1+u64.wrap f), !p.2.2.2.2.2.2.2.2.1,())<a p) (p.2.2.2.2.2.1=d\/∃(A':Int),∃(B':Int),(A'=if p.2.2.2.2.2.2.2.2.1=true then p.2.2.1*g-p.2.2.2.2.2.1*e else p.2.2.2.2.2.1*e-p.2.2.1*g)/\(B'=if p.2.2.2.2.2.2.2.2.1=true then p.2.2.2.2.2.2.1*e-p.2.2.2.1*g else p.2.2.2.1*g-p.2.2.2.2.2.2.1*e)/\d<=B'/\B'<=A'/\g=p.2.2.2.2.2.2.1*A'+p.2.2.2.2.2.1*B'/\e=p.2.2.2.1*A'+p.2.2.1*B'/\j<=p.2.2.2.2.2.1/\j<=p.2.2.2.2.2.2.1/\d<=p.2.2.1/\d<=p.2.2.2.1))
abbrev A5r:=Wf×Bool×Unit
def Nh(x:Wf×Int×Wf×Int×Unit):Prop:=True/\Q8 λr=>r.1=nc x.2.1.toNat->(M9 x.1/\M9 r.1)/\Q8 λa=>a.1=nc (nv x.1*nv r.1)->True/\Q8 λr=>r.1=nc x.2.2.2.1.toNat->(M9 x.2.2.1/\M9 r.1)/\Q8 λb=>b.1=nc (nv x.2.2.1*nv r.1)->(M9 a.1/\M9 b.1)/\∀(r:A5r),Hn r.1/\True/\True->(nv a.1<nv b.1->r.1= []/\r.2.1=false)/\(nv b.1<=nv a.1->r.1=nc (nv a.1-nv b.1)/\r.2.1=true)->r.1=nc (nv x.1*x.2.1.toNat-nv x.2.2.1*x.2.2.2.1.toNat)
def C5f:∀k:Fin 256,GW Dp (k.val:Int)=(M7 k.val:Int):=by decide+kernel
def PR:sn Gx FZ:=λx D _=>by
 obtain⟨(v:Int),_⟩:=x;have B:=(show u32.min<=v/\v<=u32.max from D.1);rw[UW,UV]at B;simp only[FZ,iB];have l:Int.fdiv v (2^Min.min (Int.toNat 16) u32.bits)=v/65536:=by
  rw[show Min.min (Int.toNat 16) u32.bits=16 from rfl,sP _ δ];rfl
 rw[l];refine⟨λp=>0<=p.1/\p.1<65536/\0<=p.2.1/\p.2.1<=16/\(M7 v.toNat:Int)=M7 p.1.toNat+p.2.1,⟨λh=>?_,λh=>?_⟩,?_⟩
 . have h:=qA h;have e:=JR (n:=v.toNat) (k:=16) ω;refine⟨δ,by show(0:Int)<=v/65536;omega,by show v/65536<65536;omega,by show(0:Int)<=16;omega,by show(16:Int)<=16;omega,?_⟩;show(M7 v.toNat:Int)=M7 (v/65536).toNat+16;rw[e,(ω:(v/65536).toNat=v.toNat/2^16)];omega
 . have h:=qB h;refine⟨by show(0:Int)<=v;omega,by show v<65536;omega,by show(0:Int)<=0;omega,by show(0:Int)<=16;omega,?_⟩;show(M7 v.toNat:Int)=M7 v.toNat+0;omega
 rintro⟨(w:Int),(n:Int),_⟩ _ ⟨i,t,j,y,c⟩;simp only at i t j y c|-;have o:Int.fdiv w (2^Min.min (Int.toNat 8) u32.bits)=w/256:=by
  rw[show Min.min (Int.toNat 8) u32.bits=8 from rfl,sP _ δ];rfl
 rw[o,wv (a:=n+8) ω];refine⟨λp=>0<=p.1/\p.1<256/\0<=p.2.1/\p.2.1<=24/\(M7 v.toNat:Int)=M7 p.1.toNat+p.2.1,⟨λh=>?_,λh=>?_⟩,?_⟩
 . have h:=qA h;have e:=JR (n:=w.toNat) (k:=8) ω;refine⟨δ,by show(0:Int)<=w/256;omega,by show w/256<256;omega,by show 0<=n+8;omega,by show n+8<=24;omega,?_⟩;show(M7 v.toNat:Int)=M7 (w/256).toNat+(n+8);rw[c,e,(ω:(w/256).toNat=w.toNat/2^8)];omega
 . have h:=qB h;exact⟨i,by show w<256;omega,j,by show n<=24;omega,c⟩
 rintro⟨(u:Int),(m:Int),_⟩ _ ⟨b,f,r,s,g⟩;simp only at b f r s g|-;have E:IntKind.u8.wrap u=u:=IntWalk.u8_in _ ⟨b,ω⟩;have A:(Dp.data.toList.length:Int)=256:=by decide+kernel
 have d:=C5f ⟨u.toNat,ω⟩;simp only at d;rw[(ω:((u.toNat:Nat):Int)=u)]at d;have H:M7 u.toNat<=8:=by
  rcases sF 8 (M7 u.toNat)with h|h
  . have z:u.toNat≠0:=λe=>by rw[e,CL]at h;omega
    have F:=(CK z).1;have G:2^8<=2^(M7 u.toNat-1):=rX δ ω;omega
  . exact h
 rw[E,d];refine⟨⟨b,by rw[A];exact f⟩,?_⟩;rw[wv (a:=(M7 u.toNat:Int)) ω,wv ω,g];omega
def VY {v:Nat} (h:v<4294967296):M7 v<=32:=by
 rcases sF 32 (M7 v)with a|a
 . have b:v≠0:=λe=>by rw[e,CL]at a;omega
   have c:=(CK b).1;have b:2^32<=2^(M7 v-1):=rX δ ω;omega
 . exact a
def Nw:sn M5 Hi:=λx c _=>by
 obtain⟨(v:Int),_⟩:=x;have b:=(show u32.min<=v/\v<=u32.max from c.1);rw[UW,UV]at b;simp only[Hi,Dx];refine⟨trivial,?_⟩;rintro⟨r,_⟩ _ a;simp only at a|-;have:=VY (v:=v.toNat) ω;rw[a,wv ω]
def Vy:sn U8 Kj:=λx g f=>by
 obtain⟨i,l,_⟩:=x;have c:B4 l:=A5 g.2.1.2;change Int at i;change Wf at l;have a:0<=i:=f;simp only[Kj,iB];refine⟨λh=>?_,λh=>?_⟩
 . have h:=qA h;have b:=Ut c a h;rw[qJ h, <-J4 (d:=(0:Int)) a h,X5 b.1 ω];exact⟨⟨a,h⟩,rfl⟩
 . have h:=qB h;rw[qG h]
def B9n {l:Wf} (h:B4 l) {i:Int} (a:0<=i):(if i<(l.length:Int)then l.getD i.toNat 0 else 0)=(dg l i.toNat:Int):=by
 split
 . exact Y1 h
 . rw[Px ω];rfl
def BJ:sn Z9 Ph:=λx V T=>by
 obtain⟨l,n,s,_⟩:=x;have c:B4 l:=A5 V.1.2;change Wf at l;change Int at n s;obtain⟨a8,a7,a9,Z,a0,j⟩:3<=n/\(l.length:Int)<=n/\n<=17592186044416/\0<=s/\s<=31/\nv l*2^s.toNat<4294967296^n.toNat:=T;simp only[Ph,rT1];rw[wv (a:=n-1) ω,wv (a:=n-2) ω,wv (a:=n-3) ω,wv (a:=32-s) ω];refine⟨ω,?_⟩;rintro⟨a,_⟩ _ g;refine⟨δ,ω,?_⟩;rintro⟨b,_⟩ _ h;refine⟨Z,ω,?_⟩;rintro⟨a1,_⟩ _ i;simp only at g h i|-;rw[B9n c ω]at g h i;have y:=N9 c (n-1).toNat;have z:=N9 c (n-2).toNat;have D:=N9 c (n-3).toNat;obtain⟨m,rfl⟩:∃m:Nat,n=(m:Int)+3:=⟨(n-3).toNat,ω⟩;rw[(ω:((m:Int)+3-1).toNat=m+2)]at g y;rw[(ω:((m:Int)+3-2).toNat=m+1)]at h z;rw[(ω:((m:Int)+3-3).toNat=m)]at i D;rw[(ω:((m:Int)+3).toNat=m+3)]at j|-;rw[(ω:m+3-2=m+1)];have o:=A7w l (n:=m) ω;have O:=U6 c m;have J:0<4294967296^m:=tZ δ;subst g h i;generalize a3:dg l (m+2)=A at*;generalize a4:dg l (m+1)=B at*;generalize a5:dg l m=C at*;have U:=C1t (a:=nv l) (low:=nv (l.take m)) (lo:=C) (H:=A*4294967296+B) (P:=4294967296^m) (s:=s.toNat) J (by rw[o];grind) O ω;rw[sD,U];have u:(A*4294967296+B)*2^s.toNat<18446744073709551616:=by
  have E:(A*4294967296+B)*2^s.toNat*(4294967296^m*4294967296)<=nv l*2^s.toNat:=by
   have:(A*4294967296+B)*(4294967296^m*4294967296)<=nv l:=by rw[o];grind
   have:=rC (2^s.toNat) this;rwa[zW]at this
  have d:4294967296^(m+3)=18446744073709551616*(4294967296^m*4294967296):=by
   rw[sD,sD,sD];grind
  rw[d]at j;exact xK (xJ E j)
 have Q:Min.min (Int.toNat s) u64.bits=s.toNat:=by show Min.min (Int.toNat s) 64= _;omega
 have R:Min.min (Int.toNat (32-s)) u64.bits=32-s.toNat:=by show Min.min (Int.toNat (32-s)) 64= _;omega
 rw[Q,R,show Min.min (Int.toNat 32) u64.bits=32 from rfl];have a6:A*4294967296+B<18446744073709551616:=ω
 have W:(((BitVec.ofInt u64.bits (u64.wrap ((A:Int)*2^32)) |||BitVec.ofInt u64.bits (B:Int)).toNat:Nat):Int)=((A*4294967296+B:Nat):Int):=by
  rw[X5 (a:=(A:Int)*2^32) ω ω];have:=KZ (v:=(B:Int)) (b:=(A:Int)) (k:=32) ω ω ω ω ω;rw[show u64.bits=64 from rfl,this];omega
 rw[W,X5 (a:=((A*4294967296+B:Nat):Int)) ω ω];have w:((2:Int)^s.toNat)=((2^s.toNat:Nat):Int):=by rw[xP];rfl
 have f:((A*4294967296+B:Nat):Int)*2^s.toNat=(((A*4294967296+B)*2^s.toNat:Nat):Int):=by rw[w,uY]
 have X:Int.fdiv (C:Int) (2^(32-s.toNat))=((C/2^(32-s.toNat):Nat):Int):=by
  have E:((2:Int)^(32-s.toNat))=((2^(32-s.toNat):Nat):Int):=by rw[xP];rfl
  rw[E,sP _ (qD _)];rfl
 have M:C/2^(32-s.toNat)<2^s.toNat:=by
  rw[uC (tZ δ), <-DR ω];omega
 have I:(0:Int)<=(((A*4294967296+B)*2^s.toNat:Nat):Int):=qD _;rw[X,X5 (a:=((A*4294967296+B:Nat):Int)*2^s.toNat) (by rw[f];omega) (by rw[f];omega)];generalize C/2^(32-s.toNat)=L at*;have N:(L:Int)<2^s.toNat:=by rw[w];omega
 have a2:(2:Nat)^s.toNat<=2^31:=rX δ ω;have Y:=KZ (v:=(L:Int)) (b:=((A*4294967296+B:Nat):Int)) (k:=s.toNat) ω N ω (by rw[f];omega) ω;rw[show u64.bits=64 from rfl,Y,f,X5 (a:=(L:Int)+(((A*4294967296+B)*2^s.toNat:Nat):Int)) (Int.add_nonneg (qD _) I) ?_]
 . constructor
   . exact Int.sub_nonneg.2 (g4r a0 δ)
   . rw[wO];exact Int.add_comm _ _
 . --the shifted number and the digits behind it are below 2^64
   have d:(18446744073709551616:Nat)=18446744073709551616/2^s.toNat*2^s.toNat:=by
    refine(Nat.div_mul_cancel ?_).symm;exact⟨2^(64-s.toNat),by rw[<-uN,(ω:s.toNat+(64-s.toNat)=64)]⟩
   have F:A*4294967296+B<18446744073709551616/2^s.toNat:=by
    rw[d]at u;exact xK u
   have r:(A*4294967296+B+1)*2^s.toNat<=18446744073709551616:=by
    rw[d];exact rC _ F
   rw[vC,xR]at r;have G:L+(A*4294967296+B)*2^s.toNat<18446744073709551616:=rH (by rw[vT];exact Nat.add_lt_add_left M _) r;have t:((L+(A*4294967296+B)*2^s.toNat:Nat):Int)<18446744073709551616:=sC.2 G;rw[wO]at t;exact Int.le_of_lt_add_one t
def Yh:sn X2 Nj:=λx O aa=>by
 obtain⟨a,b,_⟩:=x;have k:B4 a:=A5 O.1.2;have ao:B4 b:=A5 O.2.1.2;change Wf at a b;obtain⟨b5,T,J,D,ar⟩:a.length<=17592186044416/\3<=a.length/\Mz a/\nv b<=nv a/\b.length<=a.length:=aa;simp only[Nj,iB,rT1,Dx];have W:i64.wrap ((a.length:Int)-1)=(a.length:Int)-1:=wv ω;rw[W,Fp k ω ω,(ω:((a.length:Int)-1).toNat=a.length-1)];refine⟨⟨ω,ω⟩,trivial,?_⟩;rintro⟨(s:Int),_⟩ _ H;simp only at H|-;rw[qK]at H;have E:=PO k J;have au:=N9 k (a.length-1);have aq:=VY (v:=dg a (a.length-1)) ω;have ap:=(CK E).2;have t:=A7f k (n:=a.length-1) ω (s:=s.toNat) ω;rw[(ω:a.length-1+1=a.length)]at t;have a9:nv b*2^s.toNat<4294967296^a.length:=xJ (rC _ D) t;have ay:=ZS k J;rw[qK];refine⟨⟨ω,qH _,ω,ω,ω,t⟩,?_⟩;rintro⟨X,_⟩ ⟨B,_⟩ i;refine⟨⟨ω,ω,ω,ω,ω,a9⟩,?_⟩;rintro⟨Y,_⟩ ⟨a8,_⟩ j;change Int at X Y;simp only at i j B a8|-;have a4:s.toNat<=32*(a.length-2):=ω
 rw[Lj,B1b a4]at i j;have o:0<2^(32*(a.length-2)-s.toNat):=tZ δ;have a5:0<X:=by
  rw[i];have ah:=Uz a (n:=a.length-1) ω;have Z:2^(32*(a.length-2)-s.toNat)<=nv a:=by
   have ai:2^(32*(a.length-2)-s.toNat)<=4294967296^(a.length-1):=by
    rw[Lj];exact rX δ ω
   have aj:=rV (4294967296^(a.length-1)) (tC E);omega
  have:=(vP o).2 (by rw[xR];exact Z);omega
 have a7:Y<=X:=by rw[i,j];exact g1f.2 (Nat.div_le_div_right D)
 have a6:0<=Y:=by rw[j];exact qD _
 have a0:=xB (nv a) (2^(32*(a.length-2)-s.toNat));have ak:=wL (nv a) o;have a2:=xB (nv b) (2^(32*(a.length-2)-s.toNat));have am:=wL (nv b) o;generalize 2^(32*(a.length-2)-s.toNat)=K at*;have an:X<=18446744073709551615:=by have:=B.2;rw[DW]at this;exact this
 refine⟨λp=>∃R,Leh X Y R p.1 p.2.1 p.2.2.1 p.2.2.2.1 p.2.2.2.2.1 p.2.2.2.2.2.1 p.2.2.2.2.2.2.1 p.2.2.2.2.2.2.2.1 p.2.2.2.2.2.2.2.2.1,λp=>p.2.1.toNat,⟨0,Leh.start a6 a7 a5⟩,?_⟩;rintro⟨(x:Int),(y:Int),(ad:Int),(l:Int),(f:Int),(Q:Int),(g:Int),(d:Int),(ev:Bool),_⟩ _ ⟨R,c⟩;simp only at c|-;have av:=c.idX;have aw:=c.idY;have b4:=c.yx;have w:=c.y0;have b3:=c.x0;have ab:=c.u10;have u:=c.u20;have N:=c.v10;have ac:=c.v20;have b9:x*1<=x*d:=uH ac ω;have bb:0<=y*g:=tV w N;have b8:0<=x*f:=tV ω u;have ba:0<=y*l:=tV w ab;have b7:1*d<=x*d:=sQ ω ω;refine⟨λr=>?_,λ_=>?_⟩
 . rw[J0]at r;simp only[qC,rQ]at r;obtain⟨c1,A⟩:=r;have z:1<=y:=ω
   have b6:1*g<=y*g:=sQ z N;rw[X5 (a:=g+d) ω ω,X5 (a:=x-y) ω ω]at A;have h:=c.step c1 A;have b0:=h.idX;have b1:=h.idY;have I:=h.u20;have b2:=h.v20;have F:0<=x/y:=g0w ω w;have az:x/y<=x:=Int.ediv_le_self _ ω;have G:=h.y0;have ae:1*(g+x/y*d)<=y*(g+x/y*d):=sQ z ω;have af:0<=x%y*d:=tV G ω;have T:1*(l+x/y*f)<=y*(l+x/y*f):=sQ z I;have ag:0<=x%y*f:=tV G u;have U:0<=x/y*d:=tV F ω;have V:0<=x/y*f:=tV F u;rw[uS ω,IntWalk.u64_quo _ _ ⟨ω,ω,ω⟩];rw[X5 (a:=x/y*f) V ω,X5 (a:=x/y*d) U ω,X5 (a:=l+x/y*f) I ω,X5 (a:=g+x/y*d) ω ω];have ax:=zS x (b:=y) ω;exact⟨ω,ω,⟨x,h⟩,ω⟩
 . by_cases M:Q=0
   . exact .inl M
   . right;have a1:(nv a:Int)=X*(K:Int)+((nv a%K:Nat):Int):=by
      rw[i, <-uY, <-wO,sG,a0]
     have a3:(nv b:Int)=Y*(K:Int)+((nv b%K:Nat):Int):=by
      rw[j, <-uY, <-wO,sG,a2]
     exact c.apply M (P:=(K:Int)) ω (qD _) ω (qD _) ω a1 a3
def Yg:sn X1 Nh:=λx d l=>by
 obtain⟨a,x,b,y,_⟩:=x;have i:B4 a:=A5 d.1.2;have j:B4 b:=A5 d.2.2.1.2;change Wf at a b;change Int at x y;have n:=(show u64.min<=x/\x<=u64.max from d.2.1);have o:=(show u64.min<=y/\y<=u64.max from d.2.2.2.1);rw[lZ,DW]at n o;obtain⟨s,t,k⟩:a.length<=8796093022208/\b.length<=8796093022208/\nv b*y.toNat<=nv a*x.toNat:=l;have u:=D8 i;have v:=D8 j;have w:(nc x.toNat).length<=2:=Eb ω;have z:(nc y.toNat).length<=2:=Eb ω;have A:=Qc (nv a) x.toNat;have B:=Qc (nv b) y.toNat;simp only[Nh,Q8];refine⟨trivial,?_⟩;rintro⟨r,_⟩ _ c;simp only at c|-;subst c;refine⟨⟨ω,ω⟩,?_⟩;rintro⟨E,_⟩ _ g;refine⟨trivial,?_⟩;rintro⟨r,_⟩ _ c;simp only at c g|-;subst c;refine⟨⟨ω,ω⟩,?_⟩;rintro⟨F,_⟩ _ h;simp only at h|-;rw[G1]at g h;subst g h;refine⟨⟨ω,ω⟩,?_⟩;rintro⟨r,D,_⟩ _ ⟨_,f⟩;simp only at f|-;rw[G1,G1]at f;exact(f k).1
noncomputable def Qj:H0:= []
def Pv:An:= {join:= [(8,⟨[0,1,5],[0,1,2],[(7,false,vU)],[],[]⟩)],loop:= [(4,⟨[0,1,5],[0,1,2],[(7,false,vU),(8,false,vU)],[],[]⟩),(10,⟨[0,1,5,7,84,85],[0,2],[(9,false,vU),(86,false,vI)],[],[(1, .row qg 118)]⟩),(23,⟨[0,5,7,134,135],[0,2],[(9,false,vU),(136,false,vI)],[],[(1, .row qg 118)]⟩)],plan:= [(2,[3,10],[],true, .done),(3,[5,13],[],true, .done),(4,[9,18],[],true, .done)]}
def Xl:An:= {join:= [(12,⟨[4,6,7,8,9,10,35,36],[0],[],[],[(1, .row qg 118),(2, .row qg 118)]⟩)],loop:= [(8,⟨[4,6,7,8,9,10,35],[0],[(36,false,vI)],[],[(1, .row qg 118),(2, .row qg 118)]⟩)]}
noncomputable def Xy:H0:= [(162,Bt),(202,M5),(204,S2),(206,N8),(205,Dm (Wh ⟨prog,tys⟩ [(53,Qj,Pv)] f205.results.toList (f205.body.getD .skip) f205.ntmps))]
abbrev C1n:=Int×Wf×Wf×Unit
def Hx(x:Gd):Prop:=let P:=(63:Int);let G:=(2:Int);let F:=(32:Int);let K:=F.toNat;let D:=(1:Int);let s:=(0:Int);let o:=(x.2.1.length:Int);let c:Prop:=(s<=i64.wrap (o-s-D)/\i64.wrap (o-s-D)<o-s);(s<=i64.wrap (o-D)/\i64.wrap (o-D)<o)/\True/\∀(r:E3),let m:Prop:=(s<=r.1/\r.1<=31);O0 r.1/\True->r.1=F-(↑(M7 (gx s x.2.1 (i64.wrap (o-D))).toNat):Int)->(M9 x.2.1/\m)/\Q8 λT=>let u:=(List.getD T.1 (s+i64.wrap (o-s-D)).toNat s);T.1.length=List.length x.2.1+1/\nv T.1=nv x.2.1*2^Int.toNat r.1->(s<=s/\s<=o/\o<=(T.1.length:Int))/\(M9 x.1/\m)/\Q8 λV=>let A:=(V.1.length:Int);V.1.length=List.length x.1+1/\nv V.1=nv x.1*2^Int.toNat r.1->(s<=i64.wrap (A-o)/\i64.wrap (A-o)<=i64.wrap (A-o)/\(↑(4:Nat):Int)*i64.wrap (A-o)<=(281474976710656:Int)/\i64.wrap (A-o)<=(9223372036854775807:Int))/\∃(I:C1n->Prop),∃(a: _->Nat),I (s,V.1,List.replicate (i64.wrap (A-o)).toNat s,())/\∀(p:C1n),let M:=(p.2.1.length:Int);let n:=(i64.wrap (i64.wrap (A-o)-D)-p.1);let C:=(i64.wrap n+(o-s));let w:=(i64.wrap (i64.wrap n+o)+D);let v:=(u64.wrap (↑(BitVec.ofInt u64.bits (u64.wrap (u64.wrap (List.getD p.2.1 C.toNat s)*G^Min.min K u64.bits)) |||BitVec.ofInt u64.bits (u64.wrap (List.getD p.2.1 (i64.wrap n+i64.wrap (o-s-D)).toNat s))).toNat:Int));let l:Prop:=(p.1<i64.wrap (A-o));let h:Prop:=(s<=i64.wrap n/\i64.wrap n<(p.2.2.1.length:Int));let b:Prop:=(s<=o-s/\o-s<i64.wrap w-i64.wrap n);(Ty.int i64).wf p.1/\Hn p.2.1/\Hn p.2.2.1/\True->I p->(iB (decide l) (∃(J:Gd->Prop),((s<=i64.wrap n/\i64.wrap n<=i64.wrap w/\i64.wrap w<=M)/\b/\(0:(Ty.int u64).den)<=F/\(s<=i64.wrap (o-s-D)/\i64.wrap (o-s-D)<i64.wrap w-i64.wrap n)/\c/\u64.wrap u≠s/\c/\u64.wrap u≠s/\∃(J_1:E3->Prop),(∃(I:Ee->Prop),∃(a: _->Nat),I (u64.wrap (v.tdiv (u64.wrap u)),v.tmod (u64.wrap u),())/\∀(Q:Ee),let H:=(u64.wrap (Q.1-D),u64.wrap (Q.2.1+u64.wrap u),());let i:Prop:=((u64.wrap (Q.2.1+u64.wrap u)).fdiv (G^Min.min K u64.bits)≠s);let g:Prop:=(Int.fdiv Q.1 (G^Min.min K u64.bits)≠s);let d:Prop:=(u64.wrap (↑(BitVec.ofInt u64.bits (u64.wrap (Q.2.1*G^Min.min K u64.bits)) |||BitVec.ofInt u64.bits (u64.wrap (List.getD p.2.1 (i64.wrap n+i64.wrap (o-s-G)).toNat s))).toNat:Int)<u64.wrap (Q.1*u64.wrap (List.getD T.1 (s+i64.wrap (o-s-G)).toNat s)));(Ty.int u64).wf Q.1/\(Ty.int u64).wf Q.2.1/\True->I Q->(0:(Ty.int u64).den)<=F/\(decide g=false->s<=i64.wrap (o-s-G)/\i64.wrap (o-s-G)<o-s)/\(decide g=false->(0:(Ty.int u64).den)<=F)/\(decide g=false->s<=i64.wrap (o-s-G)/\i64.wrap (o-s-G)<i64.wrap w-i64.wrap n)/\(iB (G6 (decide g) true (decide d)) (c/\(0:(Ty.int u64).den)<=F/\(iB (decide i) (J_1 (u64.wrap (Q.1-D),())) (I H/\a H<a Q))) (J_1 (Q.1,()))))/\∀(Q:E3),(Ty.int u64).wf Q.1/\True->J_1 Q->∃(I:Tj->Prop),∃(a: _->Nat),I (s,s,p.2.1,())/\∀(R:Tj),let N:=(i64.wrap n+R.2.1);let E:=(u64.wrap (u64.wrap (Q.1*u64.wrap (List.getD T.1 (s+R.2.1).toNat s))+R.1));let z:=(u64.wrap (u64.wrap (List.getD R.2.2.1 C.toNat s)-R.1));let y:=(u64.wrap (u64.wrap (List.getD R.2.2.1 N.toNat s)-u64.wrap (u32.wrap E)));let q:=(u64.wrap (E.fdiv (G^Min.min K u64.bits)+y.fdiv (G^Min.min P.toNat u64.bits)),i64.wrap (R.2.1+D),List.set R.2.2.1 N.toNat (u32.wrap y),());let j:Prop:=(R.2.1<o-s);let f:Prop:=(z.fdiv (G^Min.min P.toNat u64.bits)=s);let d:Prop:=(s<=R.2.1/\R.2.1<i64.wrap w-i64.wrap n);(Ty.int u64).wf R.1/\(Ty.int i64).wf R.2.1/\Hn R.2.2.1/\True->I R->(iB (decide j) ((s<=R.2.1/\j)/\d/\d/\(0:(Ty.int u64).den)<=F/\(0:(Ty.int u64).den)<=P/\I q/\a q<a R) (b/\b/\(0:(Ty.int u64).den)<=P/\(iB (decide f) (h/\J (List.set R.2.2.1 C.toNat (u32.wrap z),List.set p.2.2.1 (i64.wrap n).toNat (u32.wrap Q.1),())) (∃(I:Tj->Prop),∃(a: _->Nat),I (s,s,List.set R.2.2.1 C.toNat (u32.wrap z),())/\∀(S:Tj),let O:=(i64.wrap n+S.2.1);let B:=(u64.wrap (S.1+u64.wrap (u64.wrap (List.getD S.2.2.1 O.toNat s)+u64.wrap (List.getD T.1 (s+S.2.1).toNat s))));let t:=(B.fdiv (G^Min.min K u64.bits),i64.wrap (S.2.1+D),List.set S.2.2.1 O.toNat (u32.wrap B),());let k:Prop:=(S.2.1<o-s);let e:Prop:=(s<=S.2.1/\S.2.1<i64.wrap w-i64.wrap n);(Ty.int u64).wf S.1/\(Ty.int i64).wf S.2.1/\Hn S.2.2.1/\True->I S->(iB (decide k) ((s<=S.2.1/\k)/\e/\e/\(0:(Ty.int u64).den)<=F/\I t/\a t<a S) (b/\b/\h/\J (List.set S.2.2.1 C.toNat (u32.wrap (List.getD S.2.2.1 C.toNat s+u32.wrap S.1)),List.set p.2.2.1 (i64.wrap n).toNat (u32.wrap (u64.wrap (Q.1-D))),()))))))))/\∀(Q:Gd),let L:=(i64.wrap (p.1+D),Q.1,Q.2.1,());Hn Q.1/\Hn Q.2.1/\True->J Q->I L/\a L<a p) ((s<=s/\s<=o/\o<=M)/\M9 (List.drop s.toNat (List.take o.toNat p.2.1))/\∀(U:A5r),Hn U.1/\True/\True->(r.1<s->U.1= []/\U.2.1=false)/\(s<=r.1->U.1=nc (nv (List.drop s.toNat (List.take o.toNat p.2.1))/(2:Nat)^Int.toNat r.1)/\U.2.1=true)->True/\Q8 λr=>r.1=nc (nv p.2.2.1)->r.1=nc (nv x.1/nv x.2.1)/\U.1=nc (nv x.1%nv x.2.1)))
def B3o {a b:Wf} {N D S:Nat} (g:B4 a) (h:B4 b) (f:b.length=N+2) (c:dg b (N+1)≠0) (d:a.length+1=D+(N+2)):nv a*2^S<nv b*2^S*4294967296^D:=by
 have d:0<2^S:=tZ δ;have f:=Uz b (n:=N+1) ω;have f:4294967296^(N+1)<=nv b:=by
  have:=rV (4294967296^(N+1)) (tC c);omega
 have c:=Gk g;rw[(ω:a.length=(N+1)+D),uN]at c;have g:nv a<nv b*4294967296^D:=rH c (rC _ f);have c:=xG g d;rw[zW]at c;exact c
def C3p {A B S q r:Nat} (d:0<B) (c:A*2^S=q*(B*2^S)+r) (f:r<B*2^S):q=A/B/\r/2^S=A%B:=by
 have a:0<2^S:=tZ δ;have b:q=A/B:=by
  rw[<-g0l A B a,c,sG q,g2w (g3r d a),uO f,tA]
 refine⟨b,?_⟩;have d:=xB A B;have f:r=(A%B)*2^S:=by
  have:A*2^S=(B*(A/B)+A%B)*2^S:=by rw[d]
  rw[this,b]at c;grind
 rw[f,g4n _ a]
def C5g {v:Wf} (d:B4 v) {n:Nat} (b:4294967296^n<=nv v) (c:nv v<4294967296^(n+1)):dg v n≠0:=by
 have a:0<4294967296^n:=tZ δ;rw[NX d,uE (by rw[uC a,sG, <-sD];exact c)];have:=(vP a).2 (by rw[xR];exact b);omega
def A9w {u:Wf} (b:B4 u) {m i:Nat} (h:nv u<4294967296^m) (a:m<=i):dg u i=0:=by
 rw[NX b,uO (rH h (rX δ a))]
def iC {x y:Nat} (c:x<=4294967295) (d:y<=4294967295):u64.wrap (((BitVec.ofInt 64 (u64.wrap ((x:Int)*2^32)) |||BitVec.ofInt 64 (y:Int)).toNat:Nat):Int)=((x*4294967296+y:Nat):Int):=by
 rw[X5 (a:=(x:Int)*2^32) ω ω];have:=KZ (v:=(y:Int)) (b:=(x:Int)) (k:=32) ω ω ω ω ω;rw[this,X5 ω ω];omega
def B9a {v:Int} :Int.fdiv v (2^32)=v/4294967296:=by
 rw[sP _ δ];rfl
def C6f {v:Int} :Int.fdiv v (2^63)=v/9223372036854775808:=by
 rw[sP _ δ];rfl
def fP {d x:Nat} (a:d<=4294967295) (b:x<=4294967295):d*x<=18446744065119617025:=qU (vD a b) δ
def B7l {d v2 r a:Nat} (b:v2<=4294967295):G6 (decide ((d:Int)/4294967296≠0)) true (decide (((r*4294967296+a:Nat):Int)<u64.wrap ((d:Int)*(v2:Int))))=decide (4294967296<=d\/r*4294967296+a<d*v2):=by
 rw[K8];rcases sF d 4294967296 with h|h
 . have a:=fP (d:=d) (x:=v2) ω b;rw[<-uY,X5 ω ω];have a:decide ((d:Int)/4294967296≠0)=false:=rB ω;rw[a,vN,wU];omega
 . have a:decide ((d:Int)/4294967296≠0)=true:=rD ω;rw[a,g1e];exact(rD (.inl h)).symm
def B7f {d x c y:Nat} (i:d<=4294967295) (j:x<=4294967295) (h:c<=d) (n:y<=4294967295):∃b f:Nat,
 u64.wrap (Int.fdiv (u64.wrap (u64.wrap ((d:Int)*(x:Int))+(c:Int))) (2^32)+Int.fdiv (u64.wrap ((y:Int)-u64.wrap (u32.wrap (u64.wrap (u64.wrap ((d:Int)*(x:Int))+(c:Int)))))) (2^63))=(b:Int)/\
 u32.wrap (u64.wrap ((y:Int)-u64.wrap (u32.wrap (u64.wrap (u64.wrap ((d:Int)*(x:Int))+(c:Int))))))=(f:Int)/\b<=d/\y+4294967296*b=f+(d*x+c):=by
 have l:=fP i j;obtain⟨k,g⟩:=B2y (D:=d) (v:=x) (c:=c) (t:=y) ω ω h;rw[<-uY,X5 (a:=((d*x:Nat):Int)) ω ω];generalize d*x=p at*;rw[X5 (a:=(p:Int)+(c:Int)) ω ω,Ch,X5 (a:=((p:Int)+(c:Int))%4294967296) ω ω,B9a,C6f,Ci ((y:Int)-_),Ch];refine⟨(p+c)/4294967296+(if y<(p+c)%4294967296 then 1 else 0),if y<(p+c)%4294967296 then y+4294967296-(p+c)%4294967296 else y-(p+c)%4294967296,?_,?_,g,?_⟩
 . rw[X5 ω ω];split<;>omega
 . split<;>omega
 . split<;>omega
def B5h {U P V d:Nat} (a:0<P) (b:0<V) (h:P*(d*V)<=U):d<=U/P/V:=by
 rw[vP b,vP a,sG];exact h
def C4u {U P V d:Nat} (a:0<P) (b:0<V) (h:U<P*(d*V)):U/P/V<d:=by
 rw[uC b,uC a,sG];exact h
def eM {U0 U W V P d q a:Nat} (g:U0=q*V+U) (f:W+P*(d*V)=U) (i:a=q+P*d) (b:0<P) (c:0<V) (k:U/P/V=d):U0=a*V+W/\W<V*P:=by
 refine⟨by subst i;rw[g, <-f];grind,?_⟩;have j:¬(P*((d+1)*V)<=U):=λh=>by have:=B5h b c h;omega
 have e:P*((d+1)*V)=P*(d*V)+V*P:=by grind
 omega
def C2n {q:Wf} (f:B4 q) {Q j d:Nat} (a:nv q=Q*4294967296^(j+1)) (b:j<q.length):nv (q.set j (d:Int))=nv q+4294967296^j*d/\nv (q.set j (d:Int))=(Q*4294967296+d)*4294967296^j:=by
 have c:0<4294967296^j:=tZ δ;have h:=Jz (l:=q) (k:=j) (v:=(d:Int)) b;rw[qK]at h;have b:dg q j=0:=by
  rw[NX f,a,sD,sG (4294967296^j), <-sI,g4n _ c,Nat.mul_mod_left]
 rw[b,wW,tA]at h;refine⟨h,?_⟩;rw[h,a,sD];grind
def B2h {x c y:Nat} (g:x<=4294967295) (f:c<=1) (h:y<=4294967295):∃b d:Nat,
 Int.fdiv (u64.wrap ((c:Int)+u64.wrap ((y:Int)+(x:Int)))) (2^32)=(b:Int)/\
 u32.wrap (u64.wrap ((c:Int)+u64.wrap ((y:Int)+(x:Int))))=(d:Int)/\b<=1/\d+4294967296*b=c+(y+x):=by
 rw[X5 (a:=(y:Int)+(x:Int)) ω ω,X5 (a:=(c:Int)+((y:Int)+(x:Int))) ω ω,B9a,Ch];exact⟨(c+(y+x))/4294967296,(c+(y+x))%4294967296,ω,ω,ω,ω⟩
def Qr:sn R5 Hx:=λx bu cm=>by
 obtain⟨a,b,_⟩:=x;have cd:B4 a:=A5 bu.1.2;have I:B4 b:=A5 bu.2.1.2;change Wf at a b;obtain⟨ds,db,di,bp⟩:a.length<=17592186044416/\2<=b.length/\b.length<=a.length/\Mz b:=cm;obtain⟨N,bg⟩:∃N,b.length=N+2:=⟨b.length-2,ω⟩;have a9:=PO I bp;rw[(ω:b.length-1=N+1)]at a9;simp only[Hx,iB,Q8,Int.sub_zero,Int.zero_add];rw[wv (a:=(b.length:Int)-1) ω,wv (a:=(b.length:Int)-2) ω,Fp I ω ω,(ω:((b.length:Int)-1).toNat=N+1),(ω:((b.length:Int)-2).toNat=N)];refine⟨⟨ω,ω⟩,trivial,?_⟩;rintro⟨(s:Int),_⟩ _ bn;simp only at bn|-;rw[qK]at bn;have dk:=N9 I (N+1);have dh:=VY (v:=dg b (N+1)) ω;have df:=(CK a9).2;refine⟨⟨by show b.length<= _;omega,ω,ω⟩,?_⟩;rintro⟨v,_⟩ ⟨cu,_⟩ ⟨bt,R⟩;refine⟨⟨qH _,ω,by simp only at bt|-;omega⟩,⟨by show a.length<= _;omega,ω,ω⟩,?_⟩;rintro⟨f,_⟩ ⟨cs,_⟩ ⟨cp,ax⟩;have t:B4 v:=A5 cu.2;have dr:B4 f:=A5 cs.2;change Wf at v f;simp only at bt R cp ax|-;have Z:nv v<4294967296^(N+2):=by
  rw[R];exact A7f I (n:=N+1) ω (s:=s.toNat) ω
 have bh:4294967296^(N+1)<=nv v:=by
  have z:=Uz b (n:=N+1) ω;have bf:4294967296^(N+1)<=nv b:=by
   have:=rV (4294967296^(N+1)) (tC a9);omega
  rw[R];exact qU bf (zY _ (tZ δ))
 have bq:=C5g t bh Z;have a0:0<nv v:=rH (tZ δ) bh;obtain⟨D,dc⟩:∃D,f.length=D+(N+2):=⟨f.length-(N+2),ω⟩;have bo:=B3o (S:=s.toNat) cd I bg a9 (D:=D) ω;rw[<-ax, <-R]at bo;rw[wv (a:=(f.length:Int)-(b.length:Int)) ω,(ω:(f.length:Int)-(b.length:Int)=(D:Int))];have dd:1<=D:=ω
 refine⟨⟨ω,qH _,ω,ω⟩,?_⟩;refine⟨λp=>0<=p.1/\p.1<=(D:Int)/\p.2.1.length=f.length/\p.2.2.1.length=D/\nv f=nv p.2.2.1*nv v+nv p.2.1/\nv p.2.1<nv v*4294967296^((D:Int)-p.1).toNat/\∃Q,nv p.2.2.1=Q*4294967296^((D:Int)-p.1).toNat,λp=>((D:Int)-p.1).toNat,⟨qH _,qD _,rfl,by simp,?_,?_,0,?_⟩,?_⟩
 . show nv f=nv (List.replicate _ 0)*nv v+nv f;rw[Rs];omega
 . show nv f<nv v*4294967296^((D:Int)-0).toNat;rw[(ω:((D:Int)-0).toNat=D)];exact bo
 . show nv (List.replicate _ 0)= _;rw[Rs];omega
 rintro⟨(k:Int),u,q,_⟩ ⟨_,ct,cr,_⟩ ⟨d0,d1,c5,b4,aa,J,Q,a8⟩;have F:B4 u:=A5 ct.2;have bm:B4 q:=A5 cr.2;change Wf at u q;simp only at d0 d1 c5 b4 aa J a8|-;refine⟨λa1=>?_,λa1=>?_⟩
 . have a1:=qA a1;obtain⟨j,cg⟩:∃j:Nat,(D:Int)-1-k=(j:Int):=⟨((D:Int)-1-k).toNat,ω⟩;rw[(ω:((D:Int)-k).toNat=j+1)]at J a8;rw[wv (a:=(D:Int)-1) ω,cg,wv (a:=(j:Int)) ω,wv (a:=(j:Int)+(b.length:Int)) ω,wv (a:=(j:Int)+(b.length:Int)+1) ω,wv (a:=k+1) ω];rw[(ω:((j:Int)+(b.length:Int)).toNat=j+N+2),(ω:((j:Int)+((b.length:Int)-1)).toNat=j+N+1),(ω:((j:Int)+((b.length:Int)-2)).toNat=j+N)];have dp:j+1<=D:=ω
   have a4:=C5y F t (j:=j) (n:=N) ω Z bq ω J;have dw:=N9 t (N+1);have d5:=N9 t N;have d7:=N9 F (j+N+2);have d8:=N9 F (j+N+1);have d9:=N9 F (j+N);have Y:0<4294967296^j:=tZ δ;refine⟨λp=>p.1.length=f.length/\p.2.1.length=D/\nv f=nv p.2.1*nv v+nv p.1/\nv p.1<nv v*4294967296^j/\∃Q,nv p.2.1=Q*4294967296^j,?_,?_⟩
   . rw[Y1 t,Y1 t,Y1 F,Y1 F,Y1 F];rw[X5 (a:=(dg v (N+1):Int)) ω ω,X5 (a:=(dg v N:Int)) ω ω,X5 (a:=(dg u (j+N+2):Int)) ω ω,X5 (a:=(dg u (j+N+1):Int)) ω ω,X5 (a:=(dg u (j+N):Int)) ω ω];rw[show Min.min (Int.toNat 32) u64.bits=32 from rfl,show Min.min (Int.toNat 63) u64.bits=63 from rfl,show u64.bits=64 from rfl,iC d7 d8];refine⟨⟨ω,ω,ω⟩,⟨ω,ω⟩,δ,⟨ω,ω⟩,⟨ω,ω⟩,ω,⟨ω,ω⟩,ω,?_⟩;have ao:=a4.est;have ab:= @bR.near _ _ _ _ _ _ _ a4;have an:= @bR.dec _ _ _ _ _ _ _ a4;have ar:= @bR.out _ _ _ _ _ _ _ a4;generalize ca:nv u/4294967296^j/nv v=QS at ao ab an ar|-;refine⟨λp=>QS<=p.1.toNat/\p.1.toNat<=QS+1/\0<=p.1/\p.1<4294967296,?_,?_⟩
     . refine⟨λp=>∃d r:Nat,p.1=(d:Int)/\p.2.1=(r:Int)/\dg u (j+N+2)*4294967296+dg u (j+N+1)=d*dg v (N+1)+r/\QS<=d/\r<4294967296,λp=>p.1.toNat,?_,?_⟩
       . have bs:0<dg v (N+1):=tC bq;have ch:=(vP bs).2 ao;have o:=wL (dg u (j+N+2)*4294967296+dg u (j+N+1)) bs;have ce:=xB (dg u (j+N+2)*4294967296+dg u (j+N+1)) (dg v (N+1));have dm:=xC (dg u (j+N+2)*4294967296+dg u (j+N+1)) (dg v (N+1));have de:dg u (j+N+2)*4294967296+dg u (j+N+1)<=18446744073709551615:=ω
         refine⟨(dg u (j+N+2)*4294967296+dg u (j+N+1))/dg v (N+1),(dg u (j+N+2)*4294967296+dg u (j+N+1))%dg v (N+1),?_,rfl,?_,ch,ω⟩
         . show u64.wrap (Int.tdiv _ _)= _;have e:Int.tdiv ((dg u (j+N+2)*4294967296+dg u (j+N+1):Nat):Int) ((dg v (N+1):Nat):Int)=(((dg u (j+N+2)*4294967296+dg u (j+N+1))/dg v (N+1):Nat):Int):=rfl;rw[e];generalize (dg u (j+N+2)*4294967296+dg u (j+N+1))/dg v (N+1)=ba at*;exact X5 ω ω
         . have:=ce.symm;rw[sG (dg v (N+1))]at this;exact this
       . rintro⟨(aj:Int),(d4:Int),_⟩ ⟨bk,_⟩ ⟨d,r,z,G,au,cn,dq⟩;simp only at z G bk|-;subst z G;have dj:(d:Int)<=18446744073709551615:=by have:=bk.2;rw[DW]at this;exact this
         rw[B9a,B9a,iC (x:=r) ω d9,B7l d5];refine⟨δ,λ_=>⟨ω,ω⟩,λ_=>δ,λ_=>⟨ω,ω⟩,λE=>?_,λE=>?_⟩
         . have E:=qA E;have dn:=an au cn E;rw[X5 (a:=(r:Int)+(dg v (N+1):Int)) ω ω,X5 (a:=(d:Int)-1) ω ω];obtain⟨e,rfl⟩:∃e,d=e+1:=⟨d-1,ω⟩;have av:dg u (j+N+2)*4294967296+dg u (j+N+1)=e*dg v (N+1)+(r+dg v (N+1)):=by rw[au,vC,xR];omega
           refine⟨⟨ω,ω⟩,δ,λX=>?_,λX=>?_⟩
           . have X:=qA X;obtain⟨d2,d3⟩:=ar av ω ω;have c4:=ab av d2 d3;have be:(((e+1:Nat):Int)-1).toNat=e:=ω
             refine⟨?_,?_,?_,?_⟩
             . show _ <=(((e+1:Nat):Int)-1).toNat;rw[be];omega
             . show(((e+1:Nat):Int)-1).toNat<= _;rw[be];exact c4
             . show(0:Int)<=((e+1:Nat):Int)-1;omega
             . show((e+1:Nat):Int)-1< _;omega
           . have X:(((r:Int)+(dg v (N+1):Int))/4294967296)=0:=g3h (qB X);refine⟨⟨e,r+dg v (N+1),ω,ω,av,ω,ω⟩,ω⟩
         . have E:=qB E;have c4:=ab au ω ω;exact⟨by show _ <=(d:Int).toNat;omega,by show(d:Int).toNat<= _;omega,qD _,by show(d:Int)< _;omega⟩
     . rintro⟨(aj:Int),_⟩ _ ⟨bb,ai,bc,c6⟩;simp only at bb ai bc c6|-;obtain⟨d,rfl⟩:=uU bc;rw[qK]at bb ai;clear ao ab an ar;refine⟨λp=>∃c i:Nat,p.1=(c:Int)/\p.2.1=(i:Int)/\i<=N+2/\c<=d/\p.2.2.1.length=f.length/\nv p.2.2.1+4294967296^j*(d*nv (v.take i))=nv u+4294967296^(j+i)*c/\∀m,j+i<=m->dg p.2.2.1 m=dg u m,λp=>((N:Int)+2-p.2.1).toNat,⟨0,0,rfl,rfl,ω,ω,c5,by simp[nv],λ_ _=>rfl⟩,?_⟩;rintro⟨(ah:Int),(ay:Int),w,_⟩ ⟨_,_,cv,_⟩ ⟨c,i,z,G,ap,E,ae,a5,a7⟩;have ac:B4 w:=A5 cv.2;change Wf at w;simp only at z G ap E ae a5 a7|-;subst z G;refine⟨λg=>?_,λg=>?_⟩
       . have g:(i:Int)<(b.length:Int):=qA g;have b8:=N9 t i;have af:=N9 ac (j+i);rw[show((i:Int)).toNat=i from qK _,(ω:((j:Int)+(i:Int)).toNat=j+i),Y1 t,Y1 ac,X5 (a:=(dg v i:Int)) ω ω,X5 (a:=(dg w (j+i):Int)) ω ω,wv (a:=(i:Int)+1) ω];obtain⟨ag,b5,b0,b1,b2,b3⟩:=B7f (d:=d) (x:=dg v i) (c:=c) (y:=dg w (j+i)) ω b8 E af;rw[b0,b1];refine⟨⟨ω,g⟩,⟨ω,ω⟩,⟨ω,ω⟩,δ,δ,⟨ag,i+1,rfl,ω,ω,b2,by rw[qO];exact ae,?_,?_⟩,ω⟩
         . have O:=Jz (l:=w) (k:=j+i) (v:=(b5:Int)) ω;rw[qK]at O;rw[J5,(ω:j+(i+1)=(j+i)+1),sD _ (j+i)];exact B1h a5 O b3 (uN ..)
         . intro m o;rw[Yz ω,qG ω];exact a7 m ω
       . have g:=qB g;have aq:i=N+2:=ω
         subst aq;rw[Jf t,uE Z]at a5;have aw:=a7 (j+N+2) ω;rw[Y1 ac,aw,X5 (a:=(dg u (j+N+2):Int)) ω ω,C6f,show((j:Int)).toNat=j from qK _];have cj:nv u<4294967296^(j+N+3):=by
          refine rH J ?_;have e:4294967296^(j+N+3)=4294967296^(N+2)*4294967296^(j+1):=by rw[<-uN];congr 1;omega
          rw[e];exact rC _ (vW Z)
         rw[(ω:j+(N+2)=j+N+2)]at a5;refine⟨⟨ω,ω⟩,⟨ω,ω⟩,δ,λH=>?_,λH=>?_⟩
         . have H:=qA H;have bj:c<=dg u (j+N+2):=by rw[Ci]at H;omega
           rw[X5 (a:=(dg u (j+N+2):Int)-(c:Int)) ω ω,w32 (a:=(dg u (j+N+2):Int)-(c:Int)) ω ω,w32 (a:=(d:Int)) ω ω];have O:=Jz (l:=w) (k:=j+N+2) (v:=(dg u (j+N+2):Int)-(c:Int)) ω;rw[aw,(ω:((dg u (j+N+2):Int)-(c:Int)).toNat=dg u (j+N+2)-c),Nat.mul_sub]at O;have bi:=rV (4294967296^(j+N+2)) bj;have am:nv (w.set (j+N+2) ((dg u (j+N+2):Int)-(c:Int)))+4294967296^j*(d*nv v)=nv u:=ω
           have cf:=B5h Y a0 (U:=nv u) (d:=d) ω;obtain⟨b6,b7⟩:=C2n bm (d:=d) a8 ω;obtain⟨T,W⟩:=eM aa am b6 Y a0 ω;exact⟨⟨ω,ω⟩,by show(List.set _ _ _).length= _;rw[qO];exact ae,by show(List.set _ _ _).length= _;rw[qO];exact b4,T,W,_,b7⟩
         . have H:=qB H;have bj:dg u (j+N+2)<c:=by rw[Ci]at H;omega
           have c8:u32.wrap (u64.wrap ((dg u (j+N+2):Int)-(c:Int)))=((dg u (j+N+2)+4294967296-c:Nat):Int):=by
            rw[Ci,Ch];omega
           rw[c8];have O:=Jz (l:=w) (k:=j+N+2) (v:=((dg u (j+N+2)+4294967296-c:Nat):Int)) ω;rw[aw,qK,Nat.mul_sub,sS]at O;have bi:=rV (4294967296^(j+N+2)) (ω:c<=dg u (j+N+2)+4294967296);rw[sS]at bi;have d6:B4 (w.set (j+N+2) ((dg u (j+N+2)+4294967296-c:Nat):Int)):=fJ ac (by show 0<= _ /\ _ <= _;omega);have bw:∀m,j+N+3<=m->dg (w.set (j+N+2) ((dg u (j+N+2)+4294967296-c:Nat):Int)) m=0:=λm o=>by
            rw[Yz ω,qG ω,a7 m ω];exact A9w F cj o
           have ci:(w.set (j+N+2) ((dg u (j+N+2)+4294967296-c:Nat):Int)).length=f.length:=by rw[qO];exact ae
           generalize w.set (j+N+2) ((dg u (j+N+2)+4294967296-c:Nat):Int)=ad at*;have cc:nv ad+4294967296^j*(d*nv v)=nv u+4294967296^(j+N+2)*4294967296:=ω
           have cq:nv ad<4294967296^(j+N+2)*4294967296:=by
            have bf:=U6 d6 (j+N+3);rw[QN bw, <-C6z (j+N)]at bf;exact bf
           have cf:=C4u Y a0 (U:=nv u) (d:=d) ω;obtain⟨e,rfl⟩:∃e,d=e+1:=⟨d-1,ω⟩;refine⟨λp=>∃c i:Nat,p.1=(c:Int)/\p.2.1=(i:Int)/\i<=N+2/\c<=1/\p.2.2.1.length=f.length/\nv p.2.2.1+4294967296^(j+i)*c=nv ad+4294967296^j*nv (v.take i)/\∀m,j+i<=m->dg p.2.2.1 m=dg ad m,λp=>((N:Int)+2-p.2.1).toNat,⟨0,0,rfl,rfl,ω,ω,ci,by simp[nv],λ_ _=>rfl⟩,?_⟩;rintro⟨(ah:Int),(ay:Int),y,_⟩ ⟨_,_,cw,_⟩ ⟨h,i,z,G,ap,bl,b9,a6,ak⟩;have a3:B4 y:=A5 cw.2;change Wf at y;simp only at z G ap bl b9 a6 ak|-;subst z G;refine⟨λg=>?_,λg=>?_⟩
           . have g:(i:Int)<(b.length:Int):=qA g;have b8:=N9 t i;have af:=N9 a3 (j+i);rw[show((i:Int)).toNat=i from qK _,(ω:((j:Int)+(i:Int)).toNat=j+i),Y1 t,Y1 a3,X5 (a:=(dg v i:Int)) ω ω,X5 (a:=(dg y (j+i):Int)) ω ω,wv (a:=(i:Int)+1) ω];obtain⟨ag,b5,b0,b1,b2,b3⟩:=B2h (x:=dg v i) (c:=h) (y:=dg y (j+i)) b8 bl af;rw[b0,b1];refine⟨⟨ω,g⟩,⟨ω,ω⟩,⟨ω,ω⟩,δ,⟨ag,i+1,rfl,ω,ω,b2,by rw[qO];exact b9,?_,?_⟩,ω⟩
             . have a2:=Jz (l:=y) (k:=j+i) (v:=(b5:Int)) ω;rw[qK]at a2;rw[J5,(ω:j+(i+1)=(j+i)+1),sD _ (j+i)];exact A8u a6 a2 b3 (uN ..)
             . intro m o;rw[Yz ω,qG ω];exact ak m ω
           . have g:=qB g;have aq:i=N+2:=ω
             subst aq;rw[Jf t,uE Z,(ω:j+(N+2)=j+N+2)]at a6;have af:=N9 a3 (j+N+2);have c9:u32.wrap ((dg y (j+N+2):Int)+u32.wrap (h:Int))=(((dg y (j+N+2)+h)%4294967296:Nat):Int):=by
              rw[w32 (a:=(h:Int)) ω ω,Ch];omega
             have c7:u32.wrap (u64.wrap (((e+1:Nat):Int)-1))=(e:Int):=by
              rw[X5 ω ω,w32 ω ω];omega
             rw[Y1 a3,c9,c7];have a2:=Jz (l:=y) (k:=j+N+2) (v:=(((dg y (j+N+2)+h)%4294967296:Nat):Int)) ω;rw[qK]at a2;obtain⟨az,ck,cl⟩:∃az,dg y (j+N+2)+h=(dg y (j+N+2)+h)%4294967296+4294967296*az/\az<=1:=⟨(dg y (j+N+2)+h)/4294967296,ω,ω⟩;have da:B4 (y.set (j+N+2) (((dg y (j+N+2)+h)%4294967296:Nat):Int)):=fJ a3 (by show 0<= _ /\ _ <= _;omega);have cx:∀m,j+N+3<=m->dg (y.set (j+N+2) (((dg y (j+N+2)+h)%4294967296:Nat):Int)) m=0:=λm o=>by
              rw[Yz ω,qG ω,ak m ω];exact bw m o
             have cy:(y.set (j+N+2) (((dg y (j+N+2)+h)%4294967296:Nat):Int)).length=f.length:=by rw[qO];exact b9
             generalize y.set (j+N+2) (((dg y (j+N+2)+h)%4294967296:Nat):Int)=ba at*;have cz:nv ba<4294967296^(j+N+2)*4294967296:=by
              have bf:=U6 da (j+N+3);rw[QN cx, <-C6z (j+N)]at bf;exact bf
             obtain⟨cb,am⟩:=B2m (U:=nv u) (P:=4294967296^j) (V:=nv v) (e:=e) (M:=4294967296^(j+N+2)) Y a0 cc cq (by rw[ca];exact ai) a6 a2 ck cl cz;obtain⟨b6,b7⟩:=C2n bm (d:=e) a8 ω;obtain⟨T,W⟩:=eM aa am b6 Y a0 cb;exact⟨⟨ω,ω⟩,⟨ω,ω⟩,⟨ω,ω⟩,cy,by show(List.set _ _ _).length= _;rw[qO];exact b4,T,W,_,b7⟩
   . rintro⟨dv,du,_⟩ _ ⟨bx,bz,c0,c2,Q',c3⟩;simp only at bx bz c0 c2 c3|-;rw[(ω:((D:Int)-(k+1)).toNat=j)];exact⟨⟨ω,ω,bx,bz,c0,c2,Q',c3⟩,ω⟩
 . have a1:=qB a1;rw[(ω:((D:Int)-k).toNat=0),g0k,wH]at J;have co:0<=s:=ω
   obtain⟨T,W⟩:=C3p (A:=nv a) (B:=nv b) (S:=s.toNat) (q:=nv q) (r:=nv u) (tC (ZS I bp)) (by rw[<-ax, <-R];exact aa) (by rw[<-R];exact J);refine⟨⟨qH _,ω,ω⟩,?_,?_⟩
   . show(List.drop _ (List.take _ _)).length<= _;rw[sV,qZ];omega
   rintro⟨m,dt,_⟩ _ o;refine⟨trivial,?_⟩;rintro⟨ba,_⟩ _ bv;simp only at o bv|-;have o:=(o.2 co).1;rw[show(Int.toNat 0)=0 from rfl,uB,show((b.length:Int)).toNat=b.length from qK _,Jf F,bg,uE ω,W]at o;exact⟨by rw[bv,T],o⟩
def JH:An:= {plan:= [(8,[],[],true, .done)]}
def VK:An:= {join:= [(4,⟨[],[],[(0,false,[.val qa]),(1,false,[.val qa])],[],[]⟩)],loop:= [(7,⟨[],[],[(5,false,vU),(6,false,vU)],[],[]⟩),(4,⟨[],[],[(0,false,[.val qa]),(1,false,[.val qa])],[],[]⟩)],plan:= [(8,[],[],true, .done),(15,[2,5,9,12],[],true, .done),(16,[2,5,9,12],[],true, .done)]}
def Pf(x:Gd):Prop:=let e:=(0:Nat);let d:=(nv x.1%nv x.2.1);let c:=(nv x.1/nv x.2.1);let b:=(0:Int);True/\Q8 λr=>let f:Prop:=((r.1.length:Int)<=(2:Int));r.1=nc (nv x.1)->True/\Q8 λh=>let a:=(h.1.length:Int);h.1=nc (nv x.2.1)->(iB (decide (a=b)) ((nv x.2.1=e->Ef Int= []/\Ef Int= []/\false=false)/\(nv x.2.1≠e->Ef Int=nc c/\Ef Int=nc d/\false=true)) (True/\Dx λk=>k.1=Cp (nv r.1) (nv h.1)->(iB (decide (k.1<b)) (Hm r.1/\Q8 λg=>g.1=nc (nv r.1)->(nv x.2.1=e->Ef Int= []/\g.1= []/\true=false)/\(nv x.2.1≠e->Ef Int=nc c/\g.1=nc d/\true=true)) ((iB (decide f) (List.length r.1<=2/\rT1 λg=>g.1=(↑(nv r.1):Int)->List.length h.1<=2/\rT1 λr=>r.1=(↑(nv h.1):Int)->r.1≠b/\r.1≠b/\True/\Q8 λi=>i.1=nc (u64.wrap (Int.tdiv g.1 r.1)).toNat->True/\Q8 λj=>j.1=nc (Int.tmod g.1 r.1).toNat->(nv x.2.1=e->i.1= []/\j.1= []/\true=false)/\(nv x.2.1≠e->i.1=nc c/\j.1=nc d/\true=true)) ((iB (decide (a=(1:Int))) ((b<=b/\b<a)/\(M9 r.1/\gx b h.1 b≠b)/\∀(g:Gd),Hn g.1/\Hn g.2.1/\True->g.1=nc (nv r.1/(gx b h.1 b).toNat)/\g.2.1=nc (nv r.1%(gx b h.1 b).toNat)->(nv x.2.1=e->g.1= []/\g.2.1= []/\true=false)/\(nv x.2.1≠e->g.1=nc c/\g.2.1=nc d/\true=true)) ((M9 r.1/\(2:Nat)<=List.length h.1/\List.length h.1<=List.length r.1/\Mz h.1)/\∀(g:Gd),Hn g.1/\Hn g.2.1/\True->g.1=nc (nv r.1/nv h.1)/\g.2.1=nc (nv r.1%nv h.1)->(nv x.2.1=e->g.1= []/\g.2.1= []/\true=false)/\(nv x.2.1≠e->g.1=nc c/\g.2.1=nc d/\true=true)))))))))
abbrev B7q:=Wf×Wf×Bool×Unit
def BD(x:Gd):Prop:=let e:=(nv x.2.1);let c:=(0:Int);True/\Q8 λr=>r.1=nc (nv x.1)->True/\Q8 λj=>j.1=nc e->∃(J:Gd->Prop),(True/\Dx λh=>h.1=Cp (nv r.1) (nv j.1)->(iB (decide (h.1<c)) (J (j.1,r)) (J (r.1,j))))/\∀(p:Gd),(Ty.int u32).sl.wf p.1/\(Ty.int u32).sl.wf p.2.1/\True->J p->∃(I:Gd->Prop),∃(a: _->Nat),I (p.1,p.2.1,())/\∀(p:Gd),let g:=(↑(nv p.2.1):Int);let d:Prop:=((p.1.length:Int)<=(2:Int));let b:Prop:=(c<(p.2.1.length:Int));(Ty.int u32).sl.wf p.1/\(Ty.int u32).sl.wf p.2.1/\True->I p->(iB (decide b) ((iB (decide d) (List.length p.1<=2/\rT1 λr=>r.1=(↑(nv p.1):Int)->List.length p.2.1<=2/\rT1 λh=>h.1=g->∃(I:Ee->Prop),∃(a: _->Nat),I (r.1,h)/\∀(p:Ee),let d:=(p.2.1,Int.tmod p.1 p.2.1,());(Ty.int u64).wf p.1/\(Ty.int u64).wf p.2.1/\True->I p->(iB (decide (p.2.1≠c)) (p.2.1≠c/\I d/\a d<a p) (True/\Q8 λr=>r.1=nc p.1.toNat->r.1=nc ((nv x.1).gcd e)))) ((M9 p.1/\(3:Nat)<=List.length p.1/\Mz p.1/\nv p.2.1<=nv p.1/\List.length p.2.1<=List.length p.1)/\∀(r:(Int×Int×Int×Int×Bool)×Unit),(IX r.1.1/\IX r.1.2.1/\IX r.1.2.2.1/\IX r.1.2.2.2.1/\True)/\True->C4g (↑(nv p.1):Int) g r.1.1 r.1.2.1 r.1.2.2.1 r.1.2.2.2.1 r.1.2.2.2.2->(iB (decide (r.1.2.2.1=c)) (M9 p.1/\∀(r:B7q),let f:=(p.2.1,r.2.1,());Hn r.1/\Hn r.2.1/\True/\True->(nv p.2.1=0->r.1= []/\r.2.1= []/\r.2.2.1=false)/\(nv p.2.1≠0->r.1=nc (nv p.1/nv p.2.1)/\r.2.1=nc (nv p.1%nv p.2.1)/\r.2.2.1=true)->I f/\a f<a p) ((iB r.1.2.2.2.2 ((Fg p.1/\Fg p.2.1/\nv p.2.1*Int.toNat r.1.2.2.1<=nv p.1*Int.toNat r.1.1)/\Q8 λh=>h.1=nc (nv p.1*Int.toNat r.1.1-nv p.2.1*Int.toNat r.1.2.2.1)->(Fg p.2.1/\Fg p.1/\nv p.1*Int.toNat r.1.2.1<=nv p.2.1*Int.toNat r.1.2.2.2.1)/\Q8 λi=>i.1=nc (nv p.2.1*Int.toNat r.1.2.2.2.1-nv p.1*Int.toNat r.1.2.1)->I (h.1,i)/\a (h.1,i)<a p) ((Fg p.2.1/\Fg p.1/\nv p.1*Int.toNat r.1.1<=nv p.2.1*Int.toNat r.1.2.2.1)/\Q8 λh=>h.1=nc (nv p.2.1*Int.toNat r.1.2.2.1-nv p.1*Int.toNat r.1.1)->(Fg p.1/\Fg p.2.1/\nv p.2.1*Int.toNat r.1.2.2.2.1<=nv p.1*Int.toNat r.1.2.1)/\Q8 λi=>i.1=nc (nv p.1*Int.toNat r.1.2.1-nv p.2.1*Int.toNat r.1.2.2.2.1)->I (h.1,i)/\a (h.1,i)<a p))))))) (Hm p.1/\Q8 λr=>r.1=nc (nv p.1)->r.1=nc ((nv x.1).gcd e)))
def BC:sn Z7 Pf:=λx I R=>by
 obtain⟨a,b,_⟩:=x;have O:B4 a:=A5 I.1.2;have Y:B4 b:=A5 I.2.1.2;change Wf at a b;have B:a.length<=17592186044416:=R;have W:=D8 O;simp only[Pf,iB,Q8,rT1,Dx];refine⟨trivial,?_⟩;rintro⟨y,_⟩ _ r;refine⟨trivial,?_⟩;rintro⟨s,_⟩ _ j;simp only at r j|-;have t:nv y=nv a:=by rw[r,G1]
 have u:nv s=nv b:=by rw[j,G1]
 have A:y.length<=a.length:=by rw[r];exact W
 have a1:B4 y:=r▸K6 _;have T:B4 s:=j▸K6 _;refine⟨λh=>?_,λh=>?_⟩
 . have h:=qA h;have c:nv b=0:=by rw[<-u,qT (l:=s) ω];rfl
   exact⟨λ_=>⟨by trivial,by trivial,by trivial⟩,λf=>absurd c f⟩
 have h:=qB h;have o:nv b≠0:=λc=>h (by rw[j,c,Q7];rfl)
 refine⟨trivial,?_⟩;rintro⟨X,_⟩ _ g;simp only at g|-;rw[t,u]at g;refine⟨λh=>?_,λh=>?_⟩
 . have h:=qA h;have E:nv a<nv b:=by
    rcases sF (nv a) (nv b)with f|f
    . exact f
    . unfold Cp at g;rw[qG ω]at g;split at g<;>omega
   refine⟨qU A (qU B δ),?_⟩;rintro⟨a3,_⟩ _ H;simp only at H|-;refine⟨λc=>absurd c o,λ_=>⟨?_,?_,by trivial⟩⟩
   . rw[uO E,Q7]
   . rw[uE E,H,t]
 have h:=qB h;have P:nv b<=nv a:=by
  rcases sF (nv a) (nv b)with f|f
  . rw[Oj f]at g;omega
  . exact f
 have U:s.length<=y.length:=by rw[r,j];exact J9 P
 refine⟨λk=>?_,λk=>?_⟩
 . have k:=qA k;refine⟨ω,?_⟩;rintro⟨x,_⟩ ⟨J,_⟩ v;refine⟨ω,?_⟩;rintro⟨D,_⟩ ⟨V,_⟩ w;change Int at x D;simp only at J V v w|-;rw[t]at v;rw[u]at w;have a2:x<=18446744073709551615:=by have:=J.2;rw[DW]at this;exact this
   have M:Int.tdiv x D=((nv a/nv b:Nat):Int):=by rw[v,w];rfl
   have N:Int.tmod x D=((nv a%nv b:Nat):Int):=by rw[v,w];rfl
   have a0:nv a/nv b<=nv a:=xC _ _;refine⟨ω,ω,trivial,?_⟩;rintro⟨q,_⟩ _ G;refine⟨trivial,?_⟩;rintro⟨m,_⟩ _ F;simp only at G F|-;refine⟨λc=>absurd c o,λ_=>⟨?_,?_,by trivial⟩⟩
   . rw[G,M];generalize nv a/nv b=Q at*;rw[X5 ω ω];rfl
   . rw[F,N];rfl
 have k:=qB k;refine⟨λn=>?_,λn=>?_⟩
 . have n:=qA n;have e:(gx (0:Int) s (0:Int)).toNat=nv b:=by
    rw[<-u];obtain⟨z,rfl⟩:∃z,s= [z]:=g2q.1 ω;show z.toNat=z.toNat+4294967296*0;omega
   have Z:=Ut T (i:=0) (qH _) ω;refine⟨⟨qH _,ω⟩,⟨qU A B,ω⟩,?_⟩;rintro⟨q,m,_⟩ _ d;simp only at d|-;rw[e,t]at d;exact⟨λc=>absurd c o,λ_=>⟨d.1,d.2,by trivial⟩⟩
 have n:=qB n;refine⟨⟨qU A B,ω,U,by rw[j];exact fQ o⟩,?_⟩;rintro⟨q,m,_⟩ _ d;simp only at d|-;rw[t,u]at d;exact⟨λc=>absurd c o,λ_=>⟨d.1,d.2,by trivial⟩⟩
structure mM (A B A' B':Nat):Prop where
 g:Nat.gcd A' B'=Nat.gcd A B
 le:B'<=A'
 lt:A'+B'<A+B
 top:A'<=A
def A9t {A B:Nat} (h:B<=A) (a:0<B):mM A B B (A%B) where
 g:=by rw[xF A B,xF B];exact(g3p B A).symm
 le:=vW (wL _ a)
 lt:=by have:=wL A a;omega
 top:=h
def B0b {A B:Nat} {u0 u1 v0 v1:Int} {ev:Bool} (I:0<B) (h:C4g A B u0 u1 v0 v1 ev) (r:v0≠0):
 (ev=true->B*v0.toNat<=A*u0.toNat/\A*u1.toNat<=B*v1.toNat/\mM A B (A*u0.toNat-B*v0.toNat) (B*v1.toNat-A*u1.toNat))/\
 (ev=false->A*u0.toNat<=B*v0.toNat/\B*v1.toNat<=A*u1.toNat/\mM A B (B*v0.toNat-A*u0.toNat) (A*u1.toNat-B*v1.toNat)):=by
 rcases h with h| ⟨A',B',d,f,k,n,u,iB,v,w,z,D⟩
 . exact absurd h r
 have o:=B4h (A:=A) (B:=B) (A':=A') (B':=B') (u0:=u0) (u1:=u1) (v0:=v0) (v1:=v1) (s:=if ev then u0 else -u0) (t:=if ev then -v0 else v0) (p:=if ev then -u1 else u1) (q:=if ev then v1 else -v1) u iB (by rw[d];cases ev<;>simp<;>grind) (by rw[f];cases ev<;>simp<;>grind);obtain⟨U0,rfl⟩:=uU z;obtain⟨U1,rfl⟩:=uU D;obtain⟨V0,rfl⟩:=uU (ω:(0:Int)<=v0);obtain⟨V1,rfl⟩:=uU (ω:(0:Int)<=v1);obtain⟨b,rfl⟩:=uU k;obtain⟨a,rfl⟩:=uU (g4r k n);simp only[qK];have J:(1:Int)*(a:Int)<=(V1:Int)*a:=sQ w ω;have M:(1:Int)*(b:Int)<=(V0:Int)*b:=sQ v ω;have c:∀x y:Nat,((x*y:Nat):Int)=(y:Int)*(x:Int):=λx y=>by rw[uY,g2p]
 have E:=c A U0;have F:=c B V0;have G:=c A U1;have H:=c B V1;have l:mM A B a b:=⟨o.symm,ω,ω,ω⟩;refine⟨λg=>?_,λg=>?_⟩
 . subst g;simp only[wA]at d f;have i:A*U0-B*V0=a:=ω
   have j:B*V1-A*U1=b:=ω
   refine⟨ω,ω,?_⟩;rw[i,j];exact l
 . subst g;simp only[wC,yC]at d f;have i:B*V0-A*U0=a:=ω
   have j:A*U1-B*V1=b:=ω
   refine⟨ω,ω,?_⟩;rw[i,j];exact l
def B4i {x y:Int} (d:0<=x) (f:0<y):Nat.gcd y.toNat (Int.tmod x y).toNat=Nat.gcd x.toNat y.toNat/\(Int.tmod x y).toNat<y.toNat:=by
 obtain⟨a,rfl⟩:=uU d;obtain⟨b,rfl⟩:=uU (xE f);have e:Int.tmod (a:Int) (b:Int)=((a%b:Nat):Int):=rfl;simp only[e,qK];have c:0<b:=ω
 exact⟨by rw[xF a b,xF b];exact(g3p b a).symm,wL _ c⟩
structure B2c (G:Nat) (a b:Wf):Prop where
 ea:a=nc (nv a)
 eb:b=nc (nv b)
 le:nv b<=nv a
 g:Nat.gcd (nv a) (nv b)=G
 len:a.length<=8796093022208
def B2c.step {G:Nat} {a b c d:Wf} {A' B':Nat} (h:B2c G a b) (s:mM (nv a) (nv b) A' B') (i:c=nc A') (j:d=nc B'):B2c G c d/\nv c+nv d<nv a+nv b:=by
 have f:nv c=A':=by rw[i,G1]
 have c:nv d=B':=by rw[j,G1]
 refine⟨⟨by rw[f];exact i,by rw[c];exact j,by rw[f,c];exact s.le,by rw[f,c,s.g];exact h.g,?_⟩,by rw[f,c];exact s.lt⟩;have:=J9 s.top;rw[<-h.ea]at this;rw[i];exact qU this h.len
def MA:sn Es BD:=λx J k=>by
 obtain⟨c,d,_⟩:=x;have U:B4 c:=A5 J.1.2;have V:B4 d:=A5 J.2.1.2;change Wf at c d;obtain⟨ah,ai⟩:c.length<=8796093022208/\d.length<=8796093022208:=k;have aj:=D8 U;have ak:=D8 V;simp only[BD,iB,Q8,rT1,Dx];refine⟨trivial,?_⟩;rintro⟨a3,_⟩ _ v;refine⟨trivial,?_⟩;rintro⟨a4,_⟩ _ w;simp only at v w|-;have n:nv a3=nv c:=by rw[v,G1]
 have o:nv a4=nv d:=by rw[w,G1]
 refine⟨λp=>B2c (Nat.gcd (nv c) (nv d)) p.1 p.2.1,⟨trivial,?_⟩,?_⟩
 . rintro⟨ad,_⟩ _ r;simp only at r|-;rw[n,o]at r;refine⟨λt=>?_,λt=>?_⟩
   . have t:=qA t;refine⟨by rw[o];exact w,by rw[n];exact v,?_,by rw[n,o,xF],by rw[w];omega⟩;rw[n,o];rcases sF (nv c) (nv d)with f|f
     . omega
     . unfold Cp at r;rw[qG ω]at r;split at r<;>omega
   . have t:=qB t;refine⟨by rw[n];exact v,by rw[o];exact w,?_,by rw[n,o],by rw[v];omega⟩;rw[n,o];rcases sF (nv c) (nv d)with f|f
     . rw[Oj f]at r;omega
     . exact f
 rintro⟨ab,ac,_⟩ _ F;simp only at F|-;refine⟨λp=>B2c (Nat.gcd (nv c) (nv d)) p.1 p.2.1,λp=>nv p.1+nv p.2.1,F,?_⟩;rintro⟨s,h,_⟩ ⟨a1,a2,_⟩ a;have ae:B4 s:=A5 a1.2;have af:B4 h:=A5 a2.2;change Wf at s h;simp only at a|-;have ag:=a.len;have Z:h.length<=s.length:=by rw[a.ea,a.eb];exact J9 a.le
 refine⟨λj=>?_,λj=>?_⟩
 . have j:=qA j;have G:0<nv h:=by
    rcases vL (nv h)with f|f
    . have:=a.eb;rw[f,Q7]at this;rw[this]at j;exact absurd j (by simp)
    . exact f
   have T:nv s≠0:=by have:=a.le;omega
   refine⟨λu=>?_,λu=>?_⟩
   . have u:=qA u;refine⟨ω,?_⟩;rintro⟨x,_⟩ _ M;refine⟨ω,?_⟩;rintro⟨O,_⟩ _ N;simp only at M N|-;refine⟨λp=>0<=p.1/\0<=p.2.1/\Nat.gcd p.1.toNat p.2.1.toNat=Nat.gcd (nv c) (nv d),λp=>p.2.1.toNat,⟨by show(0:Int)<=x;omega,by show(0:Int)<=O;omega,?_⟩,?_⟩
     . show Nat.gcd x.toNat O.toNat= _;rw[M,N,qK,qK];exact a.g
     rintro⟨(X:Int),(Y:Int),_⟩ _ ⟨E,P,z⟩;simp only at E P z|-;refine⟨λi=>?_,λi=>?_⟩
     . have i:=qA i;obtain⟨Q,R⟩:=B4i E (ω:0<Y);exact⟨i,⟨P,zN _ E,by rw[Q];exact z⟩,R⟩
     . have i:Y=0:=g3h (qB i);refine⟨trivial,?_⟩;rintro⟨q,_⟩ _ b;simp only at b|-;rw[i]at z;rw[b, <-z];exact sZ nc (g1q _).symm
   . have u:=qB u;refine⟨⟨ω,ω,by rw[a.ea];exact fQ T,a.le,Z⟩,?_⟩;rintro⟨⟨(a5:Int),(a6:Int),(a7:Int),(a8:Int),(ev:Bool)⟩,_⟩ _ H;simp only at H|-;refine⟨λy=>?_,λy=>?_⟩
     . refine⟨ω,?_⟩;rintro⟨q,m,am,_⟩ _ I;simp only at I|-;obtain⟨_,a0,_⟩:=I.2 ω;exact a.step (A9t a.le G) a.eb a0
     . have y:=qB y;obtain⟨a9,aa⟩:=B0b G H y;refine⟨λB=>?_,λB=>?_⟩
       . obtain⟨c1,A,D⟩:=a9 B;refine⟨⟨ω,ω,c1⟩,?_⟩;rintro⟨p,_⟩ _ k;refine⟨⟨ω,ω,A⟩,?_⟩;rintro⟨q,_⟩ _ b;simp only at k b|-;exact a.step D k b
       . obtain⟨c1,A,D⟩:=aa B;refine⟨⟨ω,ω,c1⟩,?_⟩;rintro⟨p,_⟩ _ k;refine⟨⟨ω,ω,A⟩,?_⟩;rintro⟨q,_⟩ _ b;simp only at k b|-;exact a.step D k b
 . have j:=qB j;refine⟨by show s.length<=35184372088832;omega,?_⟩;rintro⟨q,_⟩ _ b;simp only at b|-;have W:nv h=0:=by rw[qT (l:=h) ω];rfl
   have:=a.g;rw[W,g1q]at this;rw[b,this]
def JC:An:= {}
def GN:An:= {}
def SB:An:= {}
def SA:An:= {plan:= [(1,[1,3],[6],true, .done)]}
def VF:An:= {plan:= [(1,[1,4],[7],true, .done)]}
def VD:An:= {plan:= [(2,[1,3,5],[8],true, .done)]}
def VE:An:= {plan:= [(1,[1,3,6,8],[11],true, .done)]}
def GM:An:= {plan:= [(1,[0,2],[],true, .done)]}
def Pa(x:Bool×Wf×Unit):Prop:=(G6 x.1 (decide ((0:Int)<(x.2.1.length:Int))) false,x.2.1)=(x.1&&decide (x.2.1≠ []),x.2.1)
def U7 (P:(Bool×Wf)×Unit->Prop):Prop:=∀r:(Bool×Wf)×Unit,mH r.1/\True->P r
def Nf(x:E3):Prop:=(iB (decide (x.1<0)) (True/\Q8 λr=>r.1=nc (u64.wrap (-u64.wrap x.1)).toNat->True/\U7 λa=>a.1=(true&&decide (r.1≠ []),r.1)->a.1=ic x.1) (True/\Q8 λr=>r.1=nc (u64.wrap x.1).toNat->True/\U7 λa=>a.1=(false&&decide (r.1≠ []),r.1)->a.1=ic x.1))
abbrev Ya:=(Bool×Wf)×Unit
def Wr(x:Ya):Prop:=True/\Dx λr=>r.1=Cp (nv x.1.2) (nv [])->(iB (decide (r.1=0)) ((0:Int)=(iv x.1).sign) ((iB x.1.1 ((-1:Int)=(iv x.1).sign) ((1:Int)=(iv x.1).sign))))
def Wq(x:Ya):Prop:=Hm x.1.2/\Q8 λr=>r.1=nc (nv x.1.2)->True/\U7 λa=>a.1=(x.1.1&&decide (r.1≠ []),r.1)->a.1=ic (iv x.1)
def AT(x:Ya):Prop:=Hm x.1.2/\Q8 λr=>r.1=nc (nv x.1.2)->True/\U7 λa=>a.1=(!x.1.1&&decide (r.1≠ []),r.1)->a.1=ic (-iv x.1)
abbrev cX:=(Bool×Wf)×(Bool×Wf)×Unit
def AR(x:cX):Prop:=let b:Prop:=(M9 x.1.2/\M9 x.2.1.2);let a:=(iv x.1+iv x.2.1);(iB ((x.1.1==x.2.1.1)) (b/\Q8 λr=>r.1=nc (nv x.1.2+nv x.2.1.2)->True/\U7 λc=>c.1=(x.1.1&&decide (r.1≠ []),r.1)->c.1=ic a) (b/\∀(r:A5r),Hn r.1/\True/\True->(nv x.1.2<nv x.2.1.2->r.1= []/\r.2.1=false)/\(nv x.2.1.2<=nv x.1.2->r.1=nc (nv x.1.2-nv x.2.1.2)/\r.2.1=true)->(iB r.2.1 (True/\U7 λc=>c.1=(x.1.1&&decide (r.1≠ []),r.1)->c.1=ic a) ((M9 x.2.1.2/\M9 x.1.2)/\∀(r:A5r),Hn r.1/\True/\True->(nv x.2.1.2<nv x.1.2->r.1= []/\r.2.1=false)/\(nv x.1.2<=nv x.2.1.2->r.1=nc (nv x.2.1.2-nv x.1.2)/\r.2.1=true)->True/\U7 λc=>c.1=(x.2.1.1&&decide (r.1≠ []),r.1)->c.1=ic a))))
def AS(x:cX):Prop:=(M9 x.1.2/\M9 x.2.1.2)/\Q8 λr=>r.1=nc (nv x.1.2*nv x.2.1.2)->True/\U7 λa=>a.1=(x.1.1 !=x.2.1.1&&decide (r.1≠ []),r.1)->a.1=ic (iv x.1*iv x.2.1)
def Nc(x:cX):Prop:=let b:=(iv x.1);let a:=(iv x.2.1);True/\Dx λr=>r.1=b.sign->True/\Dx λc=>c.1=a.sign->(iB (decide (r.1<c.1)) ((-1:Int)=P6 b a) ((iB (decide (c.1<r.1)) ((1:Int)=P6 b a) ((iB (decide (r.1<0)) (True/\Dx λr=>r.1=Cp (nv x.2.1.2) (nv x.1.2)->r.1=P6 b a) (True/\Dx λr=>r.1=Cp (nv x.1.2) (nv x.2.1.2)->r.1=P6 b a))))))
def AU:sn Y9 Pa:=λx a _=>by
 obtain⟨(b:Bool),(l:Wf),_⟩:=x;simp only[Pa,J0];cases l<;>simp
def Ye:sn W9 Nf:=λx d _=>by
 obtain⟨(v:Int),_⟩:=x;have c:i64.min<=v/\v<=i64.max:=d.1;rw[Uo,CW]at c;simp only[Nf,iB,Q8,U7];refine⟨λh=>⟨trivial,?_⟩,λh=>⟨trivial,?_⟩⟩
 . rintro⟨r,_⟩ _ a;refine⟨trivial,?_⟩;rintro⟨s,_⟩ _ b;simp only at a b|-;have h:=qA h;have e:(u64.wrap (-u64.wrap v)).toNat=v.natAbs:=by rw[Ci,Ci];omega
   rw[e]at a;subst b a;unfold ic;rw[rD h,xU,rD (by rw[g4g,Zl];omega)]
 . rintro⟨r,_⟩ _ a;refine⟨trivial,?_⟩;rintro⟨s,_⟩ _ b;simp only at a b|-;have h:=qB h;have e:(u64.wrap v).toNat=v.natAbs:=by rw[Ci];omega
   rw[e]at a;subst b a;unfold ic;rw[rB h,g1i]
def IF:sn Cw Wr:=λx f _=>by
 obtain⟨⟨(d:Bool),(l:Wf)⟩,_⟩:=x;simp only[Wr,iB,Dx];refine⟨trivial,?_⟩;rintro⟨r,_⟩ _ a;simp only at a|-;rw[kN]at a;refine⟨λh=>?_,λh=>⟨λc=>?_,λc=>?_⟩⟩
 . have h:=qA h;have b:nv l=0:=XW.1 (a▸h);unfold iv;simp only[b];split<;>rfl
 . have h:=qB h;have b:nv l≠0:=λe=>h (by rw[a,e];rfl)
   unfold iv;simp only[c,wA];rw[Int.sign_neg,uK ω]
 . have h:=qB h;have b:nv l≠0:=λe=>h (by rw[a,e];rfl)
   unfold iv;simp only[c];exact(uK (by simp;omega)).symm
def ZJ {neg:Bool} {m:Nat} {v:Int} (h:v=if neg=true then -(m:Int)else(m:Int)):(neg&&decide (nc m≠ []),nc m)=ic v:=by
 have e:ic (iv (neg,nc m))=(neg&&decide (m≠0),nc m):=B4o;have a:iv (neg,nc m)=v:=by rw[h];unfold iv;simp only[G1]
 rw[a]at e;rw[e];have:decide (nc m≠ [])=decide (m≠0):=wU.2 (g5j Zl);rw[this]
def IE:sn Cv Wq:=λx f d=>by
 obtain⟨⟨(c:Bool),(l:Wf)⟩,_⟩:=x;simp only[Wq,Q8,U7];refine⟨d,?_⟩;rintro⟨r,_⟩ _ a;refine⟨trivial,?_⟩;rintro⟨z,_⟩ _ b;simp only at a b|-;subst a;rw[b];exact ZJ rfl
def LS:sn Ej AR:=λx s o=>by
 obtain⟨⟨(b:Bool),(l:Wf)⟩,⟨(g:Bool),(k:Wf)⟩,_⟩:=x;obtain⟨j,i⟩:M9 l/\M9 k:=o;simp only[AR,iB,Q8,U7];refine⟨λh=>?_,λh=>?_⟩
 . refine⟨⟨j,i⟩,?_⟩;rintro⟨r,_⟩ _ c;refine⟨trivial,?_⟩;rintro⟨z,_⟩ _ a;simp only at c a|-;have h:b=g:=by simpa using h
   subst c h;rw[a];refine ZJ ?_;unfold iv;cases b<;>simp<;>omega
 . have h:g= !b:=by cases b<;>cases g<;>simp_all
   subst h;refine⟨⟨j,i⟩,?_⟩;rintro⟨r,t,_⟩ _ c;simp only at c|-;refine⟨λf=>⟨trivial,?_⟩,λf=>⟨⟨i,j⟩,?_⟩⟩
   . rintro⟨z,_⟩ _ a;simp only at a|-;rcases sF (nv l) (nv k)with d|d
     . rw[(c.1 d).2]at f;exact absurd f δ
     . rw[(c.2 d).1]at a;rw[a];refine ZJ ?_;unfold iv;cases b<;>simp<;>omega
   . rintro⟨v,u,_⟩ _ n;refine⟨trivial,?_⟩;rintro⟨z,_⟩ _ a;simp only at n a|-;rcases sF (nv l) (nv k)with d|d
     . rw[(n.2 ω).1]at a;rw[a];refine ZJ ?_;unfold iv;cases b<;>simp<;>omega
     . rw[(c.2 d).2]at f;exact absurd f δ
def LU:sn Ek AS:=λx i h=>by
 obtain⟨⟨(b:Bool),(l:Wf)⟩,⟨(c:Bool),(k:Wf)⟩,_⟩:=x;obtain⟨g,f⟩:M9 l/\M9 k:=h;simp only[AS,Q8,U7];refine⟨⟨g,f⟩,?_⟩;rintro⟨r,_⟩ _ a;refine⟨trivial,?_⟩;rintro⟨z,_⟩ _ d;simp only at a d|-;subst a;rw[d];refine ZJ ?_;unfold iv;cases b<;>cases c<;>simp<;>grind
def EG:An:= {}
def JM:An:= {plan:= [(3,[1],[4],false, .done)]}
def NO:An:= {}
def JN:An:= {}
def Yp:An:= {join:= [(4,⟨[0,1,4],[0],[(5,false,vU)],[],[]⟩)],loop:= [(5,⟨[0,1,4,5],[0],[(6,false,vU),(7,false,vU)],[],[]⟩)],plan:= [(6,[],[],true, .done),(7,[],[13],true, .done)]}
def GU:An:= {join:= [(8,⟨[2,4],[1],[(1,false,[.val qa])],[(0,44,[.val .bool, .val qa])],[]⟩)]}
def NN:An:= {}
def Kl(x:E3):Prop:=True/\U7 λr=>r.1=ic x.1->(r.1,[(1:Int)])=ri x.1
def Pn(x:D4):Prop:=let d:=(1:Int);let c:=(0:Nat);let b:Prop:=(nv x.1.2=c->x.1.1=zi/\x.1.2= [d]);let a:Prop:=(nv x.1.2≠c->x.1.1=x.1.1/\x.1.2=x.1.2);True/\Dx λr=>r.1=Cp (nv x.1.2) (nv [])->(iB (decide (r.1=0)) ((nv x.1.2=c->(false,[])=zi/\ [d]= [d])/\(nv x.1.2≠c->(false,[])=x.1.1/\ [d]=x.1.2)) ((b/\a)/\b/\a))
abbrev lW:=(Bool×Wf)×Wf×Unit
def Tu(x:D4):Prop:=True/\∀(r:lW),mH r.1/\Hn r.2.1/\True->(nv x.1.2=0->r.1=zi/\r.2.1= [(1:Int)])/\(nv x.1.2≠0->r.1=x.1.1/\r.2.1=x.1.2)->True/\Dx λa=>a.1=(iv r.1).sign->a.1=(rv x.1).num.sign
def Po(x:D4):Prop:=let e:=(0:Int);let c:Prop:=(¬K3 x.1->true=false);let b:=(18446744073709551616:Nat);True/\∀(r:B1m),IX r.1/\True/\True->(nv x.1.1.2<b->r.1=(↑(nv x.1.1.2):Int)/\r.2.1=true)/\(b<=nv x.1.1.2->r.2.1=false)->True/\∀(f:B1m),let d:=(decide (2147483648<=f.1));let a:=(G6 (G6 (!r.2.1) true !f.2.1) true (decide (2147483648<=r.1)));IX f.1/\True/\True->(nv x.1.2<b->f.1=(↑(nv x.1.2):Int)/\f.2.1=true)/\(b<=nv x.1.2->f.2.1=false)->(iB (G6 a true d) ((K3 x.1->e=Rq x.1/\e=Ns x.1/\false=true)/\(¬K3 x.1->false=false)) ((iB (decide (f.1=e)) ((K3 x.1->e=Rq x.1/\(1:Int)=Ns x.1/\true=true)/\c) ((iB x.1.1.1 ((K3 x.1->i64.wrap (-i64.wrap r.1)=Rq x.1/\i64.wrap f.1=Ns x.1/\true=true)/\c) ((K3 x.1->i64.wrap r.1=Rq x.1/\i64.wrap f.1=Ns x.1/\true=true)/\c))))))
def Jv(x:Ee):Prop:=let a:=(0:Int);∃(J:E3->Prop),((iB (decide (x.1<a)) (J (u64.wrap (-u64.wrap x.1),())) (J (u64.wrap x.1,()))))/\∀(p:E3),(Ty.int u64).wf p.1/\True->J p->∃(I:Ee->Prop),∃(d: _->Nat),I (u64.wrap x.2.1,p)/\∀(c:Ee),let b:=(c.2.1,Int.tmod c.1 c.2.1,());(Ty.int u64).wf c.1/\(Ty.int u64).wf c.2.1/\True->I c->(iB (decide (c.2.1≠a)) (c.2.1≠a/\I b/\d b<d c) (c.1≠a/\c.1≠a/\True/\Q8 λr=>r.1=nc (u64.wrap (Int.tdiv p.1 c.1)).toNat->True/\Q8 λd=>d.1=nc (u64.wrap ((u64.wrap x.2.1).tdiv c.1)).toNat->((decide (x.1<a),r.1),d.1)=rc (mkRat x.1 x.2.1.toNat)))
abbrev C8g:=Wf×Bool×Wf×Unit
def Nm(x:lW):Prop:=let g:=(0:Nat);let f:=(nv x.2.1);let c:=(1:Int);let b:=(0:Int);Hm x.1.2/\U7 λr=>let d:=(r.1.2.length:Int);r.1=ic (iv x.1)->Hm x.2.1/\Q8 λk=>k.1=nc f->(iB (decide (d=b)) (((false,[]),[c])=rc (mkRat (iv x.1) f)) ((Fg r.1.2/\Fg k.1)/\Q8 λh=>let e:=(decide (gx b h.1 b≠c));let a:=(h.1.length:Int);h.1=nc ((nv r.1.2).gcd (nv k.1))->∃(J:C8g->Prop),((decide (a≠c)=false->b<=b/\b<a)/\(iB (G6 (decide (a≠c)) true e) (M9 r.1.2/\∀(i:B7q),Hn i.1/\Hn i.2.1/\True/\True->(nv h.1=g->i.1= []/\i.2.1= []/\i.2.2.1=false)/\(nv h.1≠g->i.1=nc (nv r.1.2/nv h.1)/\i.2.1=nc (nv r.1.2%nv h.1)/\i.2.2.1=true)->M9 k.1/\∀(j:B7q),Hn j.1/\Hn j.2.1/\True/\True->(nv h.1=g->j.1= []/\j.2.1= []/\j.2.2.1=false)/\(nv h.1≠g->j.1=nc (nv k.1/nv h.1)/\j.2.1=nc (nv k.1%nv h.1)/\j.2.2.1=true)->J (j.1,r.1.1,i.1,())) (J (k.1,r.1.1,r.1.2,()))))/\∀(p:C8g),(Ty.int u32).sl.wf p.1/\Ty.bool.wf p.2.1/\(Ty.int u32).sl.wf p.2.2.1/\True->J p->((p.2.1,p.2.2.1),p.1)=rc (mkRat (iv x.1) f)))
def M0 (P:QQ×Unit->Prop):Prop:=∀r:QQ×Unit,IU r.1/\True->P r
def Tt(x:D4):Prop:=True/\∀(r:A1l),O0 r.1/\O0 r.2.1/\True/\True->(K3 x.1->r.1=Rq x.1/\r.2.1=Ns x.1/\r.2.2.1=true)/\(¬K3 x.1->r.2.2.1=false)->(iB r.2.2.1 (0<r.2.1/\M0 λa=>a.1=rc (mkRat r.1 r.2.1.toNat)->a.1=rc (rv x.1)) (True/\∀(r:lW),mH r.1/\Hn r.2.1/\True->(nv x.1.2=0->r.1=zi/\r.2.1= [(1:Int)])/\(nv x.1.2≠0->r.1=x.1.1/\r.2.1=x.1.2)->(nv r.2.1≠0/\Fg r.1.2/\Fg r.2.1)/\M0 λa=>a.1=rc (mkRat (iv r.1) (nv r.2.1))->a.1=rc (rv x.1)))
def Wa:sn Q3 Kl:=λx b _=>by
 obtain⟨v,_⟩:=x;simp only[Kl,U7];refine⟨trivial,?_⟩;rintro⟨r,_⟩ _ a;simp only at a|-;rw[a];rfl
def BU:sn Af Pn:=λx d _=>by
 obtain⟨⟨c,(l:Wf)⟩,_⟩:=x;simp only[Pn,iB,Dx];refine⟨trivial,?_⟩;rintro⟨r,_⟩ _ b;simp only at b|-;rw[kN]at b;refine⟨λh=>?_,λh=>?_⟩
 . have a:nv l=0:=XW.1 (b▸qA h);exact⟨λ_=>⟨rfl,by trivial⟩,λh=>absurd a h⟩
 . have a:nv l≠0:=λe=>(qB h) (by rw[b,e];rfl)
   exact⟨⟨λh=>absurd h a,λ_=>⟨by trivial,by trivial⟩⟩,λh=>absurd h a,λ_=>⟨by trivial,by trivial⟩⟩
def FG:sn Bl Tu:=λx g _=>by
 obtain⟨⟨d,(l:Wf)⟩,_⟩:=x;simp only[Tu,Dx];refine⟨trivial,?_⟩;rintro⟨r,f,_⟩ _ ⟨a,b⟩;refine⟨trivial,?_⟩;rintro⟨s,_⟩ _ c;simp only at a b c|-;rw[c, <-C0k];unfold C4y;split
 . rename_i h;rw[(a h).1];rfl
 . rename_i h;rw[(b h).1]
def BV:sn Ag Po:=λx O _=>by
 obtain⟨⟨⟨(g:Bool),(a:Wf)⟩,(l:Wf)⟩,_⟩:=x;simp only[Po,iB];refine⟨trivial,?_⟩;rintro⟨u,f,_⟩ _ ⟨k,y⟩;refine⟨trivial,?_⟩;rintro⟨v,d,_⟩ _ ⟨n,z⟩;change Int at u v;change Bool at f d;simp only at k y n z|-;have r:G6 (G6 (G6 (!f) true !d) true (decide (2147483648<=u))) true (decide (2147483648<=v))=(!f|| !d||decide (2147483648<=u) ||decide (2147483648<=v)):=by simp only[K8]
 rw[r];have G:(!f|| !d||decide (2147483648<=u) ||decide (2147483648<=v))=false->K3 ((g,a),l)/\u=(nv a:Int)/\v=(nv l:Int):=λh=>by
  simp only[rE,g1j,rO]at h;obtain⟨⟨⟨t,w⟩,M⟩,N⟩:=h;have D:nv a<18446744073709551616:=by
   rcases sF (nv a) 18446744073709551616 with h|h
   . exact h
   . rw[y h]at t;cases t
  have E:nv l<18446744073709551616:=by
   rcases sF (nv l) 18446744073709551616 with h|h
   . exact h
   . rw[z h]at w;cases w
  have I:=(k D).1;have J:=(n E).1;exact⟨⟨by show nv a< _;omega,by show nv l< _;omega⟩,I,J⟩
 have H:K3 ((g,a),l)->(!f|| !d||decide (2147483648<=u) ||decide (2147483648<=v))=false:=λh=>by
  obtain⟨(i:nv a< _),(j:nv l< _)⟩:=h;obtain⟨D,t⟩:=k ω;obtain⟨E,w⟩:=n ω;simp only[rE,g1j,rO];exact⟨⟨⟨t,w⟩,ω⟩,ω⟩
 refine⟨λh=>⟨λr=>?_,λ_=>trivial⟩,λh=>?_⟩
 . rw[H r]at h;cases h
 . obtain⟨A,F,B⟩:=G h;have s:=A;obtain⟨(i:nv a< _),(j:nv l< _)⟩:=A;refine⟨λc=>?_,λc=>⟨λo=>?_,λo=>?_⟩⟩
   . have c:=qA c;have b:nv l=0:=ω
     exact⟨λ_=>⟨by unfold Rq;rw[qJ b],by unfold Ns;rw[qJ b],trivial⟩,λh=>absurd s h⟩
   . have c:=qB c;have b:nv l≠0:=ω
     refine⟨λ_=>⟨?_,?_,trivial⟩,λh=>absurd s h⟩
     . unfold Rq;rw[qG b,wv (a:=u) ω,wv ω];unfold iv;simp only[o,wA];omega
     . unfold Ns;rw[qG b,wv ω];exact B
   . have c:=qB c;have b:nv l≠0:=ω
     refine⟨λ_=>⟨?_,?_,trivial⟩,λh=>absurd s h⟩
     . unfold Rq;rw[qG b,wv (a:=u) ω];unfold iv;simp only[o];simpa using F
     . unfold Ns;rw[qG b,wv ω];exact B
def Tv:sn T4 Jv:=λx A F=>by
 obtain⟨(n:Int),(d:Int),_⟩:=x;have I:0<d:=F;have c:=(show i64.min<=n/\n<=i64.max from A.1);have r:=(show i64.min<=d/\d<=i64.max from A.2.1);rw[Uo,CW]at c r;obtain⟨Q,R⟩:=c;have J:=r.2;have P:i64.min= -9223372036854775808:=Uo;simp only[Jv,iB,Q8];refine⟨λp=>p.1=(n.natAbs:Int),⟨λh=>?_,λh=>?_⟩,?_⟩
 . have h:=qA h;show u64.wrap (-u64.wrap n)= _;rw[Ci,Ci];omega
 . have h:=qB h;show u64.wrap n= _;rw[Ci];omega
 rintro⟨U,_⟩ _ z;simp only at z|-;subst z;have o:u64.wrap d=d:=X5 ω ω;refine⟨λp=>0<=p.1/\0<=p.2.1/\(p.1≠0\/p.2.1≠0)/\p.1.toNat.gcd p.2.1.toNat=d.toNat.gcd n.natAbs,λp=>p.2.1.toNat,?_,?_⟩
 . refine⟨ω,by show(0:Int)<=(n.natAbs:Int);omega, .inl ω,?_⟩;rw[o];rfl
 rintro⟨(g:Int),(t:Int),_⟩ _ ⟨j,a,D,k⟩;simp only at j a D k|-;refine⟨λh=>?_,λh=>?_⟩
 . have h:=qA h;have e:Int.tmod g t=g%t:=uS j;have i:=g2r g h;have M:=zS g (b:=t) ω;rw[e];refine⟨h,⟨a,i, .inl h,?_⟩,ω⟩;rw[<-k,Int.toNat_emod j a,xF t.toNat, <-g3p,xF]
 . have h:t=0:=by simpa using h
   subst h;have u:g≠0:=ω
   refine⟨u,u,trivial,?_⟩;rintro⟨T,_⟩ _ y;refine⟨trivial,?_⟩;rintro⟨q,_⟩ _ w;simp only at y w|-;have N:g.toNat=d.toNat.gcd n.natAbs:=by rw[<-k];simp
   have O:0<g:=ω
   have v:g=((d.toNat.gcd n.natAbs:Nat):Int):=ω
   obtain⟨c,E⟩:=Oi (x:=n) (d:=d.toNat) ω;have B:(u64.wrap (Int.tdiv (n.natAbs:Int) g)).toNat=n.natAbs/d.toNat.gcd n.natAbs:=by
    rw[IntWalk.u64_quo _ _ ⟨ω,ω,ω⟩,v, <-g4x,qK]
   have i:(u64.wrap (Int.tdiv d g)).toNat=d.toNat/d.toNat.gcd n.natAbs:=by
    rw[IntWalk.u64_quo _ _ ⟨ω,ω,ω⟩,v]
    conv=>lhs;rw[(ω:d=((d.toNat:Nat):Int))]
    rw[<-g4x,qK];simp only[qK]
   rw[y,w,o,B,i];unfold rc;rw[c,E];unfold ic;have s:((d.toNat.gcd n.natAbs:Nat):Int)∣n:=yE.2 (yU ..);have l:0<d.toNat.gcd n.natAbs:=ω
   generalize d.toNat.gcd n.natAbs=G at s l;obtain⟨f,rfl⟩:=s;rw[xV _ ω];have H:(G:Int)*f<0↔f<0:=by
    constructor
    . intro h;rcases g4s f 0 with a|a
      . exact a
      . have:=tV (xE (sC.2 l)) a;omega
    . intro h;exact zB ω h
   rw[vH,uR,yB _ l];simp only[H]
def Uy (x:C0):mkRat (Rq x) (Ns x).toNat=rv x:=by
 unfold Rq Ns rv;split
 . rename_i h;rw[h,yX];rfl
 . rename_i h;rw[qK]
def B6d (x:C0):0<Ns x:=by
 unfold Ns;split
 . decide
 . omega
def Yk:sn X4 Nm:=λx w H=>by
 obtain⟨⟨b,l⟩,k,_⟩:=x;have G:B4 l:=A5 w.1.2.2;have F:B4 k:=A5 w.2.1.2;change Bool at b;change Wf at l k;obtain⟨j,V,U⟩:nv k≠0/\l.length<=8796093022208/\k.length<=8796093022208:=H;simp only[Nm,iB,Q8,U7];have N:=D8 G;have M:=D8 F;refine⟨by show l.length<=35184372088832;omega,?_⟩;rintro⟨⟨y,r⟩,_⟩ _ f;refine⟨by show k.length<=35184372088832;omega,?_⟩;rintro⟨d,_⟩ _ c;simp only at f c|-;have I:y=decide (iv (b,l)<0):=sZ (·.1) f;have v:r=nc (iv (b,l)).natAbs:=sZ (·.2) f;have A:(iv (b,l)).natAbs=nv l:=J8 _;have i:nv r=(iv (b,l)).natAbs:=by rw[v,G1]
 have o:nv d=nv k:=by rw[c,G1]
 have T:r.length<=l.length:=by rw[v,A];exact N
 have Q:d.length<=k.length:=by rw[c];exact M
 refine⟨λh=>?_,λh=>?_⟩
 . have h:=qA h;have B:r= []:=qT ω;rw[B,kN]at i;have:iv (b,l)=0:=Int.natAbs_eq_zero.1 i.symm;rw[this,Rat.zero_mkRat,A8b]
 have h:=qB h;refine⟨⟨ω,ω⟩,?_⟩;rintro⟨g,_⟩ _ n;simp only at n|-;rw[i,o]at n;have R:Nat.gcd (iv (b,l)).natAbs (nv k)≠0:=Nat.ne_of_gt (g1z _ (tC j));have s:nv g=Nat.gcd (iv (b,l)).natAbs (nv k):=by rw[n,G1]
 refine⟨λp=>((p.2.1,p.2.2.1),p.1)=rc (mkRat (iv (b,l)) (nv k)),⟨λa=>?_,λa=>?_,λa=>?_⟩,?_⟩
 . have a:=qB a;exact⟨qH _,ω⟩
 . refine⟨by show r.length<= _;omega,?_⟩;rintro⟨q,m,X,_⟩ _ t;refine⟨by show d.length<= _;omega,?_⟩;rintro⟨Z,W,Y,_⟩ _ u;simp only at t u|-;rw[lD j,(t.2 ω).1,(u.2 ω).1,i,o,s,I]
 . have a:g.length=1/\gx 0 g 0=1:=by
    rw[K8]at a;simp only[rE,rO]at a;omega
   obtain⟨z,rfl⟩:∃z,g= [z]:=g2q.1 a.1;have J:z=1:=a.2;subst J;have D:Nat.gcd (iv (b,l)).natAbs (nv k)=1:=by rw[<-s];rfl
   rw[C0g j D];show((y,r),d)= _;rw[c, <-f]
 . rintro⟨O,a0,P,_⟩ _ E;exact E
def FF:sn W0 Tt:=λx v n=>by
 obtain⟨(q:C0),_⟩:=x;obtain⟨i,j⟩:q.1.2.length<=2199023255552/\q.2.length<=2199023255552:=n;simp only[Tt,iB,M0];refine⟨trivial,?_⟩;rintro⟨(s:Int),(f:Int),z,_⟩ _ ⟨c,d⟩;simp only at c d|-;refine⟨λh=>?_,λh=>⟨trivial,?_⟩⟩
 . have o:K3 q:=qN λhn=>by rw[d hn]at h;cases h
   obtain⟨rfl,rfl,_⟩:=c o;refine⟨B6d q,?_⟩;rintro⟨u,_⟩ _ a;simp only at a|-;rw[a,Uy]
 . rintro⟨t,g,_⟩ _ b;simp only at b|-;obtain⟨l,r⟩:=Mf b;obtain⟨w,y⟩:=Ih (k:=2199023255552) b i j δ;refine⟨⟨l,by show t.2.length<= _;omega,by show g.length<= _;omega⟩,?_⟩;rintro⟨u,_⟩ _ a;simp only at a|-;rw[a,r]
def SH:An:= {plan:= [(13,[0,4],[10],true, .done),(14,[0],[5],true, .done)]}
def SN:An:= {}
def SK:An:= {}
def SL:An:= {}
def EF:An:= {plan:= [(1,[0,2],[],true, .done),(10,[0,4],[],true, .done)]}
def SJ:An:= {}
def SI:An:= {}
def Ww(x:K7):Prop:=let h:=(0:Nat);let g:=(0:Int);let e:=(rv x.1+rv x.2.1);True/\Dx λr=>r.1=(rv x.1).num.sign->(iB (decide (r.1=g)) (G4 x.2.1/\M0 λr=>r.1=rc (rv x.2.1)->r.1=rc e) (True/\Dx λr=>r.1=(rv x.2.1).num.sign->(iB (decide (r.1=g)) (G4 x.1/\M0 λr=>r.1=rc (rv x.1)->r.1=rc e) (True/\∀(r:A1l),O0 r.1/\O0 r.2.1/\True/\True->(K3 x.1->r.1=Rq x.1/\r.2.1=Ns x.1/\r.2.2.1=true)/\(¬K3 x.1->r.2.2.1=false)->True/\∀(m:A1l),O0 m.1/\O0 m.2.1/\True/\True->(K3 x.2.1->m.1=Rq x.2.1/\m.2.1=Ns x.2.1/\m.2.2.1=true)/\(¬K3 x.2.1->m.2.2.1=false)->(iB (G6 r.2.2.1 m.2.2.1 false) (g<i64.wrap (r.2.1*m.2.1)/\M0 λj=>j.1=rc (mkRat (i64.wrap (i64.wrap (r.1*m.2.1)+i64.wrap (m.1*r.2.1))) (i64.wrap (r.2.1*m.2.1)).toNat)->j.1=rc e) (True/\∀(r:lW),mH r.1/\Hn r.2.1/\True->(nv x.1.2=h->r.1=zi/\r.2.1= [(1:Int)])/\(nv x.1.2≠h->r.1=x.1.1/\r.2.1=x.1.2)->True/\∀(j:lW),let i:=(iv r.1*iv (false,j.2.1));let f:=(iv j.1*iv (false,r.2.1));let d:Prop:=(M9 r.1.2/\M9 j.2.1);let c:Prop:=(M9 j.1.2/\M9 r.2.1);let a:(Ya)->(Ya)->(Ya)->Prop:=(λl k n=>mH n.1/\True->n.1=ic (iv l.1+iv k.1)->(M9 r.2.1/\M9 j.2.1)/\Q8 λo=>o.1=nc (nv r.2.1*nv j.2.1)->(nv o.1≠h/\Fg n.1.2/\Fg o.1)/\M0 λr=>r.1=rc (mkRat (iv n.1) (nv o.1))->r.1=rc e);let b:(Ya)->(Ya)->Prop:=(λl k=>(M9 l.1.2/\M9 k.1.2)/\∀(n:Ya),a l k n);mH j.1/\Hn j.2.1/\True->(nv x.2.1.2=h->j.1=zi/\j.2.1= [(1:Int)])/\(nv x.2.1.2≠h->j.1=x.2.1.1/\j.2.1=x.2.1.2)->True/\Dx λp=>p.1=Cp (nv r.2.1) (nv j.2.1)->(iB (decide (p.1=g)) ((M9 r.1.2/\M9 j.1.2)/\U7 λl=>l.1=ic (iv r.1+iv j.1)->(nv r.2.1≠h/\Fg l.1.2/\Fg r.2.1)/\M0 λk=>k.1=rc (mkRat (iv l.1) (nv r.2.1))->k.1=rc e) ((d/\U7 λl=>l.1=ic i->(c/\U7 λk=>k.1=ic f->(b l k)/\(M9 l.1.2/\M9 k.1.2)/\∀(n:Ya),a l k n)/\c/\U7 λk=>k.1=ic f->b l k)/\d/\U7 λl=>l.1=ic i->c/\U7 λk=>k.1=ic f->b l k))))))))
def Xb(x:K7):Prop:=let a:=((!x.2.1.1.1,x.2.1.1.2),x.2.1.2);(G4 x.1/\G4 a)/\M0 λr=>r.1=rc (rv x.1+rv a)->r.1=rc (rv x.1-rv x.2.1)
def Wz(x:K7):Prop:=let b:=(rv x.1*rv x.2.1);let a:=(0:Nat);True/\∀(r:A1l),O0 r.1/\O0 r.2.1/\True/\True->(K3 x.1->r.1=Rq x.1/\r.2.1=Ns x.1/\r.2.2.1=true)/\(¬K3 x.1->r.2.2.1=false)->True/\∀(d:A1l),O0 d.1/\O0 d.2.1/\True/\True->(K3 x.2.1->d.1=Rq x.2.1/\d.2.1=Ns x.2.1/\d.2.2.1=true)/\(¬K3 x.2.1->d.2.2.1=false)->(iB (G6 r.2.2.1 d.2.2.1 false) ((0:Int)<i64.wrap (r.2.1*d.2.1)/\M0 λc=>c.1=rc (mkRat (i64.wrap (r.1*d.1)) (i64.wrap (r.2.1*d.2.1)).toNat)->c.1=rc b) (True/\∀(r:lW),mH r.1/\Hn r.2.1/\True->(nv x.1.2=a->r.1=zi/\r.2.1= [(1:Int)])/\(nv x.1.2≠a->r.1=x.1.1/\r.2.1=x.1.2)->True/\∀(c:lW),mH c.1/\Hn c.2.1/\True->(nv x.2.1.2=a->c.1=zi/\c.2.1= [(1:Int)])/\(nv x.2.1.2≠a->c.1=x.2.1.1/\c.2.1=x.2.1.2)->(M9 r.1.2/\M9 c.1.2)/\U7 λf=>f.1=ic (iv r.1*iv c.1)->(M9 r.2.1/\M9 c.2.1)/\Q8 λe=>e.1=nc (nv r.2.1*nv c.2.1)->(nv e.1≠a/\Fg f.1.2/\Fg e.1)/\M0 λr=>r.1=rc (mkRat (iv f.1) (nv e.1))->r.1=rc b))
def Xa(x:D4):Prop:=G4 x.1/\M0 λr=>r.1=rc (rv x.1)->Hm r.1.1.2/\U7 λa=>a.1=ic (-iv r.1.1)->(a.1,r.1.2)=rc (-rv x.1)
def Kk(x:K7):Prop:=let c:=(0:Nat);let b:=(rv x.1);let a:=(rv x.2.1);True/\Dx λr=>r.1=b.num.sign->True/\Dx λf=>f.1=a.num.sign->(iB (decide (r.1≠f.1)) (True/\Dx λe=>e.1=P6 r.1 f.1->e.1=EK b a) (True/\∀(r:A1l),O0 r.1/\O0 r.2.1/\True/\True->(K3 x.1->r.1=Rq x.1/\r.2.1=Ns x.1/\r.2.2.1=true)/\(¬K3 x.1->r.2.2.1=false)->True/\∀(e:A1l),O0 e.1/\O0 e.2.1/\True/\True->(K3 x.2.1->e.1=Rq x.2.1/\e.2.1=Ns x.2.1/\e.2.2.1=true)/\(¬K3 x.2.1->e.2.2.1=false)->(iB (G6 r.2.2.1 e.2.2.1 false) (True/\Dx λd=>d.1=P6 (i64.wrap (r.1*e.2.1)) (i64.wrap (e.1*r.2.1))->d.1=EK b a) (True/\∀(r:lW),mH r.1/\Hn r.2.1/\True->(nv x.1.2=c->r.1=zi/\r.2.1= [(1:Int)])/\(nv x.1.2≠c->r.1=x.1.1/\r.2.1=x.1.2)->True/\∀(d:lW),mH d.1/\Hn d.2.1/\True->(nv x.2.1.2=c->d.1=zi/\d.2.1= [(1:Int)])/\(nv x.2.1.2≠c->d.1=x.2.1.1/\d.2.1=x.2.1.2)->(M9 r.1.2/\M9 d.2.1)/\U7 λg=>g.1=ic (iv r.1*iv (false,d.2.1))->(M9 d.1.2/\M9 r.2.1)/\U7 λh=>h.1=ic (iv d.1*iv (false,r.2.1))->True/\Dx λr=>r.1=P6 (iv g.1) (iv h.1)->r.1=EK b a))))
def Wy(x:D4):Prop:=let a:=(rv x.1);True/\Dx λr=>r.1=a.num.sign->(iB (decide (r.1=0)) ((rv x.1=(0:Rat)->false=false)/\(rv x.1≠(0:Rat)->dQ=rc a⁻¹/\false=true)) (G4 x.1/\M0 λr=>r.1=rc a->(rv x.1=(0:Rat)->true=false)/\(rv x.1≠(0:Rat)->((r.1.1.1,r.1.2),r.1.1.2)=rc a⁻¹/\true=true)))
def Wx(x:K7):Prop:=let b:=(rv x.1/rv x.2.1);let a:=((x.2.1.1.1,x.2.1.2),x.2.1.1.2);True/\Dx λr=>r.1=(rv x.2.1).num.sign->(iB (decide (r.1=0)) ((rv x.2.1=(0:Rat)->false=false)/\(rv x.2.1≠(0:Rat)->dQ=rc b/\false=true)) ((G4 x.1/\G4 a)/\M0 λr=>r.1=rc (rv x.1*rv a)->(rv x.2.1=(0:Rat)->true=false)/\(rv x.2.1≠(0:Rat)->r.1=rc b/\true=true)))
def FU {q:Rat} (h:q.num.sign=0):q=0:=yJ.1 (xN.1 h)
def Lf {x:C0} (h:K3 x): -2147483647<=Rq x/\Rq x<=2147483647/\0<Ns x/\Ns x<=2147483647:=by
 obtain⟨a,b⟩:=h;have:=J8 x.1;unfold Rq Ns;split
 . omega
 . omega
def Ro {a b M N:Int} (f: -M<=a) (d:a<=M) (c:0<=b) (g:b<=N): -(M*N)<=a*b/\a*b<=M*N:=by
 have h:0<=M:=ω
 have i:M*b<=M*N:=uH g h;have g:a*b<=M*b:=sQ d c;have d: -M*b<=a*b:=sQ f c;rw[Int.neg_mul]at d;omega
def B1d {a b c d:Int} (h: -2147483647<=a/\a<=2147483647) (i: -2147483647<=b/\b<=2147483647) (g:0<c/\c<=2147483647) (f:0<d/\d<=2147483647):
 i64.wrap (c*d)=c*d/\0<c*d/\i64.wrap (i64.wrap (a*d)+i64.wrap (b*c))=a*d+b*c:=by
 have k:=Ro h.1 h.2 (xE f.1) f.2;have l:=Ro i.1 i.2 (xE g.1) g.2;have n:=Ro (a:=c) (b:=d) (M:=2147483647) ω g.2 (xE f.1) f.2;have j:0<c*d:=Int.mul_pos g.1 f.1;rw[wv (a:=c*d) ω,wv (a:=a*d) ω,wv (a:=b*c) ω,wv ω];exact⟨rfl,j,rfl⟩
def IK:sn Dc Ww:=λx o a8=>by
 obtain⟨p,q,_⟩:=x;have ax:B4 p.1.2:=A5 o.1.1.2.2;have ay:B4 p.2:=A5 o.1.2.2;have az:B4 q.1.2:=A5 o.2.1.1.2.2;have b0:B4 q.2:=A5 o.2.1.2.2;change C0 at p q;obtain⟨a9,aa⟩:G4 p/\G4 q:=a8;obtain⟨N,O⟩:=a9;obtain⟨P,Q⟩:=aa;simp only[Ww,iB,Q8,Dx,U7,M0];refine⟨trivial,?_⟩;rintro⟨b1,_⟩ _ R;simp only at R|-;refine⟨λh=>⟨⟨P,Q⟩,?_⟩,λh=>⟨trivial,?_⟩⟩
 . rintro⟨r,_⟩ _ f;simp only at f|-;rw[R]at h;rw[f,FU (qA h),sM]
 rintro⟨b2,_⟩ _ T;simp only at T|-;refine⟨λh=>⟨⟨N,O⟩,?_⟩,λh=>⟨trivial,?_⟩⟩
 . rintro⟨r,_⟩ _ f;simp only at f|-;rw[T]at h;rw[f,FU (qA h),rJ]
 rintro⟨F,E,aq,_⟩ _ ⟨B,D⟩;refine⟨trivial,?_⟩;rintro⟨I,bd,ar,_⟩ _ ⟨G,H⟩;change Int at F E I bd;simp only at B D G H|-;refine⟨λh=>?_,λ_=>⟨trivial,?_⟩⟩
 . rw[J0,qC]at h;have X:K3 p:=qN λhn=>by have:=D hn;rw[this]at h;exact absurd h.1 δ
   have Y:K3 q:=qN λhn=>by have:=H hn;rw[this]at h;exact absurd h.2 δ
   obtain⟨a1,a3,_⟩:=B X;obtain⟨a2,a4,_⟩:=G Y;obtain⟨Z,a0,b3,b4⟩:=Lf X;obtain⟨b5,b6,b7,b8⟩:=Lf Y;obtain⟨am,an,ao⟩:=B1d (a:=F) (b:=I) (c:=E) (d:=bd) ω ω ω ω;rw[am,ao];refine⟨an,?_⟩;rintro⟨r,_⟩ _ f;simp only at f|-;rw[f, <-Uy p, <-Uy q, <-a1, <-a3, <-a2, <-a4,OL ω ω,tH ω,tH ω,g4d ω ω]
 . rintro⟨n,d,_⟩ ⟨ae,ab,_⟩ w;refine⟨trivial,?_⟩;rintro⟨m,e,_⟩ ⟨ad,ac,_⟩ z;have W:B4 n.2:=A5 ae.2.2;have U:B4 d:=A5 ab.2;have V:B4 m.2:=A5 ad.2.2;have le:B4 e:=A5 ac.2;refine⟨trivial,?_⟩;rintro⟨c,_⟩ _ M;change Ko at n m;change Wf at d e;simp only at w z M|-;obtain⟨j,a5⟩:=Mf w;obtain⟨J,a6⟩:=Mf z;obtain⟨aj,au⟩:=Ih (k:=2199023255552) w N O δ;obtain⟨ai,av⟩:=Ih (k:=2199023255552) z P Q δ;rw[a5,a6];refine⟨λh=>?_,λh=>?_⟩
   . have h:=qA h;have a7:nv d=nv e:=XW.1 (M▸h);refine⟨⟨by show n.2.length<= _;omega,by show m.2.length<= _;omega⟩,?_⟩;rintro⟨u,_⟩ _ g;simp only at g|-;have af:=XA (x:=n) (y:=m) W V aj ai;refine⟨⟨j,by show u.2.length<= _;rw[g];omega,by show d.length<= _;omega⟩,?_⟩;rintro⟨r,_⟩ _ f;simp only at f|-;rw[f,g,L6, <-a7,A4b j]
   . --the general case:the same four times
     have Z:=HC (x:=n) (y:=(false,e)) W le;have a0:=HC (x:=m) (y:=(false,d)) V U;have t:M9 n.2/\M9 e:=⟨by show n.2.length<= _;omega,by show e.length<= _;omega⟩;have l:M9 m.2/\M9 d:=⟨by show m.2.length<= _;omega,by show d.length<= _;omega⟩;have fin:∀u v:Ko,u=ic (iv n*iv (false,e))->v=ic (iv m*iv (false,d))->(M9 u.2/\M9 v.2)/\∀(r_6:(Bool×Wf)×Unit),mH r_6.1/\True->r_6.1=ic (iv u+iv v)->(M9 d/\M9 e)/\∀(r_7:Wf×Unit),Hn r_7.1/\True->r_7.1=nc (nv d*nv e)->(nv r_7.1≠(0:Nat)/\Fg r_6.1.2/\Fg r_7.1)/\∀(r:QQ×Unit),IU r.1/\True->r.1=rc (mkRat (iv r_6.1) (nv r_7.1))->r.1=rc (mkRat (iv n) (nv d)+mkRat (iv m) (nv e)):=by
      intro u v g i;have ag:u.2.length<=4398046511104:=by
       rw[g];refine qU Z ?_;show n.2.length+e.length<= _;omega
      have ah:v.2.length<=4398046511104:=by
       rw[i];refine qU a0 ?_;show m.2.length+d.length<= _;omega
      refine⟨⟨by show u.2.length<= _;omega,by show v.2.length<= _;omega⟩,?_⟩;rintro⟨ak,_⟩ _ A;refine⟨⟨l.2,t.2⟩,?_⟩;rintro⟨ap,_⟩ _ s;simp only at A s|-;have af:=XA (x:=u) (y:=v) (by rw[g];exact pF _) (by rw[i];exact pF _) ag ah;have aw:=HG U le;refine⟨⟨by rw[s,G1];exact zQ j J,by show ak.2.length<= _;rw[A];omega,by show ap.length<= _;rw[s];omega⟩,?_⟩;rintro⟨r,_⟩ _ f;simp only at f|-;rw[f,A,s,G1,L6,g,i,L6,L6,Jx,Jx,OL j J]
     exact⟨⟨t,λu _ g=>⟨⟨l,λv _ i=>⟨fin _ _ g i,fin _ _ g i⟩⟩,l,λv _ i=>fin _ _ g i⟩⟩,t,λu _ g=>⟨l,λv _ i=>fin _ _ g i⟩⟩
def mW:An:= {loop:= [(2,⟨[0],[],[(3,false,vI)],[],[]⟩)]}
def iJ:An:= {loop:= [(4,⟨[0,1],[],[(5,false,vI)],[],[]⟩)],plan:= [(6,[3,7],[],true, .done)]}
def JK:An:= {}
def A2c:An:= {join:= [(8,⟨[0,1,5,7],[0],[(6,false,vU)],[],[]⟩),(10,⟨[0,1,5,7],[0],[(6,false,vU)],[],[]⟩)],loop:= [(4,⟨[0,1,5],[],[(6,false,vU),(7,false,vI)],[],[(0, .row qg 118)]⟩)]}
def A2f:An:= {join:= [(12,⟨[0,1,6,8],[0],[(9,false,vU)],[],[]⟩),(17,⟨[0,1,6,8,9],[0],[(7,false,vU),(10,false,vU)],[],[]⟩)],loop:= [(7,⟨[0,1,6],[],[(7,false,vU),(8,false,vI)],[],[(0, .row qg 118)]⟩)]}
def VO:An:= {loop:= [(7,⟨[0,1],[],[(5,false,vI)],[],[]⟩)],plan:= [(9,[3,7],[],true, .done),(11,[3,7],[],true, .done)]}
def A2e:An:= {loop:= [(7,⟨[0,1,5,6],[],[(7,false,vU),(8,false,vI)],[],[(0, .row qg 118)]⟩),(3,⟨[0,1,5],[],[(6,false,vI)],[],[(0, .row qg 118)]⟩)],plan:= [(9,[6,11,16],[],true, .done)]}
def cA:An:= {loop:= [(6,⟨[0],[],[(4,false,vU),(5,false,vI)],[],[]⟩)]}
def RA(x:Ql):Prop:=let f:=(1:Int);let c:=(x.1.length:Int);let a:=(0:Int);let g:=a.toNat;∃(I:E3->Prop),∃(b: _->Nat),I (c,())/\∀(p:E3),let e:=p.1.toNat;let d:=(i64.wrap (p.1-f),());let h:=(decide (gx a x.1 (i64.wrap (p.1-f))=a));(Ty.int i64).wf p.1/\True->I p->(decide (a<p.1)=true->a<=i64.wrap (p.1-f)/\i64.wrap (p.1-f)<c)/\(iB (G6 (decide (a<p.1)) h false) (I d/\b d<b p) ((a<=a/\a<=p.1/\p.1<=c)/\(((0:Nat)+(List.drop g (List.take e x.1)).length)*(4:Nat)<=(140737488355328:Nat)/\(0:Nat)+(List.drop g (List.take e x.1)).length<=9223372036854775807)/\List.drop g (List.take e x.1)=nc (nv x.1)))
def MF(x:Gd):Prop:=let f:Prop:=(x.1=x.2.1);let e:=(0:Int);let b:=(x.2.1.length:Int);let a:=(x.1.length:Int);(iB (decide (a≠b)) (false=decide f) (∃(I:E3->Prop),∃(c: _->Nat),I (e,())/\∀(p:E3),let d:=(i64.wrap (p.1+1),());let g:Prop:=(gx e x.1 p.1≠gx e x.2.1 p.1);(Ty.int i64).wf p.1/\True->I p->(iB (decide (p.1<a)) ((e<=p.1/\p.1<a)/\(e<=p.1/\p.1<b)/\(iB (decide g) (false=decide f) (I d/\c d<c p))) (true=decide f))))
def Pj(x:E3):Prop:=let a:=((32:Int).toNat);(0:(Ty.int u64).den)<=(32:Int)/\Hm [u32.wrap x.1,u32.wrap (Int.fdiv x.1 ((2:Int)^Min.min a u64.bits))]/\Q8 λr=>r.1=nc (nv [u32.wrap x.1,u32.wrap (Int.fdiv x.1 ((2:Int)^Min.min a u64.bits))])->r.1=nc x.1.toNat
def aC(x:Gd):Prop:=let f:=(1:Int);let e:=(0:Int);let b:=(x.1.length:Int);let a:=(x.2.1.length:Int);(e<=i64.wrap (Max.max b a+f)/\i64.wrap (Max.max b a+f)<=i64.wrap (Max.max b a+f)/\(↑(4:Nat):Int)*i64.wrap (Max.max b a+f)<=(281474976710656:Int)/\i64.wrap (Max.max b a+f)<=(9223372036854775807:Int))/\∃(I:Tj->Prop),∃(i: _->Nat),I (e,e,List.replicate (i64.wrap (Max.max b a+f)).toNat e,())/\∀(p:Tj),let d:=(p.2.2.1.length:Int);(Ty.int u64).wf p.1/\(Ty.int i64).wf p.2.1/\Hn p.2.2.1/\True->I p->(iB (decide (p.2.1<d)) (∃(J:E3->Prop),((iB (decide (p.2.1<b)) ((e<=p.2.1/\p.2.1<b)/\J (u64.wrap (p.1+u64.wrap (gx e x.1 p.2.1)),())) (J (p.1,()))))/\∀(g:E3),(Ty.int u64).wf g.1/\True->J g->∃(J:E3->Prop),((iB (decide (p.2.1<a)) ((e<=p.2.1/\p.2.1<a)/\J (u64.wrap (g.1+u64.wrap (gx e x.2.1 p.2.1)),())) (J g)))/\∀(h:E3),let c:=(Int.fdiv h.1 ((2:Int)^Min.min ((32:Int).toNat) u64.bits),i64.wrap (p.2.1+f),List.set p.2.2.1 p.2.1.toNat (u32.wrap h.1),());(Ty.int u64).wf h.1/\True->J h->(e<=p.2.1/\p.2.1<d)/\(0:(Ty.int u64).den)<=(32:Int)/\I c/\i c<i p) (Hm p.2.2.1/\Q8 λr=>r.1=nc (nv p.2.2.1)->r.1=nc (nv x.1+nv x.2.1)))
def aI(x:Gd):Prop:=let f:=(nv x.1-nv x.2.1);let c:=(0:Int);(M9 x.1/\M9 x.2.1)/\Dx λr=>r.1=Cp (nv x.1) (nv x.2.1)->(iB (decide (r.1<c)) ((nv x.1<nv x.2.1->Ef Int= []/\false=false)/\(nv x.2.1<=nv x.1->Ef Int=nc f/\false=true)) (Hm x.1/\Q8 λr=>let a:=(r.1.length:Int);r.1=nc (nv x.1)->Hm x.2.1/\Q8 λj=>let e:=(j.1.length:Int);j.1=nc (nv x.2.1)->(c<=a/\a<=a/\(↑(4:Nat):Int)*a<=(281474976710656:Int)/\a<=(9223372036854775807:Int))/\∃(I:Tj->Prop),∃(g: _->Nat),I (c,c,List.replicate a.toNat c,())/\∀(p:Tj),let d:=(gx c r.1 p.2.1);(Ty.int u64).wf p.1/\(Ty.int i64).wf p.2.1/\Hn p.2.2.1/\True->I p->(iB (decide (p.2.1<a)) (∃(J:E3->Prop),((iB (decide (p.2.1<e)) ((c<=p.2.1/\p.2.1<e)/\J (u64.wrap (p.1+u64.wrap (gx c j.1 p.2.1)),())) (J (p.1,()))))/\∀(i:E3),let k:Prop:=(u64.wrap d<i.1);(Ty.int u64).wf i.1/\True->J i->(c<=p.2.1/\p.2.1<a)/\∃(J:Ee->Prop),((iB (decide k) (J ((1:Int),u64.wrap (u64.wrap d+(4294967296:Int)),())) (J (c,u64.wrap d,()))))/\∀(h:Ee),let b:=(h.1,i64.wrap (p.2.1+1),List.set p.2.2.1 p.2.1.toNat (u32.wrap (u64.wrap (h.2.1-i.1))),());(Ty.int u64).wf h.1/\(Ty.int u64).wf h.2.1/\True->J h->(c<=p.2.1/\p.2.1<(p.2.2.1.length:Int))/\I b/\g b<g p) (Hm p.2.2.1/\Q8 λr=>r.1=nc (nv p.2.2.1)->(nv x.1<nv x.2.1->r.1= []/\true=false)/\(nv x.2.1<=nv x.1->r.1=nc f/\true=true)))))
def BK(x:Gd):Prop:=let i:=(1:Int);let e:=(nv x.1);let d:=(nv x.2.1);let c:=(0:Int);Hm x.1/\Q8 λr=>let a:=(r.1.length:Int);r.1=nc e->Hm x.2.1/\Q8 λj=>let b:=(j.1.length:Int);j.1=nc d->(iB (decide (a≠b)) ((iB (decide (a<b)) ((-1:Int)=Cp e d) (i=Cp e d))) (∃(I:E3->Prop),∃(g: _->Nat),I (i64.wrap (a-i),())/\∀(p:E3),let k:Prop:=(gx c j.1 p.1<gx c r.1 p.1);let h:Prop:=(gx c r.1 p.1<gx c j.1 p.1);let f:=(i64.wrap (p.1-i),());(Ty.int i64).wf p.1/\True->I p->(iB (decide (c<=p.1)) ((c<=p.1/\p.1<a)/\(c<=p.1/\p.1<b)/\(iB (decide h) ((-1:Int)=Cp e d) ((c<=p.1/\p.1<a)/\(c<=p.1/\p.1<b)/\(iB (decide k) (i=Cp e d) (I f/\g f<g p))))) (c=Cp e d))))
def aH(x:Gd):Prop:=let i:=(0:Int);let g:=(x.1.length:Int);let e:=(x.2.1.length:Int);(i<=i64.wrap (g+e)/\i64.wrap (g+e)<=i64.wrap (g+e)/\(↑(4:Nat):Int)*i64.wrap (g+e)<=(281474976710656:Int)/\i64.wrap (g+e)<=(9223372036854775807:Int))/\∃(I:ZT->Prop),∃(n: _->Nat),I (i,List.replicate (i64.wrap (g+e)).toNat i,())/\∀(p:ZT),let c:Prop:=(p.1<g);(Ty.int i64).wf p.1/\Hn p.2.1/\True->I p->(iB (decide c) (∃(I_1:Tj->Prop),∃(g: _->Nat),I_1 (i,i,p.2.1,())/\∀(l:Tj),let k:=(l.2.2.1.length:Int);let j:=(i64.wrap (p.1+l.2.1));let h:=(i64.wrap (p.1+1),List.set l.2.2.1 (i64.wrap (p.1+e)).toNat (u32.wrap l.1),());let d:=(u64.wrap (l.1+u64.wrap (u64.wrap (List.getD l.2.2.1 j.toNat i)+u64.wrap (u64.wrap (gx i x.1 p.1)*u64.wrap (gx i x.2.1 l.2.1)))));let f:=(d.fdiv ((2:Int)^Min.min ((32:Int).toNat) u64.bits),i64.wrap (l.2.1+1),List.set l.2.2.1 j.toNat (u32.wrap d),());let b:Prop:=(l.2.1<e);let a:Prop:=(i<=i64.wrap (p.1+l.2.1)/\i64.wrap (p.1+l.2.1)<k);(Ty.int u64).wf l.1/\(Ty.int i64).wf l.2.1/\Hn l.2.2.1/\True->I_1 l->(iB (decide b) (a/\(i<=p.1/\c)/\(i<=l.2.1/\b)/\a/\(0:(Ty.int u64).den)<=(32:Int)/\I_1 f/\g f<g l) ((i<=i64.wrap (p.1+e)/\i64.wrap (p.1+e)<k)/\I h/\n h<n p))) (Hm p.2.1/\Q8 λr=>r.1=nc (nv p.2.1)->r.1=nc (nv x.1*nv x.2.1)))
def GE(x:Ql):Prop:=let d:=(0:Int);let c:=(18446744073709551616:Nat);Hm x.1/\Q8 λr=>let b:=(r.1.length:Int);r.1=nc (nv x.1)->(iB (decide ((2:Int)<b)) ((nv x.1<c->d=(↑(nv x.1):Int)/\false=true)/\(c<=nv x.1->false=false)) (∃(I:Ee->Prop),∃(f: _->Nat),I (d,i64.wrap (b-(1:Int)),())/\∀(p:Ee),let a:=(u64.wrap (↑(BitVec.ofInt u64.bits (u64.wrap (p.1*2^Min.min ((32:Int).toNat) u64.bits)) |||BitVec.ofInt u64.bits (u64.wrap (gx d r.1 p.2.1))).toNat:Int),i64.wrap (p.2.1-1),());(Ty.int u64).wf p.1/\(Ty.int i64).wf p.2.1/\True->I p->(iB (decide (d<=p.2.1)) ((0:(Ty.int u64).den)<=(32:Int)/\(d<=p.2.1/\p.2.1<b)/\I a/\f a<f p) ((nv x.1<c->p.1=(↑(nv x.1):Int)/\true=true)/\(c<=nv x.1->true=false)))))
end Go.Proofs.YtcbjamefalhfgaaGreat
