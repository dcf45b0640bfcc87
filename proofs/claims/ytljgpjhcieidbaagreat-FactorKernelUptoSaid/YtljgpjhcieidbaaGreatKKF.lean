/- Part. -/
import Derived.Test.YtljgpjhcieidbaaGreatRows
import Derived.Test.YtljgpjhcieidbaaGreatKKE
set_option linter.all false
namespace Go.Proofs.YtljgpjhcieidbaaGreat
open Go.Proofs.Tryz
open Go.Vc Go.Gw
open Go.IntKind (i64 u64 u32)
abbrev O4 (a:Int):Prop:=i64.min<=a/\a<=i64.max
abbrev HR (a:Int):Prop:=u64.min<=a/\a<=u64.max
abbrev Gr (l:Wf):Prop:=List.length l<=(9223372036854775807:Nat)/\∀(x:Int),x∈l->u32.min<=x/\x<=u32.max
abbrev PW (l:Wf):Prop:=List.length l<=(9223372036854775807:Nat)/\∀(x:Int),x∈l->i64.min<=x/\x<=i64.max
abbrev jB (z:Bool×Wf):Prop:=True/\Gr z.2
abbrev HO (q:(Bool×Wf)×Wf):Prop:=jB q.1/\Gr q.2
abbrev WfE (e:Int×(Bool×Wf)×Wf):Prop:=O4 e.1/\jB e.2.1/\Gr e.2.2
abbrev Mk (l:List (Int×(Bool×Wf)×Wf)):Prop:=List.length l<=(9223372036854775807:Nat)/\∀(x:Int×(Bool×Wf)×Wf),x∈l->WfE x
abbrev QQ:=(Bool×Wf)×Wf
abbrev EE:=Int×(Bool×Wf)×Wf
abbrev dQ:QQ:=((false,[]),[])
abbrev D5:EE:=((0:Int),(false,[]),[])
abbrev MM:=Int×Int×List (List EE)
abbrev jM (l:List QQ):Prop:=List.length l<=9223372036854775807/\∀(x:QQ),x∈l->HO x
abbrev PX (l:List (List QQ)):Prop:=List.length l<=9223372036854775807/\∀(x:List QQ),x∈l->x.length<=9223372036854775807/\∀(y:QQ),y∈x->HO y
abbrev ET (l:List (List EE)):Prop:=List.length l<=9223372036854775807/\∀(x:List EE),x∈l->x.length<=9223372036854775807/\∀(y:EE),y∈x->WfE y
abbrev WfM (m:MM):Prop:=O4 m.1/\O4 m.2.1/\ET m.2.2
abbrev tQ:Ty:=(.pair (.pair .bool (.sl (.int .u32))) (.sl (.int .u32)))
abbrev tE:Ty:=(.pair (.int .i64) tQ)
abbrev tM:Ty:=(.pair (.int .i64) (.pair (.int .i64) (.sl (.sl tE))))
def tys:List (Nat×TI):= [(2,{ty:=(.int .i64),agg:=false}),
 (3,{ty:=(.int .i64),agg:=false}),
 (4,{ty:= .bool,agg:=false}),
 (5,{ty:=(.int .u8),agg:=false}),
 (9,{ty:= .str,agg:=false}),
 (22,{ty:=(.sl (.sl tE)),agg:=false,elem:=67,bytes:=24}),
 (24,{ty:=tM,agg:=true,fields:= [(0,1,false),(1,1,false),(2,1,false)]}),
 (25,{ty:=(.sl (.int .i64)),agg:=false,elem:=3,bytes:=8}),
 (27,{ty:=(.sl (.int .u32)),agg:=false,elem:=116,bytes:=4}),
 (29,{ty:=(.pair .bool (.sl (.int .u32))),agg:=true,fields:= [(0,1,false),(1,1,false)]}),
 (31,{ty:=tQ,agg:=true,fields:= [(0,2,true),(2,1,false)]}),
 (53,{ty:=(.pair (.sl (.int .i64)) (.pair (.sl (.int .i64)) (.pair tM tM))),agg:=true,fields:= [(0,1,false),(1,1,false),(2,3,true),(5,3,true)]}),
 (56,{ty:=(.sl tQ),agg:=false,elem:=31,bytes:=56}),
 (61,{ty:=(.sl tM),agg:=false,elem:=24,bytes:=40}),
 (67,{ty:=(.sl tE),agg:=false,elem:=70,bytes:=64}),
 (70,{ty:=tE,agg:=true,fields:= [(0,1,false),(1,3,true)]}),
 (73,{ty:=(.sl (.sl tQ)),agg:=false,elem:=56,bytes:=24}),
 (81,{ty:=(.pair (.sl (.int .i64)) (.int .i64)),agg:=true,fields:= [(0,1,false),(1,1,false)]}),
 (88,{ty:=(.mp false (.int .i64) false (.sl tE)),agg:=false,elem:=67,key:=3}),
 (93,{ty:=(.ptr (.pair (.sl (.sl tE)) (.pair (.sl (.sl tE)) (.pair (.sl (.mp false (.int .i64) false .bool)) (.sl (.int .i64)))))),agg:=false}),
 (98,{ty:=(.sl (.mp false (.int .i64) false .bool)),agg:=false,elem:=134,bytes:=8}),
 (100,{ty:=(.pair (.sl (.sl tE)) (.pair (.sl (.sl tE)) (.pair (.sl (.mp false (.int .i64) false .bool)) (.sl (.int .i64))))),agg:=true,fields:= [(0,1,false),(1,1,false),(2,1,false),(3,1,false)]}),
 (116,{ty:=(.int .u32),agg:=false}),
 (124,{ty:=(.sl .bool),agg:=false,elem:=4,bytes:=1}),
 (127,{ty:=(.sl (.sl (.int .i64))),agg:=false,elem:=25,bytes:=24}),
 (133,{ty:=(.int .u64),agg:=false}),
 (134,{ty:=(.mp false (.int .i64) false .bool),agg:=false,elem:=4,key:=3}),
 (154,{ty:=(.int .u64),agg:=false}),
 (166,{ty:=(.mp false (.int .i64) false (.sl (.int .i64))),agg:=false,elem:=25,key:=3}),
 (171,{ty:=(.pair (.int .u64) (.pair (.int .u64) (.pair (.int .u64) (.pair (.int .u64) .bool)))),agg:=true,fields:= [(0,1,false),(1,1,false),(2,1,false),(3,1,false),(4,1,false)]})]
def A6:G6 prog tys=true:=by kernel_rfl
def A2f:List (Nat×TI):= [(2,{ty:=(.int .i64),agg:=false}),
 (3,{ty:=(.int .i64),agg:=false}),
 (4,{ty:= .bool,agg:=false}),
 (5,{ty:=(.int .u8),agg:=false}),
 (9,{ty:= .str,agg:=false}),
 (22,{ty:=(.sl (.sl tE)),agg:=false,elem:=67,bytes:=24,rows:=true}),
 (24,{ty:=tM,agg:=true,fields:= [(0,1,false),(1,1,false),(2,1,false)]}),
 (25,{ty:=(.sl (.int .i64)),agg:=false,elem:=3,bytes:=8}),
 (27,{ty:=(.sl (.int .u32)),agg:=false,elem:=116,bytes:=4}),
 (29,{ty:=(.pair .bool (.sl (.int .u32))),agg:=true,fields:= [(0,1,false),(1,1,false)]}),
 (31,{ty:=tQ,agg:=true,fields:= [(0,2,true),(2,1,false)]}),
 (53,{ty:=(.pair (.sl (.int .i64)) (.pair (.sl (.int .i64)) (.pair tM tM))),agg:=true,fields:= [(0,1,false),(1,1,false),(2,3,true),(5,3,true)]}),
 (56,{ty:=(.sl tQ),agg:=false,elem:=31,bytes:=56}),
 (61,{ty:=(.sl tM),agg:=false,elem:=24,bytes:=40}),
 (67,{ty:=(.sl tE),agg:=false,elem:=70,bytes:=64}),
 (70,{ty:=tE,agg:=true,fields:= [(0,1,false),(1,3,true)]}),
 (73,{ty:=(.sl (.sl tQ)),agg:=false,elem:=56,bytes:=24,rows:=true}),
 (81,{ty:=(.pair (.sl (.int .i64)) (.int .i64)),agg:=true,fields:= [(0,1,false),(1,1,false)]}),
 (88,{ty:=(.mp false (.int .i64) false (.sl tE)),agg:=false,elem:=67,key:=3}),
 (93,{ty:=(.ptr (.pair (.sl (.sl tE)) (.pair (.sl (.sl tE)) (.pair (.sl (.mp false (.int .i64) false .bool)) (.sl (.int .i64)))))),agg:=false}),
 (98,{ty:=(.sl (.mp false (.int .i64) false .bool)),agg:=false,elem:=134,bytes:=8}),
 (100,{ty:=(.pair (.sl (.sl tE)) (.pair (.sl (.sl tE)) (.pair (.sl (.mp false (.int .i64) false .bool)) (.sl (.int .i64))))),agg:=true,fields:= [(0,1,false),(1,1,false),(2,1,false),(3,1,false)]}),
 (116,{ty:=(.int .u32),agg:=false}),
 (124,{ty:=(.sl .bool),agg:=false,elem:=4,bytes:=1}),
 (127,{ty:=(.sl (.sl (.int .i64))),agg:=false,elem:=25,bytes:=24}),
 (133,{ty:=(.int .u64),agg:=false}),
 (134,{ty:=(.mp false (.int .i64) false .bool),agg:=false,elem:=4,key:=3}),
 (154,{ty:=(.int .u64),agg:=false}),
 (166,{ty:=(.mp false (.int .i64) false (.sl (.int .i64))),agg:=false,elem:=25,key:=3,rows:=true}),
 (171,{ty:=(.pair (.int .u64) (.pair (.int .u64) (.pair (.int .u64) (.pair (.int .u64) .bool)))),agg:=true,fields:= [(0,1,false),(1,1,false),(2,1,false),(3,1,false),(4,1,false)]})]
def BS:G6 prog A2f=true:=by kernel_rfl
def RX:List (Nat×TI):= [(2,{ty:=(.int .i64),agg:=false}),
 (3,{ty:=(.int .i64),agg:=false}),
 (4,{ty:= .bool,agg:=false}),
 (5,{ty:=(.int .u8),agg:=false}),
 (9,{ty:= .str,agg:=false}),
 (22,{ty:=(.sl (.sl tE)),agg:=false,elem:=67,bytes:=24,nest:= [14]}),
 (24,{ty:=tM,agg:=true,fields:= [(0,1,false),(1,1,false),(2,1,false)]}),
 (25,{ty:=(.sl (.int .i64)),agg:=false,elem:=3,bytes:=8}),
 (27,{ty:=(.sl (.int .u32)),agg:=false,elem:=116,bytes:=4}),
 (29,{ty:=(.pair .bool (.sl (.int .u32))),agg:=true,fields:= [(0,1,false),(1,1,false)]}),
 (31,{ty:=tQ,agg:=true,fields:= [(0,2,true),(2,1,false)]}),
 (53,{ty:=(.pair (.sl (.int .i64)) (.pair (.sl (.int .i64)) (.pair tM tM))),agg:=true,fields:= [(0,1,false),(1,1,false),(2,3,true),(5,3,true)]}),
 (56,{ty:=(.sl tQ),agg:=false,elem:=31,bytes:=56}),
 (61,{ty:=(.sl tM),agg:=false,elem:=24,bytes:=40}),
 (67,{ty:=(.sl tE),agg:=false,elem:=70,bytes:=64}),
 (70,{ty:=tE,agg:=true,fields:= [(0,1,false),(1,3,true)]}),
 (73,{ty:=(.sl (.sl tQ)),agg:=false,elem:=56,bytes:=24}),
 (81,{ty:=(.pair (.sl (.int .i64)) (.int .i64)),agg:=true,fields:= [(0,1,false),(1,1,false)]}),
 (88,{ty:=(.mp false (.int .i64) false (.sl tE)),agg:=false,elem:=67,key:=3}),
 (93,{ty:=(.ptr (.pair (.sl (.sl tE)) (.pair (.sl (.sl tE)) (.pair (.sl (.mp false (.int .i64) false .bool)) (.sl (.int .i64)))))),agg:=false}),
 (98,{ty:=(.sl (.mp false (.int .i64) false .bool)),agg:=false,elem:=134,bytes:=8,nest:= [17]}),
 (100,{ty:=(.pair (.sl (.sl tE)) (.pair (.sl (.sl tE)) (.pair (.sl (.mp false (.int .i64) false .bool)) (.sl (.int .i64))))),agg:=true,fields:= [(0,1,false),(1,1,false),(2,1,false),(3,1,false)]}),
 (116,{ty:=(.int .u32),agg:=false}),
 (124,{ty:=(.sl .bool),agg:=false,elem:=4,bytes:=1}),
 (127,{ty:=(.sl (.sl (.int .i64))),agg:=false,elem:=25,bytes:=24}),
 (133,{ty:=(.int .u64),agg:=false}),
 (134,{ty:=(.mp false (.int .i64) false .bool),agg:=false,elem:=4,key:=3,nest:= [44,66]}),
 (154,{ty:=(.int .u64),agg:=false}),
 (166,{ty:=(.mp false (.int .i64) false (.sl (.int .i64))),agg:=false,elem:=25,key:=3}),
 (171,{ty:=(.pair (.int .u64) (.pair (.int .u64) (.pair (.int .u64) (.pair (.int .u64) .bool)))),agg:=true,fields:= [(0,1,false),(1,1,false),(2,1,false),(3,1,false),(4,1,false)]})]
def BR:G6 prog RX=true:=by kernel_rfl
abbrev Aj:=Bool×Unit
abbrev J8:=QQ×QQ×Unit
def Il:A9:= {args:= [.val true tQ, .val true tQ],res:= [.val false .bool],shared:=false,pre:=fun(x:J8)=>True,post:=fun(x:J8) (r:Aj)=>r.1=decide (x.1=x.2.1)}
abbrev U8 (a:List AM) (r:List RT) (p:A4 a->Prop) (q:A4 a->Aq r->Prop):A9:= {args:=a,res:=r,shared:=true,pre:=p,post:=q}
abbrev mkM (a:List AM) (r:List RT) (p:A4 a->Prop) (q:A4 a->Aq r->Prop) (m:A4 a->Aq r->Mn a->Prop):A9:= {args:=a,res:=r,shared:=true,pre:=p,post:=q,mpost:=m}
abbrev C9:=QQ×Unit
def Rl:A9:=U8 [.val true tQ, .val true tQ] [.val true tQ] (fun(x:J8)=>G3 x.1/\G3 x.2.1) (fun(x:J8) (r:C9)=>r.1=rc (rv x.1*rv x.2.1))
abbrev D6:=Int×Unit
def Lp:A9:= {args:= [.val true tQ],res:= [.val false (.int .i64)],shared:=false,pre:=fun(x:C9)=>G3 x.1,post:=fun(x:C9) (r:D6)=>r.1=(rv x.1).num.sign}
def Ke:A9:=U8 [.val true tQ, .val true tQ] [.val true tQ] (fun(x:J8)=>G3 x.1/\G3 x.2.1) (fun(x:J8) (r:C9)=>r.1=rc (rv x.1+rv x.2.1))
def L3:A9:=U8 [.val false (.int .i64)] [.val true tQ] (fun(x:D6)=>True) (fun(x:D6) (r:C9)=>r.1=ri x.1)
def Y6:A9:=U8 [.val true tQ, .val true tQ] [.val true tQ] (fun(x:J8)=>G3 x.1/\G3 x.2.1) (fun(x:J8) (r:C9)=>r.1=rc (rv x.1*rv x.2.1))
def Q5:A9:=U8 [.val true tQ] [.val true tQ] (fun(x:C9)=>G3 x.1) (fun(x:C9) (r:C9)=>r.1=rc (-(rv x.1)))
def Lq:A9:=U8 [] [.val true tQ] (fun(x:Unit)=>True) (fun(x:Unit) (r:C9)=>r.1=rc 0)
def Bd:A9:=U8 [.val false (.int .i64)] [.val true tQ] (fun(x:D6)=>True) (fun(x:D6) (r:C9)=>r.1=ri x.1)
abbrev eH:=(Bool×Wf)×(Bool×Wf)×Unit
def Ij:A9:= {args:= [.val true (.pair .bool (.sl (.int .u32))), .val true (.pair .bool (.sl (.int .u32)))],res:= [.val false .bool],shared:=false,pre:=fun(x:eH)=>True,post:=fun(x:eH) (r:Aj)=>r.1=decide (x.1=x.2.1)}
abbrev Cz:=Wf×Wf×Unit
def Ii:A9:= {args:= [.val false (.sl (.int .u32)), .val false (.sl (.int .u32))],res:= [.val false .bool],shared:=false,pre:=fun(x:Cz)=>True,post:=fun(x:Cz) (r:Aj)=>r.1=decide (x.1=x.2.1)}
def Li:A9:=U8 [.val true (.pair .bool (.sl (.int .u32))), .val true (.pair .bool (.sl (.int .u32)))] [.val true tQ] (fun(x:eH)=>En x.1.2/\En x.2.1.2) (fun(x:eH) (r:C9)=>r.1=rc (Js x.1 x.2.1))
abbrev HQ:=(Bool×Wf)×Unit
def Re:A9:=U8 [.val true (.pair .bool (.sl (.int .u32))), .val true (.pair .bool (.sl (.int .u32)))] [.val true (.pair .bool (.sl (.int .u32)))] (fun(x:eH)=>K5 x.1.2/\K5 x.2.1.2) (fun(x:eH) (r:HQ)=>r.1=ic (iv x.1*iv x.2.1))
def Lj:A9:=U8 [.val true tQ] [.val true tQ] (fun(x:C9)=>G3 x.1) (fun(x:C9) (r:C9)=>r.1=rc (rv x.1))
def Ro:A9:=U8 [.val true tQ] [.val true (.pair .bool (.sl (.int .u32)))] (fun(x:C9)=>G3 x.1) (fun(x:C9) (r:HQ)=>r.1=ic ((rv x.1).den:Int))
def Lh:A9:= {args:= [.val true (.pair .bool (.sl (.int .u32)))],res:= [.val false (.int .i64)],shared:=false,pre:=fun(x:HQ)=>Gq x.1.2,post:=fun(x:HQ) (r:D6)=>r.1=(iv x.1).sign}
def Rb:A9:=U8 [.val true (.pair .bool (.sl (.int .u32))), .val true (.pair .bool (.sl (.int .u32)))] [.val true (.pair .bool (.sl (.int .u32)))] (fun(x:eH)=>K5 x.1.2/\K5 x.2.1.2) (fun(x:eH) (r:HQ)=>r.1=ic (iv x.1+iv x.2.1))
abbrev KD:=QQ×Bool×Unit
def U2:A9:=U8 [.val true tQ, .val true tQ] [.val true tQ, .val false .bool] (fun(x:J8)=>G3 x.1/\G3 x.2.1) (fun(x:J8) (r:KD)=>(rv x.2.1=0->r.2.1=false)/\(rv x.2.1≠0->r.1=rc (rv x.1/rv x.2.1)/\r.2.1=true))
def Aw:A9:= {args:= [.val true tQ],res:= [.val false .bool],shared:=false,pre:=fun(x:C9)=>G3 x.1,post:=fun(x:C9) (r:Aj)=>r.1=decide (x.1=rc (rv x.1))}
def W2:A9:=U8 [.val false (.int .i64)] [.val true (.pair .bool (.sl (.int .u32)))] (fun(x:D6)=>True) (fun(x:D6) (r:HQ)=>r.1=ic x.1)
abbrev oJ:=Int×Int×Bool×Unit
def Y8:A9:= {args:= [.val true tQ],res:= [.val false (.int .i64), .val false (.int .i64), .val false .bool],shared:=false,pre:=fun(x:C9)=>True,post:=fun(x:C9) (r:oJ)=>(J5 x.1->r.1=Qf x.1/\r.2.1=Mm x.1/\r.2.2.1=true)/\(¬J5 x.1->r.2.2.1=false)}
abbrev Dh:=Int×Int×Unit
def S0:A9:=U8 [.val false (.int .i64), .val false (.int .i64)] [.val true tQ] (fun(x:Dh)=>0<x.2.1) (fun(x:Dh) (r:C9)=>r.1=rc (mkRat x.1 x.2.1.toNat))
abbrev ty6:=(Bool×Wf)×Wf×Unit
def Y7:A9:=U8 [.val true tQ] [.val true (.pair .bool (.sl (.int .u32))), .val false (.sl (.int .u32))] (fun(x:C9)=>True) (fun(x:C9) (r:ty6)=>(nv x.1.2=0->r.1=zi/\r.2.1= [1])/\(nv x.1.2≠0->r.1=x.1.1/\r.2.1=x.1.2))
def W7:A9:=U8 [.val true (.pair .bool (.sl (.int .u32))), .val false (.sl (.int .u32))] [.val true tQ] (fun(x:ty6)=>nv x.2.1≠0/\En x.1.2/\En x.2.1) (fun(x:ty6) (r:C9)=>r.1=rc (mkRat (iv x.1) (nv x.2.1)))
def Dq:A9:=U8 [.val true (.pair .bool (.sl (.int .u32))), .val true (.pair .bool (.sl (.int .u32)))] [.val true (.pair .bool (.sl (.int .u32)))] (fun(x:eH)=>K5 x.1.2/\K5 x.2.1.2) (fun(x:eH) (r:HQ)=>r.1=ic (iv x.1*iv x.2.1))
abbrev Da:=Wf×Unit
def Dx:A9:=U8 [.val false (.sl (.int .u32)), .val false (.sl (.int .u32))] [.val false (.sl (.int .u32))] (fun(x:Cz)=>K5 x.1/\K5 x.2.1) (fun(x:Cz) (r:Da)=>r.1=nc (nv x.1*nv x.2.1))
def R4:A9:=U8 [.val true tQ] [.val true tQ] (fun(x:C9)=>G3 x.1) (fun(x:C9) (r:C9)=>r.1=rc (rv x.1))
def Dr:A9:=U8 [.val true (.pair .bool (.sl (.int .u32)))] [.val true (.pair .bool (.sl (.int .u32)))] (fun(x:HQ)=>Gq x.1.2) (fun(x:HQ) (r:HQ)=>r.1=ic (-iv x.1))
def Lk:A9:=U8 [.val true tQ, .val true tQ] [.val true tQ] (fun(x:J8)=>G3 x.1/\G3 x.2.1) (fun(x:J8) (r:C9)=>rv x.2.1≠0->r.1=rc (rv x.1/rv x.2.1))
def Rn:A9:=U8 [.val true tQ, .val true tQ] [.val true tQ] (fun(x:J8)=>G3 x.1/\G3 x.2.1) (fun(x:J8) (r:C9)=>r.1=rc (rv x.1-rv x.2.1))
def Ea:A9:=U8 [.val false (.int .i64)] [.val true (.pair .bool (.sl (.int .u32)))] (fun(x:D6)=>True) (fun(x:D6) (r:HQ)=>r.1=ic x.1)
def Yr:A9:=U8 [.val false (.int .i64), .val false (.int .i64)] [.val true tQ] (fun(x:Dh)=>True) (fun(x:Dh) (r:C9)=>r.1=rc (Rat.divInt x.1 x.2.1))
def Lg:A9:=U8 [.val true (.pair .bool (.sl (.int .u32)))] [.val true (.pair .bool (.sl (.int .u32)))] (fun(x:HQ)=>Gq x.1.2) (fun(x:HQ) (r:HQ)=>r.1=ic (iv x.1))
def Rc:A9:=U8 [.val true (.pair .bool (.sl (.int .u32))), .val true (.pair .bool (.sl (.int .u32)))] [.val true (.pair .bool (.sl (.int .u32)))] (fun(x:eH)=>En x.1.2/\En x.2.1.2) (fun(x:eH) (r:HQ)=>r.1=ic (Nat.gcd (nv x.1.2) (nv x.2.1.2):Int))
def Gg:A9:=U8 [.val true (.pair .bool (.sl (.int .u32))), .val true (.pair .bool (.sl (.int .u32)))] [.val true (.pair .bool (.sl (.int .u32))), .val true (.pair .bool (.sl (.int .u32))), .val false .bool] (fun(x:eH)=>En x.1.2/\En x.2.1.2) (fun(x:eH) (r:(Bool×Wf)×(Bool×Wf)×Bool×Unit)=>iv x.2.1≠0->r.1=ic (iv x.1/iv x.2.1)/\r.2.1=ic (iv x.1%iv x.2.1)/\r.2.2.1=true)
def Rf:A9:=U8 [.val true (.pair .bool (.sl (.int .u32)))] [.val true (.pair .bool (.sl (.int .u32)))] (fun(x:HQ)=>Gq x.1.2) (fun(x:HQ) (r:HQ)=>r.1=ic (-iv x.1))
abbrev B7d:=Bool×Wf×Unit
def Lf:A9:=U8 [.val false .bool, .val false (.sl (.int .u32))] [.val true (.pair .bool (.sl (.int .u32)))] (fun(x:B7d)=>Gq x.2.1) (fun(x:B7d) (r:HQ)=>r.1=ic (iv (x.1,x.2.1)))
def Qx:A9:=U8 [.val false (.sl (.int .u32)), .val false (.sl (.int .u32))] [.val false (.sl (.int .u32))] (fun(x:Cz)=>K5 x.1/\K5 x.2.1) (fun(x:Cz) (r:Da)=>r.1=nc (nv x.1*nv x.2.1))
def Y5:A9:=U8 [.val true tQ] [.val true tQ, .val false .bool] (fun(x:C9)=>G3 x.1) (fun(x:C9) (r:KD)=>(rv x.1=0->r.2.1=false)/\(rv x.1≠0->r.1=rc (rv x.1)⁻¹/\r.2.1=true))
def Qv:A9:=U8 [.val false (.sl (.int .u32)), .val false (.sl (.int .u32))] [.val false (.sl (.int .u32))] (fun(x:Cz)=>K5 x.1/\K5 x.2.1) (fun(x:Cz) (r:Da)=>r.1=nc (nv x.1+nv x.2.1))
abbrev C0w:=Wf×Bool×Unit
def Qy:A9:=U8 [.val false (.sl (.int .u32)), .val false (.sl (.int .u32))] [.val false (.sl (.int .u32)), .val false .bool] (fun(x:Cz)=>K5 x.1/\K5 x.2.1) (fun(x:Cz) (r:C0w)=>(nv x.1<nv x.2.1->r.1= []/\r.2.1=false)/\(nv x.2.1<=nv x.1->r.1=nc (nv x.1-nv x.2.1)/\r.2.1=true))
def Ay:A9:= {args:= [.val true tQ],res:= [.val false (.int .i64)],shared:=false,pre:=fun(x:C9)=>True,post:=fun(x:C9) (r:D6)=>r.1=(rv x.1).num.sign}
def Cl:A9:=U8 [.val true tQ, .val true tQ] [.val true tQ] (fun(x:J8)=>G3 x.1/\G3 x.2.1) (fun(x:J8) (r:C9)=>r.1=rc (rv x.1-rv x.2.1))
def X9:A9:=U8 [.val false .bool, .val false (.sl (.int .u32))] [.val true (.pair .bool (.sl (.int .u32)))] (fun(x:B7d)=>True) (fun(x:B7d) (r:HQ)=>r.1=(x.1&&decide (x.2.1≠ []),x.2.1))
def Q3:A9:=U8 [.val false (.int .u64)] [.val false (.sl (.int .u32))] (fun(x:D6)=>True) (fun(x:D6) (r:Da)=>r.1=nc x.1.toNat)
abbrev A7o:=Int×Bool×Unit
def Y2:A9:= {args:= [.val false (.sl (.int .u32))],res:= [.val false (.int .u64), .val false .bool],shared:=false,pre:=fun(x:Da)=>True,post:=fun(x:Da) (r:A7o)=>(nv x.1<18446744073709551616->r.1=(nv x.1:Int)/\r.2.1=true)/\(18446744073709551616<=nv x.1->r.2.1=false)}
def W3:A9:= {args:= [.val false (.sl (.int .u32)), .val false (.sl (.int .u32))],res:= [.val false (.int .i64)],shared:=false,pre:=fun(x:Cz)=>True,post:=fun(x:Cz) (r:D6)=>r.1=Bv (nv x.1) (nv x.2.1)}
def Ce:A9:=U8 [.val true (.pair .bool (.sl (.int .u32)))] [.val true (.pair .bool (.sl (.int .u32)))] (fun(x:HQ)=>Gq x.1.2) (fun(x:HQ) (r:HQ)=>r.1=ic (iv x.1))
def Cg:A9:=U8 [.val false (.sl (.int .u32))] [.val false (.sl (.int .u32))] (fun(x:Da)=>Gq x.1) (fun(x:Da) (r:Da)=>r.1=nc (nv x.1))
def Dw:A9:=U8 [.val false (.sl (.int .u32)), .val false (.sl (.int .u32))] [.val false (.sl (.int .u32))] (fun(x:Cz)=>En x.1/\En x.2.1) (fun(x:Cz) (r:Da)=>r.1=nc (Nat.gcd (nv x.1) (nv x.2.1)))
abbrev C2y:=Wf×Wf×Bool×Unit
def Y1:A9:=U8 [.val false (.sl (.int .u32)), .val false (.sl (.int .u32))] [.val false (.sl (.int .u32)), .val false (.sl (.int .u32)), .val false .bool] (fun(x:Cz)=>K5 x.1) (fun(x:Cz) (r:C2y)=>(nv x.2.1=0->r.1= []/\r.2.1= []/\r.2.2.1=false)/\(nv x.2.1≠0->r.1=nc (nv x.1/nv x.2.1)/\r.2.1=nc (nv x.1%nv x.2.1)/\r.2.2.1=true))
def Bc:A9:=U8 [.val false (.sl (.int .u32))] [.val false (.sl (.int .u32))] (fun(x:Da)=>True) (fun(x:Da) (r:Da)=>r.1=nc (nv x.1))
def Ri:A9:=U8 [.val true tQ, .val true tQ] [.val true tQ, .val false .bool] (fun(x:J8)=>G3 x.1/\G3 x.2.1) (fun(x:J8) (r:KD)=>(rv x.2.1=0->r.2.1=false)/\(rv x.2.1≠0->r.1=rc (rv x.1/rv x.2.1)/\r.2.1=true))
def Rm:A9:=U8 [.val true tQ] [.val true tQ] (fun(x:C9)=>G3 x.1) (fun(x:C9) (r:C9)=>r.1=rc (-(rv x.1)))
def Y4:A9:=U8 [.val false (.int .u64)] [.val false (.sl (.int .u32))] (fun(x:D6)=>True) (fun(x:D6) (r:Da)=>r.1=nc x.1.toNat)
def Qw:A9:=U8 [.val false (.sl (.int .u32)), .val false (.sl (.int .u32))] [.val false (.sl (.int .u32))] (fun(x:Cz)=>En x.1/\En x.2.1) (fun(x:Cz) (r:Da)=>r.1=nc (Nat.gcd (nv x.1) (nv x.2.1)))
def Ge:A9:=U8 [.val false (.sl (.int .u32)), .val false (.sl (.int .u32))] [.val false (.sl (.int .u32)), .val false (.sl (.int .u32)), .val false .bool] (fun(x:Cz)=>En x.1/\En x.2.1) (fun(x:Cz) (r:C2y)=>(nv x.2.1=0->r.2.2.1=false)/\(nv x.2.1≠0->r.1=nc (nv x.1/nv x.2.1)/\r.2.1=nc (nv x.1%nv x.2.1)/\r.2.2.1=true))
def Ra:A9:=U8 [.val true (.pair .bool (.sl (.int .u32)))] [.val true (.pair .bool (.sl (.int .u32)))] (fun(x:HQ)=>Gq x.1.2) (fun(x:HQ) (r:HQ)=>r.1=ic ((iv x.1).natAbs:Int))
def Rh:A9:=U8 [.val true (.pair .bool (.sl (.int .u32))), .val true (.pair .bool (.sl (.int .u32)))] [.val true (.pair .bool (.sl (.int .u32)))] (fun(x:eH)=>K5 x.1.2/\K5 x.2.1.2) (fun(x:eH) (r:HQ)=>r.1=ic (iv x.1-iv x.2.1))
def Le:A9:=U8 [.val false (.sl (.int .u32))] [.val false (.sl (.int .u32))] (fun(x:Da)=>Gq x.1) (fun(x:Da) (r:Da)=>r.1=nc (nv x.1))
def Ck:A9:=U8 [.val true tQ, .val true tQ] [.val true tQ] (fun(x:J8)=>G3 x.1/\G3 x.2.1) (fun(x:J8) (r:C9)=>r.1=rc (rv x.1+rv x.2.1))
def V9:A9:= {args:= [.val false (.int .i64), .val false (.int .i64)],res:= [.val false (.int .i64)],shared:=false,pre:=fun(x:Dh)=>True,post:=fun(x:Dh) (r:D6)=>r.1=O6 x.1 x.2.1}
def Dz:A9:= {args:= [.val false (.sl (.int .u32)), .val false (.sl (.int .u32))],res:= [.val false (.int .i64)],shared:=false,pre:=fun(x:Cz)=>K5 x.1/\K5 x.2.1,post:=fun(x:Cz) (r:D6)=>r.1=Bv (nv x.1) (nv x.2.1)}
def T9:A9:= {args:= [.val true tQ, .val true tQ],res:= [.val false (.int .i64)],shared:=false,pre:=fun(x:J8)=>G3 x.1/\G3 x.2.1,post:=fun(x:J8) (r:D6)=>r.1=UG (rv x.1) (rv x.2.1)}
def Cf:A9:= {args:= [.val true (.pair .bool (.sl (.int .u32)))],res:= [.val false (.int .i64)],shared:=false,pre:=fun(x:HQ)=>True,post:=fun(x:HQ) (r:D6)=>r.1=(iv x.1).sign}
def Ch:A9:= {args:= [.val false (.sl (.int .u32))],res:= [.val false (.int .u64)],shared:=false,pre:=fun(x:Da)=>x.1.length<=2,post:=fun(x:Da) (r:D6)=>r.1=(nv x.1:Int)}
def W5:A9:= {args:= [.val false (.sl (.int .u32)), .val false (.sl (.int .u32))],res:= [.val true (.pair (.int .u64) (.pair (.int .u64) (.pair (.int .u64) (.pair (.int .u64) .bool))))],shared:=false,pre:=fun(x:Cz)=>K5 x.1/\3<=x.1.length/\Lv x.1/\nv x.2.1<=nv x.1/\x.2.1.length<=x.1.length,post:=fun(x:Cz) (r:(Int×(Int×(Int×(Int×Bool))))×Unit)=>B9r (nv x.1) (nv x.2.1) r.1.1 r.1.2.1 r.1.2.2.1 r.1.2.2.2.1 r.1.2.2.2.2}
abbrev C2z:=Wf×Int×Wf×Int×Unit
def W4:A9:=U8 [.val false (.sl (.int .u32)), .val false (.int .u64), .val false (.sl (.int .u32)), .val false (.int .u64)] [.val false (.sl (.int .u32))] (fun(x:C2z)=>En x.1/\En x.2.2.1/\nv x.2.2.1*x.2.2.2.1.toNat<=nv x.1*x.2.1.toNat) (fun(x:C2z) (r:Da)=>r.1=nc (nv x.1*x.2.1.toNat-nv x.2.2.1*x.2.2.2.1.toNat))
abbrev KB:=Wf×Int×Unit
def N5:A9:=U8 [.val false (.sl (.int .u32)), .val false (.int .u32)] [.val false (.sl (.int .u32)), .val false (.sl (.int .u32))] (fun(x:KB)=>K5 x.1/\x.2.1≠0) (fun(x:KB) (r:Cz)=>r.1=nc (nv x.1/x.2.1.toNat)/\r.2.1=nc (nv x.1%x.2.1.toNat))
def Q4:A9:=U8 [.val false (.sl (.int .u32)), .val false (.sl (.int .u32))] [.val false (.sl (.int .u32)), .val false (.sl (.int .u32))] (fun(x:Cz)=>K5 x.1/\2<=x.2.1.length/\x.2.1.length<=x.1.length/\Lv x.2.1) (fun(x:Cz) (r:Cz)=>r.1=nc (nv x.1/nv x.2.1)/\r.2.1=nc (nv x.1%nv x.2.1))
def Gf:A9:= {args:= [.val false (.sl (.int .u32))],res:= [.val false (.int .u64), .val false .bool],shared:=false,pre:=fun(x:Da)=>Gq x.1,post:=fun(x:Da) (r:A7o)=>(nv x.1<18446744073709551616->r.1=(nv x.1:Int)/\r.2.1=true)/\(18446744073709551616<=nv x.1->r.2.1=false)}
def Ld:A9:= {args:= [.val false (.sl (.int .u32))],res:= [.val false (.int .i64)],shared:=false,pre:=fun(x:Da)=>K5 x.1,post:=fun(x:Da) (r:D6)=>r.1=(K3 (nv x.1):Int)}
def Qz:A9:= {args:= [.val false (.sl (.int .u32)), .val false (.int .i64)],res:= [.val false (.int .u32)],shared:=false,pre:=fun(x:KB)=>0<=x.2.1,post:=fun(x:KB) (r:D6)=>r.1=((nv x.1/2^x.2.1.toNat%2:Nat):Int)}
def Dp:A9:=U8 [.val true (.pair .bool (.sl (.int .u32))), .val true (.pair .bool (.sl (.int .u32)))] [.val true (.pair .bool (.sl (.int .u32)))] (fun(x:eH)=>K5 x.1.2/\K5 x.2.1.2) (fun(x:eH) (r:HQ)=>r.1=ic (iv x.1+iv x.2.1))
def Gb:A9:= {args:= [.val false (.int .u32)],res:= [.val false (.int .i64)],shared:=false,pre:=fun(x:D6)=>True,post:=fun(x:D6) (r:D6)=>r.1=(K3 x.1.toNat:Int)}
def Ar:A9:= {args:= [.val false (.int .i64)],res:= [.val false .bool],shared:=false,pre:=fun(x:D6)=>True,post:=fun(x:D6) (r:Aj)=>r.1=false}
def R8:A9:= {args:= [.val false (.int .i64), .val false (.int .i64)],res:= [.val false (.int .i64)],shared:=false,pre:=fun(x:Dh)=>True,post:=fun(x:Dh) (r:D6)=>r.1=O6 x.1 x.2.1}
def W1:A9:= {args:= [.val true (.pair .bool (.sl (.int .u32))), .val true (.pair .bool (.sl (.int .u32)))],res:= [.val false (.int .i64)],shared:=false,pre:=fun(x:eH)=>True,post:=fun(x:eH) (r:D6)=>r.1=O6 (iv x.1) (iv x.2.1)}
def K2:A9:= {args:= [.val false (.int .u32)],res:= [.val false (.int .i64)],shared:=false,pre:=fun(x:D6)=>True,post:=fun(x:D6) (r:D6)=>r.1=32-(K3 x.1.toNat:Int)}
abbrev C3a:=Wf×Int×Int×Unit
def Y3:A9:= {args:= [.val false (.sl (.int .u32)), .val false (.int .i64), .val false (.int .i64)],res:= [.val false (.int .u64)],shared:=false,pre:=fun(x:C3a)=>3<=x.2.1/\(x.1.length:Int)<=x.2.1/\x.2.1<=17592186044416/\0<=x.2.2.1/\x.2.2.1<=31/\nv x.1*2^x.2.2.1.toNat<4294967296^x.2.1.toNat,post:=fun(x:C3a) (r:D6)=>r.1=((nv x.1*2^x.2.2.1.toNat/4294967296^(x.2.1.toNat-2):Nat):Int)}
def Dy:A9:=U8 [.val false (.sl (.int .u32)), .val false (.sl (.int .u32))] [.val false (.sl (.int .u32)), .val false .bool] (fun(x:Cz)=>K5 x.1/\K5 x.2.1) (fun(x:Cz) (r:C0w)=>(nv x.1<nv x.2.1->r.1= []/\r.2.1=false)/\(nv x.2.1<=nv x.1->r.1=nc (nv x.1-nv x.2.1)/\r.2.1=true))
def R0:A9:= {args:= [.val false (.sl (.int .u32)), .val false (.int .i64)],res:= [.own (.int .u32) 116],shared:=false,pre:=fun(x:KB)=>K5 x.1/\0<=x.2.1/\x.2.1<=31,post:=fun(x:KB) (r:Da)=>r.1.length=x.1.length+1/\nv r.1=nv x.1*2^x.2.1.toNat}
def M5:A9:=U8 [.val false (.sl (.int .u32)), .val false (.int .i64)] [.val false (.sl (.int .u32)), .val false .bool] (fun(x:KB)=>K5 x.1) (fun(x:KB) (r:C0w)=>(x.2.1<0->r.1= []/\r.2.1=false)/\(0<=x.2.1->r.1=nc (nv x.1/2^x.2.1.toNat)/\r.2.1=true))
def Dv:A9:=U8 [.val false (.sl (.int .u32)), .val false (.sl (.int .u32))] [.val false (.sl (.int .u32))] (fun(x:Cz)=>K5 x.1/\K5 x.2.1) (fun(x:Cz) (r:Da)=>r.1=nc (nv x.1+nv x.2.1))
def W0:A9:= {args:= [.val false (.int .i64)],res:= [.val false .bool],shared:=false,pre:=fun(x:D6)=>True,post:=fun(x:D6) (r:Aj)=>r.1=false}
def T8:A9:= {args:= [.val false (.int .i64), .val false (.ptr (.sl (.int .u32)))],res:= [.val false (.int .u64)],shared:=false,pre:=fun(x:Int×Wf×Unit)=>0<=x.1,post:=fun(x:Int×Wf×Unit) (r:D6)=>r.1=(if x.1<(x.2.1.length:Int)then x.2.1.getD x.1.toNat 0 else 0)}
def pZ9:Nat→Nat→Pl→Pl
 | _,0,k=>k
 |i,n+1,k=> .p i (pZ9 (i+1) n k)
def vI:List Uv:= [.val (.int .i64)]
def vU:List Uv:= [.val (.int .u64)]
def TT:An:= {loop:= [(2,⟨[0],[],[(3,false,vI)],[],[]⟩)]}
def Vy:An:= {}
def QE:An:= {loop:= [(3,⟨[6,7],[],[(3,false,vU),(8,false,vI)],[],[]⟩)]}
def IB:An:= {}
def EY:An:= {loop:= [(7,⟨[0,1],[],[(5,false,vI)],[],[]⟩)],plan:= [(9,[3,7],[],true,(pZ9 0 3 (.q 3 (pZ9 4 3 (.q 7 (.p 8 .done)))))),(11,[3,7],[],true,(pZ9 0 3 (.q 3 (pZ9 4 3 (.q 7 (.p 8 .done))))))]}
def QD:An:= {}
abbrev Ry:=Wf×Unit
def Zt:A4 Bc.args->Prop:=fun(x:Ry)=>let e:=(1:Int);let c:=(x.1.length:Int);let a:=(0:Int);∃(I:D6->Prop),∃(b: _->Nat),I (c,())/\∀(p:D6),let d:=(i64.wrap (p.1-e),());let f:=(decide (gx a x.1 (i64.wrap (p.1-e))=a));(Ty.int i64).wf p.1/\True->I p->(decide (a<p.1)=true->a<=i64.wrap (p.1-e)/\i64.wrap (p.1-e)<c)/\(iB (I5 (decide (a<p.1)) f false) (I d/\b d<b p) ((a<=a/\a<=p.1/\p.1<=c)/\List.drop a.toNat (List.take p.1.toNat x.1)=nc (nv x.1)))
def P4 (P:Wf×Unit->Prop):Prop:=∀r:Wf×Unit,Gr r.1/\True->P r
def Hc:A4 Q3.args->Prop:=fun(x:D6)=>(0:(Ty.int u64).den)<=(32:Int)/\True/\P4 fun r=>r.1=nc (nv [u32.wrap x.1,u32.wrap (Int.fdiv x.1 ((2:Int)^Min.min ((32:Int).toNat) u64.bits))])->r.1=nc x.1.toNat
def Vh:A4 Ch.args->Prop:=fun(x:Ry)=>let c:=(0:Int);let b:=(x.1.length:Int);∃(I:Dh->Prop),∃(d: _->Nat),I (c,c,())/\∀(p:Dh),let a:=(u64.wrap (↑(BitVec.ofInt u64.bits p.1|||BitVec.ofInt u64.bits (u64.wrap (u64.wrap (gx c x.1 p.2.1)*(2:Int)^Min.min (i64.wrap (32*p.2.1)).toNat u64.bits))).toNat:Int),i64.wrap (p.2.1+1),());(Ty.int u64).wf p.1/\(Ty.int i64).wf p.2.1/\True->I p->(iB (decide (p.2.1<b)) ((c<=p.2.1/\p.2.1<b)/\(0:(Ty.int i64).den)<=i64.wrap (32*p.2.1)/\I a/\d a<d p) (p.1=(↑(nv x.1):Int)))
def rT1 (P:Int×Unit->Prop):Prop:=∀r:Int×Unit,HR r.1/\True->P r
def Nu:A4 Y2.args->Prop:=fun(x:Ry)=>let a:=(18446744073709551616:Nat);True/\P4 fun r=>let b:Prop:=((2:Int)<(r.1.length:Int));r.1=nc (nv x.1)->(iB (decide b) ((nv x.1<a->(0:Int)=(↑(nv x.1):Int)/\false=true)/\(a<=nv x.1->false=false)) (List.length r.1<=2/\rT1 fun c=>c.1=(↑(nv r.1):Int)->(nv x.1<a->c.1=(↑(nv x.1):Int)/\true=true)/\(a<=nv x.1->true=false)))
abbrev Fi:=Wf×Wf×Unit
def Ma:A4 W3.args->Prop:=fun(x:Fi)=>let i:=(1:Int);let e:=(nv x.1);let d:=(nv x.2.1);let c:=(0:Int);True/\P4 fun r=>let a:=(r.1.length:Int);r.1=nc e->True/\P4 fun j=>let b:=(j.1.length:Int);j.1=nc d->(iB (decide (a≠b)) ((iB (decide (a<b)) ((-1:Int)=Bv e d) (i=Bv e d))) (∃(I:D6->Prop),∃(g: _->Nat),I (i64.wrap (a-i),())/\∀(p:D6),let k:Prop:=(gx c j.1 p.1<gx c r.1 p.1);let h:Prop:=(gx c r.1 p.1<gx c j.1 p.1);let f:=(i64.wrap (p.1-i),());(Ty.int i64).wf p.1/\True->I p->(iB (decide (c<=p.1)) ((c<=p.1/\p.1<a)/\(c<=p.1/\p.1<b)/\(iB (decide h) ((-1:Int)=Bv e d) ((c<=p.1/\p.1<a)/\(c<=p.1/\p.1<b)/\(iB (decide k) (i=Bv e d) (I f/\g f<g p))))) (c=Bv e d))))
def Vg:A4 Cg.args->Prop:=fun(x:Ry)=>True/\P4 fun r=>let a:=(r.1.length:Int);r.1=nc (nv x.1)->((0:Int)<=a/\a<=a/\(↑(4:Nat):Int)*a<=(281474976710656:Int)/\a<=(9223372036854775807:Int))/\Kk (List.replicate a.toNat (0:Int)) r.1=nc (nv x.1)
def KR (x:A4 Bc.args) (k:awf Bc.args x) (_:Bc.pre x):Zt x:=by
 obtain⟨l,_⟩:=x;have t:l.length<=9223372036854775807:=k.1.1;have o:A8 l:=A5 k.1.2;change Wf at l;simp only[Zt,iB];refine⟨fun p=>0<=p.1/\p.1<=(l.length:Int)/\∀i x,p.1.toNat<=i->l[i]? =some x->x=0,fun p=>p.1.toNat,⟨qF _,qG _,fun i x j a=> ?_⟩, ?_⟩
 . rw[rT (by simpa using j)]at a;cases a
 rintro⟨n,_⟩ _ ⟨c,f,b⟩;change Int at n;simp only at c f b⊢;refine⟨fun h=> ?_,fun h=> ?_,fun h=> ?_⟩
 . have h:=qA h;rw[wv (by omega)];exact⟨by omega,by omega⟩
 . rw[H0]at h;simp only[qC,rP]at h;obtain⟨s,g⟩:=h;rw[wv (by omega)]at g⊢;refine⟨⟨by omega,by omega,fun i x j a=> ?_⟩,by omega⟩;by_cases r:i=(n-1).toNat
   . subst r;rw[H5 (d:=(0:Int)) (by omega) (by omega)]at a;cases a;exact g
   . exact b i x (by omega) a
 . refine⟨⟨qG _,c,f⟩, ?_⟩;show(l.take n.toNat).drop 0= _;rw[tZ];refine A3w o (by omega) b ?_;rw[H0]at h;simp only[vT,rO]at h;rcases h with h|h
   . exact .inl (by omega)
   . by_cases u:n=0
     . exact .inl (by omega)
     . rw[wv (by omega)]at h;refine .inr ⟨gx 0 l (n-1), ?_,h⟩;have:=H5 (d:=(0:Int)) (l:=l) (i:=n-1) (by omega) (by omega);rw[<-this];congr 1;omega
def Pb (x:A4 Q3.args) (c:awf Q3.args x) (_:Q3.pre x):Hc x:=by
 obtain⟨v,_⟩:=x;change Int at v;have b:u64.min<=v/\v<=u64.max:=c.1;rw[iT,BU]at b;simp only[Hc,P4];refine⟨by decide,trivial, ?_⟩;rintro⟨r,_⟩ _ a;simp only at a⊢;rw[a];congr 1;rw[show Min.min (Int.toNat 32) u64.bits=32 from rfl];simp only[nv,Bp];rw[sJ _ (by decide),show(2:Int)^32=4294967296 from rfl];omega
def HC (x:A4 Ch.args) (u:awf Ch.args x) (s:Ch.pre x):Vh x:=by
 obtain⟨l,_⟩:=x;have n:A8 l:=A5 u.1.2;have y:l.length<=2:=s;change Wf at l;simp only[Vh,iB];refine⟨fun p=>0<=p.2.1/\p.2.1<=(l.length:Int)/\p.1=(nv (l.take p.2.1.toNat):Int),fun p=>((l.length:Int)-p.2.1).toNat,⟨qG _,qF _,rfl⟩, ?_⟩;rintro⟨v,i,_⟩ z ⟨f,o,d⟩;change Int at v i;simp only at f o d⊢;refine⟨fun h=> ?_,fun h=> ?_⟩
 . have h:=qA h;have g:=Tf n f h;have j:=Ft (l:=l.take i.toNat) fun x hx=>n x (sC hx)
   rw[qU,tD (by omega)]at j;have t:=JB f h;rw[wv (a:=32*i) (by omega),wv (a:=i+1) (by omega),W8 g.1 (by omega)];have r:Min.min (32*i).toNat u64.bits=32*i.toNat:=by
    show Min.min (32*i).toNat 64= _;omega
   rw[r];have c:i.toNat=0\/i.toNat=1:=by omega
   refine⟨⟨f,h⟩,by show(0:Int)<=32*i;omega, ?_⟩;have w:u64.wrap (((BitVec.ofInt 64 v|||BitVec.ofInt 64 (u64.wrap (gx 0 l i*2^(32*i.toNat)))).toNat:Nat):Int)=(nv (l.take (i+1).toNat):Int):=by
    rw[t];generalize gx 0 l i=b at g;rcases c with c|c
    . rw[c]at j⊢;have A:v=0:=by rw[d,c];simp[nv]
      rw[W8 (a:=b*2^(32*0)) (by omega) (by omega),WS (v:=v) (b:=b) (k:=32*0) (by omega) (by omega) g.1 (by omega) (by omega),W8 (by omega) (by omega)];simp[nv];omega
    . rw[c]at j⊢;rw[c]at d;rw[W8 (a:=b*2^(32*1)) (by omega) (by omega),WS (v:=v) (b:=b) (k:=32*1) (by omega) (by omega) g.1 (by omega) (by omega),W8 (by omega) (by omega)];omega
   exact⟨⟨by omega,by omega,w⟩,by omega⟩
 . have h:=qB h;rw[H1 (by omega)]at d;exact d
def Zs (x:A4 Y2.args) (f:awf Y2.args x) (_:Y2.pre x):Nu x:=by
 obtain⟨l,_⟩:=x;change Wf at l;simp only[Nu,iB,P4,rT1];refine⟨trivial, ?_⟩;rintro⟨r,_⟩ _ a;simp only at a⊢;subst a;refine⟨fun h=> ?_,fun h=> ?_⟩
 . have h:=qA h;have:=B1o (k:=2) (n:=nv l) (by omega);refine⟨fun c=> ?_,fun _=>trivial⟩;rw[show(4294967296:Nat)^2=18446744073709551616 from rfl]at this;omega
 . have h:=qB h;have b:(nc (nv l)).length<=2:=by omega
   refine⟨b, ?_⟩;rintro⟨r,_⟩ _ a;simp only at a⊢;have d:=rD (Hl (nv l)) (rZ (by decide) b);rw[F4]at a;refine⟨fun _=>⟨a,trivial⟩,fun c=> ?_⟩;rw[show(4294967296:Nat)^2=18446744073709551616 from rfl]at d;omega
def Ww (x:A4 W3.args) (A:awf W3.args x) (_:W3.pre x):Ma x:=by
 obtain⟨b,c,_⟩:=x;change Wf at b c;simp only[Ma,iB,P4];refine⟨trivial, ?_⟩;rintro⟨r,_⟩ ⟨⟨y,_⟩,_⟩ o;simp only at o y⊢;subst o;refine⟨trivial, ?_⟩;rintro⟨s,_⟩ ⟨⟨z,_⟩,_⟩ t;simp only at t z⊢;subst t;have k:=J7 (nv b);have l:=J7 (nv c);refine⟨fun j=>⟨fun h=> ?_,fun h=> ?_⟩,fun j=> ?_⟩
 . have h:=qA h;exact(Nb (BF (by omega))).symm
 . have h:=qB h;have j:=qA j;exact(SR (BF (by omega))).symm
 . have n:(nc (nv b)).length=(nc (nv c)).length:=by have:=qB j;omega
   have u:=F4 (nv b);have v:=F4 (nv c);generalize nc (nv b)=r at*;generalize nc (nv c)=s at*;rw[<-u, <-v];refine⟨fun p=> -1<=p.1/\p.1<(r.length:Int)/\r.drop (p.1+1).toNat=s.drop (p.1+1).toNat,fun p=>(p.1+1).toNat, ?_, ?_⟩
   . rw[wv (by omega)];refine⟨by omega,by omega, ?_⟩;rw[sG (by omega),sG (by omega)]
   rintro⟨i,_⟩ _ ⟨w,d,a⟩;change Int at i;simp only at w d a⊢;refine⟨fun h=> ?_,fun h=> ?_⟩
   . have h:=qA h;refine⟨⟨h,d⟩,⟨h,by omega⟩,fun g=> ?_,fun g=>⟨⟨h,d⟩,⟨h,by omega⟩,fun f=> ?_,fun f=> ?_⟩⟩
     . exact(Nb (gV k l n h d a (qA g))).symm
     . exact(SR (gV l k n.symm h (by omega) a.symm (qA f))).symm
     . have g:=qB g;have f:=qB f;rw[wv (by omega)];refine⟨⟨by omega,by omega, ?_⟩,by omega⟩;rw[show i-1+1=i from by omega,V5 h d,V5 h (by omega),a,show gx 0 r i=gx 0 s i from by omega]
   . have h:=qB h;rw[show(i+1).toNat=0 from by omega,tZ,tZ]at a;rw[a,cT]
def MB {α:Type} {l:List α} {d:α} :Kk (List.replicate ((l.length:Nat):Int).toNat d) l=l:=by
 unfold Kk;rw[rK,qV,uS,sG (by simp),vX]
def HB (x:A4 Cg.args) (d:awf Cg.args x) (c:Cg.pre x):Vg x:=by
 obtain⟨l,_⟩:=x;have b:A8 l:=A5 d.1.2;have g:l.length<=35184372088832:=c;simp only[Vg,P4];refine⟨trivial, ?_⟩;rintro⟨r,_⟩ _ a;simp only at a⊢;have f:r.length<=l.length:=by rw[a];exact D4 b
 refine⟨⟨by omega,qG _,by simp;omega,by omega⟩, ?_⟩;rw[MB,a]
def TP:An:= {join:= [(4,⟨[],[],[(0,false,[.val (.sl (.int .u32))]),(1,false,[.val (.sl (.int .u32))])],[],[]⟩),(12,⟨[0,1,5,7,24,25,26],[0],[(6,false,vU)],[],[]⟩)],loop:= [(7,⟨[0,1,5,24,25],[],[(6,false,vU),(26,false,vI)],[],[(0, .row (.int .u32) 116)]⟩)]}
def TS:An:= {join:= [(12,⟨[1,6,8,22,23,24],[0],[(10,false,vU)],[],[]⟩)],loop:= [(7,⟨[1,6,22,23],[],[(7,false,vU),(24,false,vI)],[],[(0, .row (.int .u32) 116)]⟩)]}
def TR:An:= {join:= [(18,⟨[1,5,29,30,31],[],[],[],[(0, .row (.int .u32) 116)]⟩)],loop:= [(11,⟨[1,5,6,7,29,30,31,38,39],[],[(8,false,vU),(40,false,vI)],[],[(0, .row (.int .u32) 116)]⟩),(6,⟨[1,5,29,30],[],[(31,false,vI)],[],[(0, .row (.int .u32) 116)]⟩)]}
def Pq:An:= {loop:= [(4,⟨[0,1,4],[],[(6,false,vU),(7,false,vI)],[],[(0, .row (.int .u32) 116)]⟩)]}
def Vz:An:= {join:= [(15,⟨[0,6,7,8,29,30,31],[0],[(10,false,vU)],[],[]⟩)],loop:= [(10,⟨[0,6,7,29,30],[],[(31,false,vI)],[],[(0, .row (.int .u32) 116)]⟩)]}
def FB:An:= {loop:= [(4,⟨[0,1,5,13,14],[],[(6,false,vU),(15,false,vI)],[],[(0, .row (.int .u32) 116)]⟩)]}
abbrev Rx:=Int×Int×Wf×Unit
def Zm:A4 Dv.args->Prop:=fun(x:Fi)=>let f:=(1:Int);let c:=(0:Int);True/\P4 fun r=>r.1=nc (nv x.1)->True/\P4 fun j=>let e:Prop:=((r.1.length:Int)<(j.1.length:Int));j.1=nc (nv x.2.1)->∃(J:Fi->Prop),((iB (decide e) (J (j.1,r)) (J (r.1,j))))/\∀(p:Fi),let d:=(p.2.1.length:Int);let a:=(p.1.length:Int);(Ty.int u32).sl.wf p.1/\(Ty.int u32).sl.wf p.2.1/\True->J p->(c<=i64.wrap (a+f)/\i64.wrap (a+f)<=i64.wrap (a+f)/\(↑(4:Nat):Int)*i64.wrap (a+f)<=(281474976710656:Int)/\i64.wrap (a+f)<=(9223372036854775807:Int))/\∃(I:Rx->Prop),∃(j: _->Nat),I (c,c,List.replicate (i64.wrap (a+f)).toNat c,())/\∀(i:Rx),let h:=(gx c p.1 i.2.1);let g:=(i.2.2.1.length:Int);(Ty.int u64).wf i.1/\(Ty.int i64).wf i.2.1/\Gr i.2.2.1/\True->I i->(iB (decide (i.2.1<a)) ((c<=i.2.1/\i.2.1<a)/\∃(J:D6->Prop),((iB (decide (i.2.1<d)) ((c<=i.2.1/\i.2.1<d)/\J (u64.wrap (u64.wrap (i.1+u64.wrap h)+u64.wrap (gx c p.2.1 i.2.1)),())) (J (u64.wrap (i.1+u64.wrap h),()))))/\∀(p:D6),let b:=(Int.fdiv p.1 ((2:Int)^Min.min ((32:Int).toNat) u64.bits),i64.wrap (i.2.1+f),List.set i.2.2.1 i.2.1.toNat (u32.wrap p.1),());(Ty.int u64).wf p.1/\True->J p->(c<=i.2.1/\i.2.1<g)/\(0:(Ty.int u64).den)<=(32:Int)/\I b/\j b<j i) ((c<=a/\a<g)/\True/\P4 fun r=>r.1=nc (nv (List.set i.2.2.1 a.toNat (u32.wrap i.1)))->r.1=nc (nv x.1+nv x.2.1)))
def Fg (P:Int×Unit->Prop):Prop:=∀r:Int×Unit,O4 r.1/\True->P r
def Zr:A4 Dy.args->Prop:=fun(x:Fi)=>let f:=(nv x.1-nv x.2.1);let c:=(0:Int);True/\P4 fun r=>let a:=(r.1.length:Int);r.1=nc (nv x.1)->True/\P4 fun g=>let d:=(g.1.length:Int);g.1=nc (nv x.2.1)->True/\Fg fun i=>i.1=Bv (nv r.1) (nv g.1)->(iB (decide (i.1<c)) ((nv x.1<nv x.2.1->Er Int= []/\false=false)/\(nv x.2.1<=nv x.1->Er Int=nc f/\false=true)) ((c<=a/\a<=a/\(↑(4:Nat):Int)*a<=(281474976710656:Int)/\a<=(9223372036854775807:Int))/\∃(I:Rx->Prop),∃(j: _->Nat),I (c,c,List.replicate a.toNat c,())/\∀(p:Rx),let e:=(u64.wrap (gx c r.1 p.2.1)-p.1);(Ty.int u64).wf p.1/\(Ty.int i64).wf p.2.1/\Gr p.2.2.1/\True->I p->(iB (decide (p.2.1<a)) ((c<=p.2.1/\p.2.1<a)/\∃(J:D6->Prop),((iB (decide (p.2.1<d)) ((c<=p.2.1/\p.2.1<d)/\J (u64.wrap (u64.wrap e-u64.wrap (gx c g.1 p.2.1)),())) (J (u64.wrap e,()))))/\∀(h:D6),let b:=(Int.fdiv h.1 ((2:Int)^Min.min ((63:Int).toNat) u64.bits),i64.wrap (p.2.1+1),List.set p.2.2.1 p.2.1.toNat (u32.wrap h.1),());(Ty.int u64).wf h.1/\True->J h->(c<=p.2.1/\p.2.1<(p.2.2.1.length:Int))/\(0:(Ty.int u64).den)<=(63:Int)/\I b/\j b<j p) (True/\P4 fun r=>r.1=nc (nv p.2.2.1)->(nv x.1<nv x.2.1->r.1= []/\true=false)/\(nv x.2.1<=nv x.1->r.1=nc f/\true=true)))))
abbrev GT:=Int×Wf×Unit
def Zq:A4 Dx.args->Prop:=fun(x:Fi)=>let o:=(nv x.1*nv x.2.1);let k:=(0:Int);True/\∀(r:Ry),let j:=(r.1.length:Int);let e:Prop:=(j=k);Gr r.1/\True->r.1=nc (nv x.1)->True/\∀(s:Ry),let h:=(s.1.length:Int);let d:Prop:=(h=k);Gr s.1/\True->s.1=nc (nv x.2.1)->(iB (I5 (decide e) true (decide d)) (Er Int=nc o) ((k<=i64.wrap (j+h)/\i64.wrap (j+h)<=i64.wrap (j+h)/\(↑(4:Nat):Int)*i64.wrap (j+h)<=(281474976710656:Int)/\i64.wrap (j+h)<=(9223372036854775807:Int))/\∃(I:GT->Prop),∃(a: _->Nat),I (k,List.replicate (i64.wrap (j+h)).toNat k,())/\∀(p:GT),let f:Prop:=(gx k r.1 p.1=k);let c:Prop:=(p.1<j);(Ty.int i64).wf p.1/\Gr p.2.1/\True->I p->(iB (decide c) (∃(J:Ry->Prop),((k<=p.1/\c)/\(iB (decide f) (J (p.2.1,())) (∃(I:Rx->Prop),∃(a: _->Nat),I (k,k,p.2.1,())/\∀(q:Rx),let n:=(q.2.2.1.length:Int);let m:=(i64.wrap (p.1+q.2.1));let g:=(u64.wrap (q.1+u64.wrap (u64.wrap (u64.wrap (gx k r.1 p.1)*u64.wrap (gx k s.1 q.2.1))+u64.wrap (List.getD q.2.2.1 m.toNat k))));let i:=(g.fdiv ((2:Int)^Min.min ((32:Int).toNat) u64.bits),i64.wrap (q.2.1+1),List.set q.2.2.1 m.toNat (u32.wrap g),());let c:Prop:=(q.2.1<h);let b:Prop:=(k<=i64.wrap (p.1+q.2.1)/\i64.wrap (p.1+q.2.1)<n);(Ty.int u64).wf q.1/\(Ty.int i64).wf q.2.1/\Gr q.2.2.1/\True->I q->(iB (decide c) ((k<=q.2.1/\c)/\b/\b/\(0:(Ty.int u64).den)<=(32:Int)/\I i/\a i<a q) ((k<=i64.wrap (p.1+h)/\i64.wrap (p.1+h)<n)/\J (List.set q.2.2.1 (i64.wrap (p.1+h)).toNat (u32.wrap q.1),()))))))/\P4 fun q=>let l:=(i64.wrap (p.1+1),q);J q->I l/\a l<a p) (True/\P4 fun r=>r.1=nc (nv p.2.1)->r.1=nc o))))
abbrev RV:=Wf×Int×Unit
def Fb:A4 N5.args->Prop:=fun(x:RV)=>let e:=(u64.wrap x.2.1);let d:=(0:Int);let c:=(x.1.length:Int);(d<=c/\c<=c/\(↑(4:Nat):Int)*c<=(281474976710656:Int)/\c<=(9223372036854775807:Int))/\∃(I:Rx->Prop),∃(f: _->Nat),I (d,i64.wrap (c-(1:Int)),List.replicate c.toNat d,())/\∀(p:Rx),let a:=(u64.wrap (↑(BitVec.ofInt u64.bits (u64.wrap (p.1*2^Min.min ((32:Int).toNat) u64.bits)) |||BitVec.ofInt u64.bits (u64.wrap (gx d x.1 p.2.1))).toNat:Int));let b:=(a.tmod e,i64.wrap (p.2.1-1),List.set p.2.2.1 p.2.1.toNat (u32.wrap (u64.wrap (a.tdiv e))),());(Ty.int u64).wf p.1/\(Ty.int i64).wf p.2.1/\Gr p.2.2.1/\True->I p->(iB (decide (d<=p.2.1)) ((0:(Ty.int u64).den)<=(32:Int)/\(d<=p.2.1/\p.2.1<c)/\u64.wrap x.2.1≠d/\(d<=p.2.1/\p.2.1<(p.2.2.1.length:Int))/\u64.wrap x.2.1≠d/\I b/\f b<f p) (True/\P4 fun r=>r.1=nc (nv p.2.2.1)->True/\P4 fun f=>f.1=nc p.1.toNat->r.1=nc (nv x.1/x.2.1.toNat)/\f.1=nc (nv x.1%x.2.1.toNat)))
def Hd:A4 M5.args->Prop:=fun(x:RV)=>let l:=(1:Int);let j:=(nv x.1/(2:Nat)^x.2.1.toNat);let i:=(32:Int);let h:=(i64.wrap (Int.tdiv x.2.1 i));let g:=(0:Int);(iB (decide (x.2.1<g)) ((x.2.1<g->Er Int= []/\false=false)/\(g<=x.2.1->Er Int=nc j/\false=true)) (True/\∀(r:Ry),let e:=(r.1.length:Int);let d:=(↑(List.drop h.toNat (List.take e.toNat r.1)).length:Int);let a:Prop:=(e<=i64.wrap (Int.tdiv x.2.1 i));Gr r.1/\True->r.1=nc (nv x.1)->i≠g/\(iB (decide a) ((x.2.1<g->Er Int= []/\true=false)/\(g<=x.2.1->Er Int=nc j/\true=true)) (i≠g/\(g<=i64.wrap (Int.tdiv x.2.1 i)/\i64.wrap (Int.tdiv x.2.1 i)<=e/\e<=e)/\i≠g/\(g<=d/\d<=d/\(↑(4:Nat):Int)*d<=(281474976710656:Int)/\d<=(9223372036854775807:Int))/\∃(I:GT->Prop),∃(c: _->Nat),I (g,List.replicate d.toNat g,())/\∀(p:GT),let k:=(gx g (List.drop h.toNat (List.take e.toNat r.1)) p.1);let b:Prop:=(p.1<d);let a:Prop:=(i64.wrap (p.1+l)<d);(Ty.int i64).wf p.1/\Gr p.2.1/\True->I p->(iB (decide b) ((g<=p.1/\b)/\∃(J:D6->Prop),((iB (decide a) ((g<=i64.wrap (p.1+l)/\a)/\(0:(Ty.int u64).den)<=i/\J (u64.wrap (↑(BitVec.ofInt u64.bits (u64.wrap k) |||BitVec.ofInt u64.bits (u64.wrap (u64.wrap (gx g (List.drop h.toNat (List.take e.toNat r.1)) (i64.wrap (p.1+l)))*(2:Int)^Min.min i.toNat u64.bits))).toNat:Int),())) (J (u64.wrap k,()))))/\∀(m:D6),let f:=(i64.wrap (p.1+l),List.set p.2.1 p.1.toNat (u32.wrap (Int.fdiv m.1 ((2:Int)^Min.min (Int.tmod x.2.1 i).toNat u64.bits))),());(Ty.int u64).wf m.1/\True->J m->(0:(Ty.int i64).den)<=Int.tmod x.2.1 i/\(g<=p.1/\p.1<(p.2.1.length:Int))/\I f/\c f<c p) (True/\P4 fun r=>r.1=nc (nv p.2.1)->(x.2.1<g->r.1= []/\true=false)/\(g<=x.2.1->r.1=nc j/\true=true)))))))
def Me:A4 R0.args->Prop:=fun(x:RV)=>let f:=(1:Int);let d:=(0:Int);let b:=(x.1.length:Int);(d<=i64.wrap (b+f)/\i64.wrap (b+f)<=i64.wrap (b+f)/\(↑(4:Nat):Int)*i64.wrap (b+f)<=(281474976710656:Int)/\i64.wrap (b+f)<=(9223372036854775807:Int))/\∃(I:Rx->Prop),∃(h: _->Nat),I (d,d,List.replicate (i64.wrap (b+f)).toNat d,())/\∀(p:Rx),let g:=(p.2.2.1.length:Int);let e:=(List.set p.2.2.1 b.toNat (u32.wrap p.1));let a:=(u64.wrap (↑(BitVec.ofInt u64.bits p.1|||BitVec.ofInt u64.bits (u64.wrap (u64.wrap (gx d x.1 p.2.1)*(2:Int)^Min.min x.2.1.toNat u64.bits))).toNat:Int));let c:=(a.fdiv ((2:Int)^Min.min ((32:Int).toNat) u64.bits),i64.wrap (p.2.1+f),List.set p.2.2.1 p.2.1.toNat (u32.wrap a),());(Ty.int u64).wf p.1/\(Ty.int i64).wf p.2.1/\Gr p.2.2.1/\True->I p->(iB (decide (p.2.1<b)) ((d<=p.2.1/\p.2.1<b)/\(0:(Ty.int i64).den)<=x.2.1/\(d<=p.2.1/\p.2.1<g)/\(0:(Ty.int u64).den)<=(32:Int)/\I c/\h c<h p) ((d<=b/\b<g)/\e.length=x.1.length+(1:Nat)/\nv e=nv x.1*2^x.2.1.toNat))
def A1q (v:Int) (_:0<=v):Int.fdiv v (2^Min.min (Int.toNat 32) u64.bits)=v/4294967296:=by
 rw[show Min.min (Int.toNat 32) u64.bits=32 from rfl,sJ _ (by decide)];rfl
def C0o (v:Int) (_:0<=v):Int.fdiv v (2^Min.min (Int.toNat 63) u64.bits)=v/9223372036854775808:=by
 rw[show Min.min (Int.toNat 63) u64.bits=63 from rfl,sJ _ (by decide)];rfl
def JN {v b:Int} {k:Nat} (v0:0<=v) (v1:v<2^k) (b0:0<=b) (a:b*2^k<18446744073709551616) (c:v<18446744073709551616):(((BitVec.ofInt 64 (b*2^k) |||BitVec.ofInt 64 v).toNat:Nat):Int)=v+b*2^k:=by
 rw[BitVec.or_comm];exact WS v0 v1 b0 a c
def KN (x:A4 Dv.args) (y:awf Dv.args x) (H:Dv.pre x):Zm x:=by
 obtain⟨a,b,_⟩:=x;have F:A8 a:=A5 y.1.2;have G:A8 b:=A5 y.2.1.2;change Wf at a b;obtain⟨R,T⟩:a.length<=17592186044416/\b.length<=17592186044416:=H;have U:=D4 F;have V:=D4 G;simp only[Zm,iB,P4];refine⟨trivial, ?_⟩;rintro⟨M,_⟩ _ g;refine⟨trivial, ?_⟩;rintro⟨W,_⟩ _ w;simp only at g w⊢;subst g w;refine⟨fun p=>p.2.1.length<=p.1.length/\p.1.length<=17592186044416/\nv p.1+nv p.2.1=nv a+nv b,⟨fun h=> ?_,fun h=> ?_⟩, ?_⟩
 . have h:=qA h;refine⟨by show(nc (nv a)).length<=(nc (nv b)).length;omega,by show(nc (nv b)).length<= _;omega, ?_⟩;show nv (nc (nv b))+nv (nc (nv a))= _;rw[F4,F4,vY]
 . have h:=qB h;refine⟨by show(nc (nv b)).length<=(nc (nv a)).length;omega,by show(nc (nv a)).length<= _;omega, ?_⟩;show nv (nc (nv a))+nv (nc (nv b))= _;rw[F4,F4]
 rintro⟨P,Q,_⟩ ⟨I,J,_⟩ ⟨n,A,o⟩;change Wf at P Q;simp only at n A o⊢;have s:A8 P:=A5 I.2;have t:A8 Q:=A5 J.2;rw[wv (a:=(P.length:Int)+1) (by omega)];refine⟨⟨by omega,qG _,by simp;omega,by omega⟩, ?_⟩;refine⟨fun p=>0<=p.2.1/\p.2.1<=(P.length:Int)/\0<=p.1/\p.1<=1/\p.2.2.1.length=P.length+1/\nv (p.2.2.1.take p.2.1.toNat)+4294967296^p.2.1.toNat*p.1.toNat=nv (P.take p.2.1.toNat)+nv (Q.take p.2.1.toNat),fun p=>((P.length:Int)-p.2.1).toNat,⟨qG _,qF _,qG _,by show(0:Int)<=1;omega,by rw[rK];omega,by simp[nv]⟩, ?_⟩;rintro⟨f,i,out,_⟩ ⟨_,_,O,_⟩ ⟨d,B,D,E,r,j⟩;change Int at f i;change Wf at out;simp only at d B D E r j⊢;have N:=N1 s i.toNat;have dQ:=N1 t i.toNat;refine⟨fun k=> ?_,fun k=> ?_⟩
 . have h:i<(P.length:Int):=qA k;rw[Ex s d h,W8 (a:=(dg P i.toNat:Int)) (by omega) (by omega),W8 (a:=f+(dg P i.toNat:Int)) (by omega) (by omega)];refine⟨⟨d,h⟩,fun p=>p.1=f+(dg P i.toNat:Int)+(dg Q i.toNat:Int),⟨fun c=> ?_,fun c=> ?_⟩, ?_⟩
   . have c:=qA c;refine⟨⟨d,c⟩, ?_⟩;show u64.wrap _= _;rw[Ex t d c,W8 (a:=(dg Q i.toNat:Int)) (by omega) (by omega),W8 (by omega) (by omega)]
   . have c:=qB c;show f+(dg P i.toNat:Int)= _;rw[Oi (l:=Q) (by omega)];omega
   rintro⟨z,_⟩ _ u;change Int at z;simp only at u⊢;subst u;refine⟨⟨d,by omega⟩,by decide, ?_⟩;rw[A1q _ (by omega),wv (by omega),Bp];refine⟨⟨by omega,by omega,by omega,by omega,by rw[qN];exact r, ?_⟩,by omega⟩;rw[show(i+1).toNat=i.toNat+1 from by omega,S6 (by omega),J0 P,J0 Q,sA];exact cY j (by omega)
 . have h:=qB k;refine⟨⟨by omega,by omega⟩,trivial, ?_⟩;rintro⟨M,_⟩ _ g;simp only at g⊢;rw[g];congr 1;rw[show i.toNat=P.length from by omega,qR (qT P.length),qR n]at j;rw[qV,w32 (by omega) (by omega)];have e:=S6 (l:=out) (i:=P.length) (v:=f) (by omega);rw[qR (by rw[qN];omega)]at e;rw[e,j,o]
def KQ (x:A4 Dy.args) (F:awf Dy.args x) (O:Dy.pre x):Zr x:=by
 obtain⟨a,d,_⟩:=x;have I:A8 a:=A5 F.1.2;have J:A8 d:=A5 F.2.1.2;change Wf at a d;obtain⟨Y,Z⟩:a.length<=17592186044416/\d.length<=17592186044416:=O;have T:=D4 I;have a0:=D4 J;simp only[Zr,iB,P4,Fg];refine⟨trivial, ?_⟩;rintro⟨r,_⟩ _ c;refine⟨trivial, ?_⟩;rintro⟨s,_⟩ _ g;refine⟨trivial, ?_⟩;rintro⟨w,_⟩ _ k;simp only at c g k⊢;rw[c,g,F4,F4]at k;subst k;refine⟨fun h=> ?_,fun h=> ?_⟩
 . have h:=qA h;refine⟨fun _=>⟨by trivial,by trivial⟩,fun v=> ?_⟩;unfold Bv at h;rw[qH (by omega)]at h;split at h<;>omega
 . have h:=qB h;have v:nv d<=nv a:=by
    rcases sD (nv a) (nv d)with j|j
    . rw[Nb j]at h;omega
    . exact j
   have A:A8 r:=c▸J7 _;have D:A8 s:=g▸J7 _;have B:nv r=nv a:=by rw[c,F4]
   have E:nv s=nv d:=by rw[g,F4]
   have X:r.length<=a.length:=by rw[c];exact T
   have Q:s.length<=r.length:=by rw[c,g];exact J4 v
   rw[<-B, <-E]at v⊢;clear c g B E;refine⟨⟨by omega,qG _,by simp;omega,by omega⟩, ?_⟩;refine⟨fun p=>0<=p.2.1/\p.2.1<=(r.length:Int)/\0<=p.1/\p.1<=1/\p.2.2.1.length=r.length/\nv (r.take p.2.1.toNat)+4294967296^p.2.1.toNat*p.1.toNat=nv (p.2.2.1.take p.2.1.toNat)+nv (s.take p.2.1.toNat),fun p=>((r.length:Int)-p.2.1).toNat,⟨qG _,qF _,qG _,by show(0:Int)<=1;omega,by simp,by simp[nv]⟩, ?_⟩;rintro⟨o,i,out,_⟩ ⟨_,_,R,_⟩ ⟨f,j,G,H,u,n⟩;change Int at o i;change Wf at out;simp only at f j G H u n⊢;have N:A8 out:=A5 R.2;have U:=N1 A i.toNat;have V:=N1 D i.toNat;refine⟨fun t=> ?_,fun t=> ?_⟩
   . have h:i<(r.length:Int):=qA t;rw[Ex A f h,W8 (a:=(dg r i.toNat:Int)) (by omega) (by omega)];refine⟨⟨f,h⟩,fun p=>p.1=((dg r i.toNat:Int)-o-(dg s i.toNat:Int))%18446744073709551616,⟨fun b=> ?_,fun b=> ?_⟩, ?_⟩
     . have b:=qA b;refine⟨⟨f,b⟩, ?_⟩;show u64.wrap _= _;rw[Ex D f b,W8 (a:=(dg s i.toNat:Int)) (by omega) (by omega),Bq,Bq];omega
     . have b:=qB b;show u64.wrap _= _;rw[Oi (l:=s) (by omega),Bq];omega
     rintro⟨w,_⟩ _ k;change Int at w;simp only at k⊢;refine⟨⟨f,by omega⟩,by decide, ?_⟩;rw[C0o _ (by omega),wv (by omega),Bp];refine⟨⟨by omega,by omega,by omega,by omega,by rw[qN];exact u, ?_⟩,by omega⟩;rw[show(i+1).toNat=i.toNat+1 from by omega,S6 (by omega),J0 r,J0 s,sA];exact VW n (by omega)
   . have h:=qB t;refine⟨trivial, ?_⟩;rintro⟨q,_⟩ _ z;simp only at z⊢;refine⟨fun W=>by omega,fun _=>⟨?_,by trivial⟩⟩;rw[z];congr 1;rw[show i.toNat=r.length from by omega,qR (qT _),qR (by omega),qR Q]at n;have y:nv out<4294967296^out.length:=Ft N;rw[u]at y;have M:o.toNat=0:=FJ (P:=4294967296^r.length) (x:=nv out) (by omega) y;rw[M,wR,sU]at n;omega
def KP (x:A4 Dx.args) (T:awf Dx.args x) (ac:Dx.pre x):Zq x:=by
 obtain⟨g,n,_⟩:=x;have a6:A8 g:=A5 T.1.2;have a7:A8 n:=A5 T.2.1.2;change Wf at g n;obtain⟨aj,am⟩:g.length<=17592186044416/\n.length<=17592186044416:=ac;have ae:=D4 a6;have af:=D4 a7;simp only[Zq,iB,P4];refine⟨trivial, ?_⟩;rintro⟨a,_⟩ _ d;refine⟨trivial, ?_⟩;rintro⟨b,_⟩ _ f;simp only at d f⊢;have J:A8 a:=d▸J7 _;have N:A8 b:=f▸J7 _;have ai:a.length<=17592186044416:=by rw[d];omega
 have ak:b.length<=17592186044416:=by rw[f];omega
 have X:nv a=nv g:=by rw[d,F4]
 have Y:nv b=nv n:=by rw[f,F4]
 rw[<-X, <-Y];clear d f X Y ae af;refine⟨fun h=> ?_,fun _=> ?_⟩
 . rw[J1]at h;simp only[vA,rP]at h;have:nv a*nv b=0:=by
    rcases h with h|h
    . rw[qO (l:=a) (by omega)];simp[nv]
    . rw[qO (l:=b) (by omega)];simp[nv]
   rw[this,P3]
 have a2:i64.wrap ((a.length:Int)+(b.length:Int))=((a.length+b.length:Nat):Int):=by
  rw[wv (by omega)];omega
 rw[a2];refine⟨⟨by omega,qG _,by simp;omega,by omega⟩, ?_⟩;refine⟨fun p=>0<=p.1/\p.1<=(a.length:Int)/\p.2.1.length=a.length+b.length/\nv p.2.1=nv (a.take p.1.toNat)*nv b/\∀j,p.1.toNat+b.length<=j->dg p.2.1 j=0,fun p=>((a.length:Int)-p.1).toNat,⟨qG _,qF _,by rw[rK,qV],by simp[nv,Qh],fun j _=>IP _ _⟩, ?_⟩;rintro⟨i,out,_⟩ ⟨_,ah,_⟩ ⟨A,a4,B,t,D⟩;change Int at i;change Wf at out;simp only at A a4 B t D⊢;refine⟨fun z=> ?_,fun z=> ?_⟩
 . have h:i<(a.length:Int):=qA z;have Z:=N1 J i.toNat;rw[Ex J A h];refine⟨fun p=>p.1.length=a.length+b.length/\nv p.1=nv (a.take (i.toNat+1))*nv b/\∀j,i.toNat+1+b.length<=j->dg p.1 j=0,⟨⟨A,h⟩,fun G=> ?_,fun G=> ?_⟩, ?_⟩
   . have G:(dg a i.toNat:Int)=0:=qA G;refine⟨B, ?_,fun j u=>D j (by omega)⟩;show nv out= _;rw[t,J0,show dg a i.toNat=0 from by omega,wR,sU]
   . refine⟨fun p=>0<=p.2.1/\p.2.1<=(b.length:Int)/\0<=p.1/\p.1<=4294967295/\p.2.2.1.length=a.length+b.length/\nv p.2.2.1+4294967296^(i.toNat+p.2.1.toNat)*p.1.toNat=nv out+4294967296^i.toNat*(dg a i.toNat*nv (b.take p.2.1.toNat))/\∀j,i.toNat+b.length<=j->dg p.2.2.1 j=0,fun p=>((b.length:Int)-p.2.1).toNat,⟨qG _,qF _,qG _,by show(0:Int)<=4294967295;omega,B,by simp[nv],D⟩, ?_⟩;rintro⟨c,j,o,_⟩ ⟨_,_,ad,_⟩ ⟨w,a3,H,I,y,r,s⟩;change Int at c j;change Wf at o;simp only at w a3 H I y r s⊢;have O:A8 o:=A5 ad.2;refine⟨fun E=> ?_,fun E=> ?_⟩
     . have u:j<(b.length:Int):=qA E;have a0:=N1 N j.toNat;rw[wv (a:=i+j) (by omega)];refine⟨⟨w,u⟩,⟨by omega,by omega⟩,⟨by omega,by omega⟩,by decide, ?_⟩;rw[Ex N w u,X1 O,show(i+j).toNat=i.toNat+j.toNat from by omega];have ag:=N1 O (i.toNat+j.toNat);have aa:dg a i.toNat*dg b j.toNat<=4294967295*4294967295:=vB Z a0;have ab:(dg a i.toNat:Int)*(dg b j.toNat:Int)=((dg a i.toNat*dg b j.toNat:Nat):Int):=(uR _ _).symm;rw[W8 (a:=(dg a i.toNat:Int)) (by omega) (by omega),W8 (a:=(dg b j.toNat:Int)) (by omega) (by omega),W8 (a:=(dg o (i.toNat+j.toNat):Int)) (by omega) (by omega),ab];generalize a5:dg a i.toNat*dg b j.toNat=M at aa;rw[W8 (a:=(M:Int)) (by omega) (by omega),W8 (a:=(M:Int)+(dg o (i.toNat+j.toNat):Int)) (by omega) (by omega),W8 (by omega) (by omega),A1q _ (by omega),wv (by omega),Bp];refine⟨⟨by omega,by omega,by omega,by omega,by rw[qN];exact y, ?_,fun q Q=> ?_⟩,by omega⟩
       . have F:=Jb (l:=o) (k:=i.toNat+j.toNat) (v:=(c+((M:Int)+(dg o (i.toNat+j.toNat):Int)))%4294967296) (by omega);rw[show(j+1).toNat=j.toNat+1 from by omega,J0 b, <-uG i.toNat,sA,tC (dg a i.toNat)];have a1:dg a i.toNat*(4294967296^j.toNat*dg b j.toNat)=4294967296^j.toNat*M:=by rw[<-a5,zW]
         rw[a1,tC (4294967296^i.toNat), <-sR (4294967296^i.toNat) (4294967296^j.toNat), <-uX, <-uG (nv out), <-r];generalize 4294967296^(i.toNat+j.toNat)=P at*;have a8:((c+((M:Int)+(dg o (i.toNat+j.toNat):Int)))%4294967296).toNat+4294967296*((c+((M:Int)+(dg o (i.toNat+j.toNat):Int)))/4294967296).toNat=c.toNat+dg o (i.toNat+j.toNat)+M:=by omega
         have a9:=tA (P* ·) a8;simp only[tC, <-sR]at a9;omega
       . rw[Xr (by omega),qH (by omega)];exact s q Q
     . have u:=qB E;rw[wv (a:=i+(b.length:Int)) (by omega),w32 H I];refine⟨⟨by omega,by omega⟩,⟨by show(o.set _ _).length= _;rw[qN];exact y, ?_,fun q Q=> ?_⟩⟩
       . show nv (o.set _ _)= _;have F:=Jb (l:=o) (k:=(i+(b.length:Int)).toNat) (v:=c) (by omega);rw[s _ (by omega),wR,sU]at F;rw[F,show(i+(b.length:Int)).toNat=i.toNat+b.length from by omega];rw[show j.toNat=b.length from by omega,qR (qT b.length)]at r;rw[r,J0,uZ,t,sR]
       . show dg (o.set _ _) q=0;rw[Xr (by omega),qH (by omega)];exact s q (by omega)
   . rintro⟨o,_⟩ _ ⟨U,V,W⟩;simp only at U V W⊢;rw[wv (by omega),show(i+1).toNat=i.toNat+1 from by omega];exact⟨⟨by omega,by omega,U,V,W⟩,by omega⟩
 . have h:=qB z;refine⟨trivial, ?_⟩;rintro⟨an,_⟩ _ R;simp only at R⊢;rw[R,t,qR (by omega)]
def Mc (x:A4 N5.args) (D:awf N5.args x) (P:N5.pre x):Fb x:=by
 obtain⟨l,d,_⟩:=x;have O:A8 l:=A5 D.1.2;change Wf at l;change Int at d;have J:u32.min<=d/\d<=u32.max:=D.2.1;rw[TC,TB]at J;obtain⟨X,o⟩:l.length<=17592186044416/\d≠0:=P;simp only[Fb,iB,P4];have T:u64.wrap d=d:=W8 (by omega) (by omega);rw[T,wv (a:=(l.length:Int)-1) (by omega)];refine⟨⟨by omega,qG _,by simp;omega,by omega⟩, ?_⟩;refine⟨fun p=> -1<=p.2.1/\p.2.1<(l.length:Int)/\0<=p.1/\p.1<d/\p.2.2.1.length=l.length/\nv (l.drop (p.2.1+1).toNat)=nv (p.2.2.1.drop (p.2.1+1).toNat)*d.toNat+p.1.toNat,fun p=>(p.2.1+1).toNat,⟨by show(-1:Int)<=(l.length:Int)-1;omega,by show(l.length:Int)-1< _;omega,qG _,by show(0:Int)<d;omega,by simp, ?_⟩, ?_⟩
 . show nv (l.drop ((l.length:Int)-1+1).toNat)=nv ((List.replicate _ 0).drop ((l.length:Int)-1+1).toNat)* _ + _;rw[sG (by omega),sG (by rw[rK];omega)];simp[nv]
 rintro⟨c,i,q,_⟩ _ ⟨H,j,s,I,u,g⟩;change Int at c i;change Wf at q;simp only at H j s I u g⊢;refine⟨fun r=> ?_,fun r=> ?_⟩
 . have h:0<=i:=qA r;have w:=Tf O h j;have M:=V5 (l:=l) h j;rw[show Min.min (Int.toNat 32) u64.bits=32 from rfl];generalize gx 0 l i=b at*;have E:u64.wrap (c*2^32)=c*2^32:=W8 (by omega) (by omega);have F:u64.wrap b=b:=W8 (by omega) (by omega);have G:(((BitVec.ofInt u64.bits (c*2^32) |||BitVec.ofInt u64.bits b).toNat:Nat):Int)=b+c*4294967296:=JN (v:=b) (b:=c) (k:=32) w.1 (by omega) s (by omega) (by omega);rw[E,F,G,W8 (a:=b+c*4294967296) (by omega) (by omega),wv (a:=i-1) (by omega)];have t:0<=b+c*4294967296:=by omega
   rw[uM t,IntWalk.u64_quo _ _ ⟨t,by omega,by omega⟩];have y:=g0h t (show 0<=d by omega);have V:(b+c*4294967296)/d<4294967296:=by
    rw[g2b (by omega)];have:(c+1)*4294967296<=d*4294967296:=sK (by omega) (by decide);omega
   have A:=g2i (b+c*4294967296) o;have Q:=zJ (b+c*4294967296) (b:=d) (by omega);have U:=yG (b+c*4294967296) d;rw[w32 y (by omega)];generalize (b+c*4294967296)/d=f at*;generalize (b+c*4294967296)%d=ri at*;refine⟨by decide,⟨h,j⟩,o,⟨h,by omega⟩,o,⟨by omega,by omega,A,Q,by rw[qN];exact u, ?_⟩,by omega⟩;rw[show i-1+1=i from by omega,M];have N:(q.set i.toNat f).drop i.toNat=f::q.drop (i+1).toNat:=by
    have n:i.toNat<q.length:=by omega
    rw[wJ (by rw[qN];exact n),List.getElem_set_self,yW (by omega),show(i+1).toNat=i.toNat+1 from by omega]
   rw[N];simp only[nv];rw[g];have R:(b.toNat:Int)+4294967296*c.toNat=f.toNat*d.toNat+ri.toNat:=by
    rw[uF w.1,uF s,uF y,uF (show 0<=d by omega),uF A,g2d f];omega
   have W:b.toNat+4294967296*c.toNat=f.toNat*d.toNat+ri.toNat:=by
    have:((b.toNat+4294967296*c.toNat:Nat):Int)=((f.toNat*d.toNat+ri.toNat:Nat):Int):=by
     rw[vW,vW,uR,uR];exact R
    exact g1j this
   rw[tC, <-sR,uZ];omega
 . have h:¬0<=i:=qB r;rw[show(i+1).toNat=0 from by omega,tZ,tZ]at g;refine⟨trivial, ?_⟩;rintro⟨Y,_⟩ _ z;refine⟨trivial, ?_⟩;rintro⟨Z,_⟩ _ B;simp only at z B⊢;have n:c.toNat<d.toNat:=by omega
   rw[sL]at g;rw[z,B,g,g2m,tV n,g2l (by omega),uI n,sU];exact⟨rfl,rfl⟩
def Wz (x:A4 R0.args) (F:awf R0.args x) (E:R0.pre x):Me x:=by
 obtain⟨l,s,_⟩:=x;have u:A8 l:=A5 F.1.2;change Wf at l;change Int at s;obtain⟨Q,G,R⟩:l.length<=17592186044416/\0<=s/\s<=31:=E;simp only[Me,iB];rw[wv (a:=(l.length:Int)+1) (by omega)];refine⟨⟨by omega,qG _,by simp;omega,by omega⟩, ?_⟩;have N:(2:Nat)^s.toNat<=2^31:=rZ (by decide) (by omega);have J:0<(2:Nat)^s.toNat:=tP (by decide);have d:((2:Int)^s.toNat)=((2^s.toNat:Nat):Int):=by rw[xJ];rfl
 refine⟨fun p=>0<=p.2.1/\p.2.1<=(l.length:Int)/\0<=p.1/\p.1<2^s.toNat/\p.2.2.1.length=l.length+1/\nv (p.2.2.1.take p.2.1.toNat)+4294967296^p.2.1.toNat*p.1.toNat=nv (l.take p.2.1.toNat)*2^s.toNat,fun p=>((l.length:Int)-p.2.1).toNat,⟨qG _,qF _,qG _,by show(0:Int)<2^s.toNat;rw[d];omega,by rw[rK];omega,by simp[nv]⟩, ?_⟩;rintro⟨c,i,out,_⟩ ⟨_,_,O,_⟩ ⟨f,y,t,o,r,g⟩;change Int at c i;change Wf at out;simp only at f y t o r g⊢;have H:c<((2^s.toNat:Nat):Int):=by rw[<-d];exact o
 refine⟨fun n=> ?_,fun n=> ?_⟩
 . have j:i<(l.length:Int):=qA n;have dl:=N1 u i.toNat;have D:Min.min (Int.toNat s) u64.bits=s.toNat:=by show Min.min (Int.toNat s) 64= _;omega
   rw[Ex u f j,D,d];have h:(dg l i.toNat:Int)*((2^s.toNat:Nat):Int)=((dg l i.toNat*2^s.toNat:Nat):Int):=(uR _ _).symm;have I:dg l i.toNat*2^s.toNat<=4294967295*2^s.toNat:=rM _ dl;have w:(((BitVec.ofInt u64.bits c|||BitVec.ofInt u64.bits ((dg l i.toNat*2^s.toNat:Nat):Int)).toNat:Nat):Int)=c+((dg l i.toNat*2^s.toNat:Nat):Int):=by
    have:=WS (v:=c) (b:=(dg l i.toNat:Int)) (k:=s.toNat) t o (by omega) (by rw[d,h];omega) (by omega);rw[d,h]at this;exact this
   rw[W8 (a:=(dg l i.toNat:Int)) (by omega) (by omega),h,W8 (a:=((dg l i.toNat*2^s.toNat:Nat):Int)) (by omega) (by omega),w,W8 (by omega) (by omega),A1q _ (by omega),wv (by omega),Bp];generalize z:dg l i.toNat*2^s.toNat=M at*;refine⟨⟨f,j⟩,G,⟨f,by omega⟩,by decide,⟨by omega,by omega,by omega, ?_,by rw[qN];exact r, ?_⟩,by omega⟩
   . generalize 2^s.toNat=T at*;omega
   . rw[show(i+1).toNat=i.toNat+1 from by omega,S6 (by omega),J0 l,sA,uZ, <-g,sR (4294967296^i.toNat) (dg l i.toNat),z];generalize 4294967296^i.toNat=P at*;have A:((c+(M:Int))%4294967296).toNat+4294967296*((c+(M:Int))/4294967296).toNat=c.toNat+M:=by omega
     have B:=tA (P* ·) A;simp only[tC, <-sR]at B;omega
 . have j:¬i<(l.length:Int):=qB n;rw[qV,w32 (by omega) (by omega)];refine⟨⟨by omega,by omega⟩,by rw[qN];exact r, ?_⟩;have e:=S6 (l:=out) (i:=l.length) (v:=c) (by omega);rw[qR (by rw[qN];omega)]at e;rw[show i.toNat=l.length from by omega,qR (qT l.length)]at g;rw[e,g]
def Pd (x:A4 M5.args) (J:awf M5.args x) (R:M5.pre x):Hd x:=by
 obtain⟨a,n,_⟩:=x;have Q:A8 a:=A5 J.1.2;have G:=(show i64.min<=n/\n<=i64.max from J.2.1);rw[Tc,BA]at G;change Wf at a;change Int at n;have a3:a.length<=17592186044416:=R;have V:=D4 Q;have Y: -9223372036854775808<=n/\n<=9223372036854775807:=G;simp only[Hd,iB,P4];refine⟨fun h=> ?_,fun h=>⟨trivial, ?_⟩⟩
 . have h:=qA h;exact⟨fun _=>⟨by trivial,by trivial⟩,fun g=>by omega⟩
 have h:=qB h;have z:0<=n:=by omega
 rintro⟨r,_⟩ _ o;simp only at o⊢;have A:i64.wrap (Int.tdiv n 32)=((n.toNat/32:Nat):Int):=by
  rw[yP z,wv (by omega)];omega
 have B:(Int.tmod n 32).toNat=n.toNat%32:=by rw[uM z];omega
 have N:(0:Int)<=Int.tmod n 32:=zE _ z;have D:n.toNat=32*(n.toNat/32)+n.toNat%32:=by omega
 have O:n.toNat%32<=31:=by omega
 have E:Min.min (n.toNat%32) u64.bits=n.toNat%32:=by show Min.min (n.toNat%32) 64= _;omega
 rw[A,B,E];have T:nv r=nv a:=by rw[o,F4]
 have I:A8 r:=o▸J7 _;have a0:r.length<=a.length:=by rw[o];exact V
 have u:=dV (l:=r) I (k:=n.toNat/32) (s:=n.toNat%32);rw[<-D,T]at u;clear A B E;refine⟨by decide,fun g=> ?_,fun g=> ?_⟩
 . have g:=qA g;refine⟨fun c=>by omega,fun _=>⟨?_,by trivial⟩⟩;rw[u,sG (by omega),gU,g4h,P3]
 . have g:=qB g;rw[u];rw[show(((n.toNat/32:Nat):Int)).toNat=n.toNat/32 from qV _,show((r.length:Int)).toNat=r.length from qV _,qR (qT _)];have f:A8 (r.drop (n.toNat/32)):=fun y hy=>I y (vM hy)
   have a1:(r.drop (n.toNat/32)).length<=r.length:=by rw[sQ];omega
   refine⟨by decide,⟨by omega,by omega,qG _⟩,by decide,⟨by omega,qG _,by omega,by omega⟩, ?_⟩;clear u D;generalize r.drop (n.toNat/32)=t at*;generalize n.toNat%32=s at*;have P:nv t/2^s<4294967296^t.length:=yC (wX _ _) (Ft f);refine⟨fun p=>0<=p.1/\p.1<=(t.length:Int)/\p.2.1.length=t.length/\nv (p.2.1.take p.1.toNat)=nv t/2^s%4294967296^p.1.toNat,fun p=>((t.length:Int)-p.1).toNat,⟨qG _,qF _,by simp,by simp[nv];omega⟩, ?_⟩;rintro⟨i,out,_⟩ ⟨_,a2,_⟩ ⟨j,U,M,w⟩;change Int at i;change Wf at out;simp only at j U M w⊢;have W:=N1 f i.toNat;have X:=N1 f (i.toNat+1);refine⟨fun c=> ?_,fun c=> ?_⟩
   . have c:=qA c;rw[wv (a:=i+1) (by omega)];refine⟨⟨j,c⟩,fun p=>p.1=((dg t i.toNat+dg t (i.toNat+1)*4294967296:Nat):Int),⟨fun d=> ?_,fun d=> ?_⟩, ?_⟩
     . have d:=qA d;refine⟨⟨by omega,d⟩,by decide, ?_⟩;show u64.wrap _= _;rw[Ex f j c,Ex f (by omega) d,show(i+1).toNat=i.toNat+1 from by omega];rw[show Min.min (Int.toNat 32) u64.bits=32 from rfl];rw[W8 (a:=(dg t i.toNat:Int)) (by omega) (by omega),W8 (a:=(dg t (i.toNat+1):Int)) (by omega) (by omega),W8 (a:=(dg t (i.toNat+1):Int)*2^32) (by omega) (by omega)];have:=WS (v:=(dg t i.toNat:Int)) (b:=(dg t (i.toNat+1):Int)) (k:=32) (by omega) (by omega) (by omega) (by omega) (by omega);rw[show u64.bits=64 from rfl,this,W8 (by omega) (by omega)];omega
     . have d:=qB d;show u64.wrap _= _;rw[Ex f j c,W8 (by omega) (by omega),Oi (i:=i.toNat+1) (by omega)];omega
     rintro⟨a4,_⟩ _ F;simp only at F⊢;refine⟨N,⟨j,by omega⟩,⟨by omega,by omega,by rw[qN];exact M, ?_⟩,by omega⟩;rw[show(i+1).toNat=i.toNat+1 from by omega,S6 (by omega),w,sA,Nat.mod_mul,A7e f _ O];congr 2;rw[F,Bp];have:Int.fdiv ((dg t i.toNat+dg t (i.toNat+1)*4294967296:Nat):Int) (2^s)=(((dg t i.toNat+dg t (i.toNat+1)*4294967296)/2^s:Nat):Int):=by
      rw[show((2:Int)^s)=((2^s:Nat):Int)from by rw[xJ];rfl,sJ _ (qF _)];rfl
     rw[this];generalize (dg t i.toNat+dg t (i.toNat+1)*4294967296)/2^s=Z;omega
   . have c:=qB c;refine⟨trivial, ?_⟩;rintro⟨q,_⟩ _ H;simp only at H⊢;refine⟨fun h=>by omega,fun _=>⟨?_,by trivial⟩⟩;rw[show i.toNat=t.length from by omega,qR (by omega),tV P]at w;rw[H,w]
def ZO:An:= {join:= [(4,⟨[],[],[(0,false,[.val (.int .u32)]),(2,false,vI)],[],[]⟩),(7,⟨[],[],[(0,false,[.val (.int .u32)]),(2,false,vI)],[],[]⟩)]}
def Sm:An:= {}
def CF:An:= {}
def IC:An:= {plan:= [(2,[],[],true,(pZ9 0 3 (pZ9 5 3 (.p 10 (pZ9 12 3 (.p 16 (.p 17 (.e 3 (.p 4 (.e 8 (.p 9 (.p 11 (.e 15 (pZ9 18 3 .done))))))))))))))]}
def FA:An:= {loop:= [(7,⟨[4],[0],[(7,false,vU),(8,false,vU),(9,false,vU),(10,false,vU),(11,false,vU),(12,false,vU),(13,false,vU),(14,false,vU),(15,false,[.val .bool])],[],[]⟩)],plan:= [(9,[],[],true,(pZ9 0 6 .done))]}
def EZ:An:= {}
def Ct:ByteArray:=ByteArray.mk (([(0:UInt8),1,2,2,3,3,3,3,4,4,4,4,4,4,4,4,5,5,5,5,5,5,5,5,5,5,5,5,5,5,5,5,6,6,6,6,6,6,6,6,6,6,6,6,6,6,6,6,6,6,6,6,6,6,6,6,6,6,6,6,6,6,6,6].append [(7:UInt8),7,7,7,7,7,7,7,7,7,7,7,7,7,7,7,7,7,7,7,7,7,7,7,7,7,7,7,7,7,7,7,7,7,7,7,7,7,7,7,7,7,7,7,7,7,7,7,7,7,7,7,7,7,7,7,7,7,7,7,7,7,7,7]).append ([(8:UInt8),8,8,8,8,8,8,8,8,8,8,8,8,8,8,8,8,8,8,8,8,8,8,8,8,8,8,8,8,8,8,8,8,8,8,8,8,8,8,8,8,8,8,8,8,8,8,8,8,8,8,8,8,8,8,8,8,8,8,8,8,8,8,8].append [(8:UInt8),8,8,8,8,8,8,8,8,8,8,8,8,8,8,8,8,8,8,8,8,8,8,8,8,8,8,8,8,8,8,8,8,8,8,8,8,8,8,8,8,8,8,8,8,8,8,8,8,8,8,8,8,8,8,8,8,8,8,8,8,8,8,8])).toArray
def EK:A4 Gb.args->Prop:=fun(x:D6)=>∃(J:Dh->Prop),((iB (decide (65536<=x.1)) ((0:(Ty.int u64).den)<=(16:Int)/\J (Int.fdiv x.1 ((2:Int)^Min.min ((16:Int).toNat) u32.bits),(16:Int),())) (J (x.1,(0:Int),()))))/\∀(p:Dh),(Ty.int u32).wf p.1/\(Ty.int i64).wf p.2.1/\True->J p->∃(J:Dh->Prop),((iB (decide (256<=p.1)) ((0:(Ty.int u64).den)<=(8:Int)/\J (Int.fdiv p.1 ((2:Int)^Min.min ((8:Int).toNat) u32.bits),i64.wrap (p.2.1+8),())) (J (p.1,p.2.1,()))))/\∀(p:Dh),(Ty.int u32).wf p.1/\(Ty.int i64).wf p.2.1/\True->J p->((0:Int)<=IntKind.u8.wrap p.1/\IntKind.u8.wrap p.1<(↑(Ct).data.toList.length:Int))/\i64.wrap (p.2.1+i64.wrap (FG (Ct) (IntKind.u8.wrap p.1)))=(↑(K3 x.1.toNat):Int)
def Gk:A4 K2.args->Prop:=fun(x:D6)=>True/\Fg fun r=>r.1=(↑(K3 x.1.toNat):Int)->i64.wrap (32-r.1)=(32:Int)-(↑(K3 x.1.toNat):Int)
def Jl:A4 T8.args->Prop:=fun(x:GT)=>let c:=(↑x.2.1.length:Int);let b:=(0:Int);let a:=(x.2.1.length:Int);(iB (decide (x.1<a)) ((b<=x.1/\x.1<a)/\u64.wrap (gx b x.2.1 x.1)=if x.1<c then x.2.1.getD x.1.toNat b else b) (b=if x.1<c then x.2.1.getD x.1.toNat b else b))
def Nv:A4 Y3.args->Prop:=fun(x:Wf×Int×Int×Unit)=>let d:=(32:Int);let c:=(2:Int);let b:=(x.1.length:Int);let a:=(0:Int);a<=i64.wrap (x.2.1-1)/\rT1 fun r=>(r.1=if i64.wrap (x.2.1-1)<b then List.getD x.1 (i64.wrap (x.2.1-1)).toNat a else a)->(0:(Ty.int u64).den)<=d/\a<=i64.wrap (x.2.1-c)/\rT1 fun e=>(e.1=if i64.wrap (x.2.1-c)<b then List.getD x.1 (i64.wrap (x.2.1-c)).toNat a else a)->(0:(Ty.int i64).den)<=x.2.2.1/\a<=i64.wrap (x.2.1-3)/\rT1 fun f=>(f.1=if i64.wrap (x.2.1-3)<b then List.getD x.1 (i64.wrap (x.2.1-3)).toNat a else a)->(0:(Ty.int i64).den)<=i64.wrap (d-x.2.2.1)/\u64.wrap (↑(BitVec.ofInt u64.bits (u64.wrap (u64.wrap (↑(BitVec.ofInt u64.bits (u64.wrap (r.1*c^Min.min d.toNat u64.bits)) |||BitVec.ofInt u64.bits e.1).toNat:Int)*c^Min.min x.2.2.1.toNat u64.bits)) |||BitVec.ofInt u64.bits (Int.fdiv f.1 (c^Min.min (i64.wrap (d-x.2.2.1)).toNat u64.bits))).toNat:Int)=(↑(nv x.1*2^x.2.2.1.toNat/(4294967296:Nat)^(x.2.1.toNat-(2:Nat))):Int)
abbrev C3f:=Int×Int×Int×Int×Int×Int×Int×Int×Bool×Unit
def Md:A4 W5.args->Prop:=fun(x:Fi)=>let l:=(17592186044416:Int);let k:=(2:Nat);let j:=(1:Int);let i:=(4294967296:Nat);let g:=(↑(nv x.1):Int);let e:=(↑(nv x.2.1):Int);let d:=(0:Int);let c:=(x.1.length:Int);(d<=i64.wrap (c-j)/\i64.wrap (c-j)<c)/\True/\Fg fun r=>r.1=32-(↑(K3 (gx d x.1 (i64.wrap (c-j))).toNat):Int)->((3:Int)<=c/\c<=c/\c<=l/\d<=r.1/\r.1<=31/\nv x.1*k^Int.toNat r.1<i^c.toNat)/\rT1 fun m=>m.1=(↑(nv x.1*k^Int.toNat r.1/i^(c.toNat-k)):Int)->((3:Int)<=c/\(x.2.1.length:Int)<=c/\c<=l/\d<=r.1/\r.1<=31/\nv x.2.1*k^Int.toNat r.1<i^c.toNat)/\rT1 fun n=>n.1=(↑(nv x.2.1*k^Int.toNat r.1/i^(c.toNat-k)):Int)->∃(I:C3f->Prop),∃(a: _->Nat),I (m.1,n.1,d,j,d,d,d,j,false,())/\∀(p:C3f),let h:=(u64.wrap (Int.tdiv p.1 p.2.1)*p.2.2.2.2.1);let f:=(u64.wrap (Int.tdiv p.1 p.2.1)*p.2.2.2.2.2.2.2.1);let c:Prop:=(p.2.2.2.2.2.2.2.1<=p.2.1);let b:Prop:=(u64.wrap (p.2.2.2.2.2.2.1+p.2.2.2.2.2.2.2.1)<=u64.wrap (p.1-p.2.1));(Ty.int u64).wf p.1/\(Ty.int u64).wf p.2.1/\(Ty.int u64).wf p.2.2.1/\(Ty.int u64).wf p.2.2.2.1/\(Ty.int u64).wf p.2.2.2.2.1/\(Ty.int u64).wf p.2.2.2.2.2.1/\(Ty.int u64).wf p.2.2.2.2.2.2.1/\(Ty.int u64).wf p.2.2.2.2.2.2.2.1/\Ty.bool.wf p.2.2.2.2.2.2.2.2.1/\True->I p->(iB (I5 (decide c) (decide b) false) (p.2.1≠d/\p.2.1≠d/\I (p.2.1,Int.tmod p.1 p.2.1,p.2.2.2.1,p.2.2.2.2.1,u64.wrap (p.2.2.2.1+u64.wrap h),p.2.2.2.2.2.2.1,p.2.2.2.2.2.2.2.1,u64.wrap (p.2.2.2.2.2.2.1+u64.wrap f), !p.2.2.2.2.2.2.2.2.1,())/\a (p.2.1,Int.tmod p.1 p.2.1,p.2.2.2.1,p.2.2.2.2.1,u64.wrap (p.2.2.2.1+u64.wrap h),p.2.2.2.2.2.2.1,p.2.2.2.2.2.2.2.1,u64.wrap (p.2.2.2.2.2.2.1+u64.wrap f), !p.2.2.2.2.2.2.2.2.1,())<a p) (p.2.2.2.2.2.1=d\/∃(A':Int),∃(B':Int),(A'=if p.2.2.2.2.2.2.2.2.1=true then p.2.2.1*g-p.2.2.2.2.2.1*e else p.2.2.2.2.2.1*e-p.2.2.1*g)/\(B'=if p.2.2.2.2.2.2.2.2.1=true then p.2.2.2.2.2.2.1*e-p.2.2.2.1*g else p.2.2.2.1*g-p.2.2.2.2.2.2.1*e)/\d<=B'/\B'<=A'/\g=p.2.2.2.2.2.2.1*A'+p.2.2.2.2.2.1*B'/\e=p.2.2.2.1*A'+p.2.2.1*B'/\j<=p.2.2.2.2.2.1/\j<=p.2.2.2.2.2.2.1/\d<=p.2.2.1/\d<=p.2.2.2.1))
abbrev A2e:=Wf×Bool×Unit
def Mb:A4 W4.args->Prop:=fun(x:Wf×Int×Wf×Int×Unit)=>True/\P4 fun r=>r.1=nc x.2.1.toNat->(K5 x.1/\K5 r.1)/\P4 fun a=>a.1=nc (nv x.1*nv r.1)->True/\P4 fun r=>r.1=nc x.2.2.2.1.toNat->(K5 x.2.2.1/\K5 r.1)/\P4 fun b=>b.1=nc (nv x.2.2.1*nv r.1)->(K5 a.1/\K5 b.1)/\∀(r:A2e),Gr r.1/\True/\True->(nv a.1<nv b.1->r.1= []/\r.2.1=false)/\(nv b.1<=nv a.1->r.1=nc (nv a.1-nv b.1)/\r.2.1=true)->r.1=nc (nv x.1*x.2.1.toNat-nv x.2.2.1*x.2.2.2.1.toNat)
def C0r:∀k:Fin 256,FG Ct (k.val:Int)=(K3 k.val:Int):=by decide+kernel
def NX (x:A4 Gb.args) (D:awf Gb.args x) (_:Gb.pre x):EK x:=by
 obtain⟨v,_⟩:=x;change Int at v;have B:=(show u32.min<=v/\v<=u32.max from D.1);rw[TC,TB]at B;simp only[EK,iB];have l:Int.fdiv v (2^Min.min (Int.toNat 16) u32.bits)=v/65536:=by
  rw[show Min.min (Int.toNat 16) u32.bits=16 from rfl,sJ _ (by decide)];rfl
 rw[l];refine⟨fun p=>0<=p.1/\p.1<65536/\0<=p.2.1/\p.2.1<=16/\(K3 v.toNat:Int)=K3 p.1.toNat+p.2.1,⟨fun h=> ?_,fun h=> ?_⟩, ?_⟩
 . have h:=qA h;have e:=IK (n:=v.toNat) (k:=16) (by omega);refine⟨by decide,by show(0:Int)<=v/65536;omega,by show v/65536<65536;omega,by show(0:Int)<=16;omega,by show(16:Int)<=16;omega, ?_⟩;show(K3 v.toNat:Int)=K3 (v/65536).toNat+16;rw[e,show(v/65536).toNat=v.toNat/2^16 from by omega];omega
 . have h:=qB h;refine⟨by show(0:Int)<=v;omega,by show v<65536;omega,by show(0:Int)<=0;omega,by show(0:Int)<=16;omega, ?_⟩;show(K3 v.toNat:Int)=K3 v.toNat+0;omega
 rintro⟨w,n,_⟩ _ ⟨i,t,j,y,c⟩;change Int at w n;simp only at i t j y c⊢;have o:Int.fdiv w (2^Min.min (Int.toNat 8) u32.bits)=w/256:=by
  rw[show Min.min (Int.toNat 8) u32.bits=8 from rfl,sJ _ (by decide)];rfl
 rw[o,wv (a:=n+8) (by omega)];refine⟨fun p=>0<=p.1/\p.1<256/\0<=p.2.1/\p.2.1<=24/\(K3 v.toNat:Int)=K3 p.1.toNat+p.2.1,⟨fun h=> ?_,fun h=> ?_⟩, ?_⟩
 . have h:=qA h;have e:=IK (n:=w.toNat) (k:=8) (by omega);refine⟨by decide,by show(0:Int)<=w/256;omega,by show w/256<256;omega,by show 0<=n+8;omega,by show n+8<=24;omega, ?_⟩;show(K3 v.toNat:Int)=K3 (w/256).toNat+(n+8);rw[c,e,show(w/256).toNat=w.toNat/2^8 from by omega];omega
 . have h:=qB h;exact⟨i,by show w<256;omega,j,by show n<=24;omega,c⟩
 rintro⟨u,m,_⟩ _ ⟨b,f,r,s,g⟩;change Int at u m;simp only at b f r s g⊢;have E:IntKind.u8.wrap u=u:=IntWalk.u8_in _ ⟨b,by omega⟩;have A:(Ct.data.toList.length:Int)=256:=by decide+kernel
 have d:=C0r ⟨u.toNat,by omega⟩;simp only at d;rw[show((u.toNat:Nat):Int)=u from by omega]at d;have H:K3 u.toNat<=8:=by
  rcases sD 8 (K3 u.toNat)with h|h
  . have z:u.toNat≠0:=fun e=>by rw[e,AO]at h;omega
    have F:=(AN z).1;have G:2^8<=2^(K3 u.toNat-1):=rZ (by decide) (by omega);omega
  . exact h
 rw[E,d];refine⟨⟨b,by rw[A];exact f⟩, ?_⟩;rw[wv (a:=(K3 u.toNat:Int)) (by omega),wv (by omega),g];omega
def UC {v:Nat} (h:v<4294967296):K3 v<=32:=by
 rcases sD 32 (K3 v)with a|a
 . have b:v≠0:=fun e=>by rw[e,AO]at a;omega
   have c:=(AN b).1;have b:2^32<=2^(K3 v-1):=rZ (by decide) (by omega);omega
 . exact a
def Mr (x:A4 K2.args) (c:awf K2.args x) (_:K2.pre x):Gk x:=by
 obtain⟨v,_⟩:=x;change Int at v;have b:=(show u32.min<=v/\v<=u32.max from c.1);rw[TC,TB]at b;simp only[Gk,Fg];refine⟨trivial, ?_⟩;rintro⟨r,_⟩ _ a;simp only at a⊢;have:=UC (v:=v.toNat) (by omega);rw[a,wv (by omega)]
def Uq (x:A4 T8.args) (g:awf T8.args x) (f:T8.pre x):Jl x:=by
 obtain⟨i,l,_⟩:=x;have c:A8 l:=A5 g.2.1.2;change Int at i;change Wf at l;have a:0<=i:=f;simp only[Jl,iB];refine⟨fun h=> ?_,fun h=> ?_⟩
 . have h:=qA h;have b:=Tf c a h;rw[qJ h, <-V2 (d:=(0:Int)) a h,W8 b.1 (by omega)];exact⟨⟨a,h⟩,rfl⟩
 . have h:=qB h;rw[qH h]
def B5l {l:Wf} (h:A8 l) {i:Int} (a:0<=i):(if i<(l.length:Int)then l.getD i.toNat 0 else 0)=(dg l i.toNat:Int):=by
 split
 . exact X1 h
 . rw[Oi (by omega)];rfl
def Zu (x:A4 Y3.args) (V:awf Y3.args x) (T:Y3.pre x):Nv x:=by
 obtain⟨l,n,s,_⟩:=x;have c:A8 l:=A5 V.1.2;change Wf at l;change Int at n s;obtain⟨a8,a7,a9,Z,a0,j⟩:3<=n/\(l.length:Int)<=n/\n<=17592186044416/\0<=s/\s<=31/\nv l*2^s.toNat<4294967296^n.toNat:=T;simp only[Nv,rT1];rw[wv (a:=n-1) (by omega),wv (a:=n-2) (by omega),wv (a:=n-3) (by omega),wv (a:=32-s) (by omega)];refine⟨by omega, ?_⟩;rintro⟨a,_⟩ _ g;refine⟨by decide,by omega, ?_⟩;rintro⟨b,_⟩ _ h;refine⟨Z,by omega, ?_⟩;rintro⟨a1,_⟩ _ i;simp only at g h i⊢;rw[B5l c (by omega)]at g h i;have y:=N1 c (n-1).toNat;have z:=N1 c (n-2).toNat;have D:=N1 c (n-3).toNat;obtain⟨m,rfl⟩:∃m:Nat,n=(m:Int)+3:=⟨(n-3).toNat,by omega⟩;rw[show((m:Int)+3-1).toNat=m+2 from by omega]at g y;rw[show((m:Int)+3-2).toNat=m+1 from by omega]at h z;rw[show((m:Int)+3-3).toNat=m from by omega]at i D;rw[show((m:Int)+3).toNat=m+3 from by omega]at j⊢;rw[show m+3-2=m+1 from by omega];have o:=A3z l (n:=m) (by omega);have O:=T6 c m;have J:0<4294967296^m:=tP (by decide);subst g h i;generalize a3:dg l (m+2)=A at*;generalize a4:dg l (m+1)=B at*;generalize a5:dg l m=C at*;have U:=B7l (a:=nv l) (low:=nv (l.take m)) (lo:=C) (H:=A*4294967296+B) (P:=4294967296^m) (s:=s.toNat) J (by rw[o];grind) O (by omega);rw[sA,U];have u:(A*4294967296+B)*2^s.toNat<18446744073709551616:=by
  have E:(A*4294967296+B)*2^s.toNat*(4294967296^m*4294967296)<=nv l*2^s.toNat:=by
   have:(A*4294967296+B)*(4294967296^m*4294967296)<=nv l:=by rw[o];grind
   have:=rM (2^s.toNat) this;rwa[zO]at this
  have d:4294967296^(m+3)=18446744073709551616*(4294967296^m*4294967296):=by
   rw[sA,sA,sA];grind
  rw[d]at j;exact xE (yC E j)
 have Q:Min.min (Int.toNat s) u64.bits=s.toNat:=by show Min.min (Int.toNat s) 64= _;omega
 have R:Min.min (Int.toNat (32-s)) u64.bits=32-s.toNat:=by show Min.min (Int.toNat (32-s)) 64= _;omega
 rw[Q,R,show Min.min (Int.toNat 32) u64.bits=32 from rfl];have a6:A*4294967296+B<18446744073709551616:=by omega
 have W:(((BitVec.ofInt u64.bits (u64.wrap ((A:Int)*2^32)) |||BitVec.ofInt u64.bits (B:Int)).toNat:Nat):Int)=((A*4294967296+B:Nat):Int):=by
  rw[W8 (a:=(A:Int)*2^32) (by omega) (by omega)];have:=JN (v:=(B:Int)) (b:=(A:Int)) (k:=32) (by omega) (by omega) (by omega) (by omega) (by omega);rw[show u64.bits=64 from rfl,this];omega
 rw[W,W8 (a:=((A*4294967296+B:Nat):Int)) (by omega) (by omega)];have w:((2:Int)^s.toNat)=((2^s.toNat:Nat):Int):=by rw[xJ];rfl
 have f:((A*4294967296+B:Nat):Int)*2^s.toNat=(((A*4294967296+B)*2^s.toNat:Nat):Int):=by rw[w,uR]
 have X:Int.fdiv (C:Int) (2^(32-s.toNat))=((C/2^(32-s.toNat):Nat):Int):=by
  have E:((2:Int)^(32-s.toNat))=((2^(32-s.toNat):Nat):Int):=by rw[xJ];rfl
  rw[E,sJ _ (qF _)];rfl
 have M:C/2^(32-s.toNat)<2^s.toNat:=by
  rw[tS (tP (by decide)), <-BO (by omega)];omega
 have I:(0:Int)<=(((A*4294967296+B)*2^s.toNat:Nat):Int):=qF _;rw[X,W8 (a:=((A*4294967296+B:Nat):Int)*2^s.toNat) (by rw[f];omega) (by rw[f];omega)];generalize C/2^(32-s.toNat)=L at*;have N:(L:Int)<2^s.toNat:=by rw[w];omega
 have a2:(2:Nat)^s.toNat<=2^31:=rZ (by decide) (by omega);have Y:=JN (v:=(L:Int)) (b:=((A*4294967296+B:Nat):Int)) (k:=s.toNat) (by omega) N (by omega) (by rw[f];omega) (by omega);rw[show u64.bits=64 from rfl,Y,f,W8 (a:=(L:Int)+(((A*4294967296+B)*2^s.toNat:Nat):Int)) (Int.add_nonneg (qF _) I) ?_]
 . constructor
   . exact Int.sub_nonneg.2 (Int.le_trans a0 (by decide))
   . rw[vW];exact Int.add_comm _ _
 . --the shifted number and the digits behind it are below 2^64
   have d:(18446744073709551616:Nat)=18446744073709551616/2^s.toNat*2^s.toNat:=by
    refine(Nat.div_mul_cancel ?_).symm;exact⟨2^(64-s.toNat),by rw[<-uX,show s.toNat+(64-s.toNat)=64 from by omega]⟩
   have F:A*4294967296+B<18446744073709551616/2^s.toNat:=by
    rw[d]at u;exact xE u
   have r:(A*4294967296+B+1)*2^s.toNat<=18446744073709551616:=by
    rw[d];exact rM _ F
   rw[uZ,xN]at r;have G:L+(A*4294967296+B)*2^s.toNat<18446744073709551616:=rD (by rw[vY];exact Nat.add_lt_add_left M _) r;have t:((L+(A*4294967296+B)*2^s.toNat:Nat):Int)<18446744073709551616:=uA.2 G;rw[vW]at t;exact Int.le_of_lt_add_one t
def Wy (x:A4 W5.args) (O:awf W5.args x) (a9:W5.pre x):Md x:=by
 obtain⟨a,b,_⟩:=x;have k:A8 a:=A5 O.1.2;have an:A8 b:=A5 O.2.1.2;change Wf at a b;obtain⟨b4,T,J,D,aq⟩:a.length<=17592186044416/\3<=a.length/\Lv a/\nv b<=nv a/\b.length<=a.length:=a9;simp only[Md,iB,rT1,Fg];have W:i64.wrap ((a.length:Int)-1)=(a.length:Int)-1:=wv (by omega);rw[W,Ex k (by omega) (by omega),show((a.length:Int)-1).toNat=a.length-1 from by omega];refine⟨⟨by omega,by omega⟩,trivial, ?_⟩;rintro⟨s,_⟩ _ H;change Int at s;simp only at H⊢;rw[qV]at H;have E:=NV k J;have ar:=N1 k (a.length-1);have ap:=UC (v:=dg a (a.length-1)) (by omega);have ao:=(AN E).2;have t:=A3p k (n:=a.length-1) (by omega) (s:=s.toNat) (by omega);rw[show a.length-1+1=a.length from by omega]at t;have a8:nv b*2^s.toNat<4294967296^a.length:=yC (rM _ D) t;have ax:=XU k J;rw[qV];refine⟨⟨by omega,qG _,by omega,by omega,by omega,t⟩, ?_⟩;rintro⟨X,_⟩ ⟨B,_⟩ i;refine⟨⟨by omega,by omega,by omega,by omega,by omega,a8⟩, ?_⟩;rintro⟨Y,_⟩ ⟨a7,_⟩ j;change Int at X Y;simp only at i j B a7⊢;have hK:s.toNat<=32*(a.length-2):=by omega
 rw[Kj,A7d hK]at i j;have o:0<2^(32*(a.length-2)-s.toNat):=tP (by decide);have a4:0<X:=by
  rw[i];have ag:=Tm a (n:=a.length-1) (by omega);have Z:2^(32*(a.length-2)-s.toNat)<=nv a:=by
   have ah:2^(32*(a.length-2)-s.toNat)<=4294967296^(a.length-1):=by
    rw[Kj];exact rZ (by decide) (by omega)
   have ai:=rW (4294967296^(a.length-1)) (sZ E);omega
  have:=(vL o).2 (by rw[xN];exact Z);omega
 have a6:Y<=X:=by rw[i,j];exact Int.ofNat_le.2 (Nat.div_le_div_right D)
 have a5:0<=Y:=by rw[j];exact qF _
 have a0:=wW (nv a) (2^(32*(a.length-2)-s.toNat));have aj:=wE (nv a) o;have a2:=wW (nv b) (2^(32*(a.length-2)-s.toNat));have ak:=wE (nv b) o;generalize 2^(32*(a.length-2)-s.toNat)=K at*;have am:X<=18446744073709551615:=by have:=B.2;rw[BU]at this;exact this
 refine⟨fun p=>∃R,Leh X Y R p.1 p.2.1 p.2.2.1 p.2.2.2.1 p.2.2.2.2.1 p.2.2.2.2.2.1 p.2.2.2.2.2.2.1 p.2.2.2.2.2.2.2.1 p.2.2.2.2.2.2.2.2.1,fun p=>p.2.1.toNat,⟨0,Leh.start a5 a6 a4⟩, ?_⟩;rintro⟨x,y,ac,l,f,Q,g,d,ev,_⟩ _ ⟨R,c⟩;change Int at x y ac l f Q g d;change Bool at ev;simp only at c⊢;have au:=c.idX;have av:=c.idY;have b3:=c.yx;have w:=c.y0;have b2:=c.x0;have aa:=c.u10;have u:=c.u20;have N:=c.v10;have ab:=c.v20;have b8:x*1<=x*d:=tY ab (by omega);have ba:0<=y*g:=tL w N;have b7:0<=x*f:=tL (by omega) u;have b9:0<=y*l:=tL w aa;have b6:1*d<=x*d:=sK (by omega) (by omega);refine⟨fun r=> ?_,fun _=> ?_⟩
 . rw[H0]at r;simp only[qC,rP]at r;obtain⟨c1,A⟩:=r;have z:1<=y:=by omega
   have b5:1*g<=y*g:=sK z N;rw[W8 (a:=g+d) (by omega) (by omega),W8 (a:=x-y) (by omega) (by omega)]at A;have h:=c.step c1 A;have az:=h.idX;have b0:=h.idY;have I:=h.u20;have b1:=h.v20;have F:0<=x/y:=g0h (by omega) w;have ay:x/y<=x:=Int.ediv_le_self _ (by omega);have G:=h.y0;have ad:1*(g+x/y*d)<=y*(g+x/y*d):=sK z (by omega);have ae:0<=x%y*d:=tL G (by omega);have T:1*(l+x/y*f)<=y*(l+x/y*f):=sK z I;have af:0<=x%y*f:=tL G u;have U:0<=x/y*d:=tL F (by omega);have V:0<=x/y*f:=tL F u;rw[uM (by omega),IntWalk.u64_quo _ _ ⟨by omega,by omega,by omega⟩];rw[W8 (a:=x/y*f) V (by omega),W8 (a:=x/y*d) U (by omega),W8 (a:=l+x/y*f) I (by omega),W8 (a:=g+x/y*d) (by omega) (by omega)];have aw:=zJ x (b:=y) (by omega);exact⟨by omega,by omega,⟨x,h⟩,by omega⟩
 . by_cases M:Q=0
   . exact .inl M
   . right;have a1:(nv a:Int)=X*(K:Int)+((nv a%K:Nat):Int):=by
      rw[i, <-uR, <-vW,sL,a0]
     have a3:(nv b:Int)=Y*(K:Int)+((nv b%K:Nat):Int):=by
      rw[j, <-uR, <-vW,sL,a2]
     exact c.apply M (P:=(K:Int)) (by omega) (qF _) (by omega) (qF _) (by omega) a1 a3
def Wx (x:A4 W4.args) (d:awf W4.args x) (l:W4.pre x):Mb x:=by
 obtain⟨a,x,b,y,_⟩:=x;have i:A8 a:=A5 d.1.2;have j:A8 b:=A5 d.2.2.1.2;change Wf at a b;change Int at x y;have n:=(show u64.min<=x/\x<=u64.max from d.2.1);have o:=(show u64.min<=y/\y<=u64.max from d.2.2.2.1);rw[iT,BU]at n o;obtain⟨s,t,k⟩:a.length<=8796093022208/\b.length<=8796093022208/\nv b*y.toNat<=nv a*x.toNat:=l;have u:=D4 i;have v:=D4 j;have w:(nc x.toNat).length<=2:=Ep (by omega);have z:(nc y.toNat).length<=2:=Ep (by omega);have A:=Oo (nv a) x.toNat;have B:=Oo (nv b) y.toNat;simp only[Mb,P4];refine⟨trivial, ?_⟩;rintro⟨r,_⟩ _ c;simp only at c⊢;subst c;refine⟨⟨by omega,by omega⟩, ?_⟩;rintro⟨E,_⟩ _ g;refine⟨trivial, ?_⟩;rintro⟨r,_⟩ _ c;simp only at c g⊢;subst c;refine⟨⟨by omega,by omega⟩, ?_⟩;rintro⟨F,_⟩ _ h;simp only at h⊢;rw[F4]at g h;subst g h;refine⟨⟨by omega,by omega⟩, ?_⟩;rintro⟨r,D,_⟩ _ ⟨_,f⟩;simp only at f⊢;rw[F4,F4]at f;exact(f k).1
noncomputable def Ox:G4:= []
def Og:An:= {join:= [(8,⟨[0,1,5],[0,1,2],[(7,false,vU)],[],[]⟩)],loop:= [(4,⟨[0,1,5],[0,1,2],[(7,false,vU),(8,false,vU)],[],[]⟩),(10,⟨[0,1,5,7,84,85],[0,2],[(9,false,vU),(86,false,vI)],[],[(1, .row (.int .u32) 116)]⟩),(23,⟨[0,5,7,134,135],[0,2],[(9,false,vU),(136,false,vI)],[],[(1, .row (.int .u32) 116)]⟩)],plan:= [(2,[3,10],[],true,(pZ9 0 3 (.q 3 (pZ9 4 6 (.q 10 (pZ9 11 3 .done)))))),(3,[5,13],[],true,(pZ9 0 5 (.q 5 (pZ9 6 7 (.q 13 (pZ9 14 4 .done)))))),(4,[9,18],[],true,(pZ9 0 9 (.q 9 (pZ9 10 8 (.q 18 (pZ9 19 4 .done))))))]}
def Wa:An:= {join:= [(12,⟨[4,6,7,8,9,10,35,36],[0],[],[],[(1, .row (.int .u32) 116),(2, .row (.int .u32) 116)]⟩)],loop:= [(8,⟨[4,6,7,8,9,10,35],[0],[(36,false,vI)],[],[(1, .row (.int .u32) 116),(2, .row (.int .u32) 116)]⟩)]}
noncomputable def Wn:G4:= [(126,Bc),(191,K2),(194,R0),(196,M5),(195,V4 (Jf ⟨prog,tys⟩ [(53,Ox,Og)] f195.results.toList (f195.body.getD .skip) f195.ntmps))]
abbrev A7q:=Int×Wf×Wf×Unit
def He:A4 Q4.args->Prop:=fun(x:Fi)=>let P:=(63:Int);let G:=(2:Int);let F:=(32:Int);let K:=F.toNat;let D:=(1:Int);let s:=(0:Int);let o:=(x.2.1.length:Int);let c:Prop:=(s<=i64.wrap (o-s-D)/\i64.wrap (o-s-D)<o-s);(s<=i64.wrap (o-D)/\i64.wrap (o-D)<o)/\True/\∀(r:D6),let m:Prop:=(s<=r.1/\r.1<=31);O4 r.1/\True->r.1=F-(↑(K3 (gx s x.2.1 (i64.wrap (o-D))).toNat):Int)->(K5 x.2.1/\m)/\P4 fun T=>let u:=(List.getD T.1 (s+i64.wrap (o-s-D)).toNat s);T.1.length=List.length x.2.1+1/\nv T.1=nv x.2.1*2^Int.toNat r.1->(s<=s/\s<=o/\o<=(T.1.length:Int))/\(K5 x.1/\m)/\P4 fun V=>let A:=(V.1.length:Int);V.1.length=List.length x.1+1/\nv V.1=nv x.1*2^Int.toNat r.1->(s<=i64.wrap (A-o)/\i64.wrap (A-o)<=i64.wrap (A-o)/\(↑(4:Nat):Int)*i64.wrap (A-o)<=(281474976710656:Int)/\i64.wrap (A-o)<=(9223372036854775807:Int))/\∃(I:A7q->Prop),∃(a: _->Nat),I (s,V.1,List.replicate (i64.wrap (A-o)).toNat s,())/\∀(p:A7q),let M:=(p.2.1.length:Int);let n:=(i64.wrap (i64.wrap (A-o)-D)-p.1);let C:=(i64.wrap n+(o-s));let w:=(i64.wrap (i64.wrap n+o)+D);let v:=(u64.wrap (↑(BitVec.ofInt u64.bits (u64.wrap (u64.wrap (List.getD p.2.1 C.toNat s)*G^Min.min K u64.bits)) |||BitVec.ofInt u64.bits (u64.wrap (List.getD p.2.1 (i64.wrap n+i64.wrap (o-s-D)).toNat s))).toNat:Int));let l:Prop:=(p.1<i64.wrap (A-o));let h:Prop:=(s<=i64.wrap n/\i64.wrap n<(p.2.2.1.length:Int));let b:Prop:=(s<=o-s/\o-s<i64.wrap w-i64.wrap n);(Ty.int i64).wf p.1/\Gr p.2.1/\Gr p.2.2.1/\True->I p->(iB (decide l) (∃(J:Fi->Prop),((s<=i64.wrap n/\i64.wrap n<=i64.wrap w/\i64.wrap w<=M)/\b/\(0:(Ty.int u64).den)<=F/\(s<=i64.wrap (o-s-D)/\i64.wrap (o-s-D)<i64.wrap w-i64.wrap n)/\c/\u64.wrap u≠s/\c/\u64.wrap u≠s/\∃(J_1:D6->Prop),(∃(I:Dh->Prop),∃(a: _->Nat),I (u64.wrap (v.tdiv (u64.wrap u)),v.tmod (u64.wrap u),())/\∀(Q:Dh),let H:=(u64.wrap (Q.1-D),u64.wrap (Q.2.1+u64.wrap u),());let i:Prop:=((u64.wrap (Q.2.1+u64.wrap u)).fdiv (G^Min.min K u64.bits)≠s);let g:Prop:=(Int.fdiv Q.1 (G^Min.min K u64.bits)≠s);let d:Prop:=(u64.wrap (↑(BitVec.ofInt u64.bits (u64.wrap (Q.2.1*G^Min.min K u64.bits)) |||BitVec.ofInt u64.bits (u64.wrap (List.getD p.2.1 (i64.wrap n+i64.wrap (o-s-G)).toNat s))).toNat:Int)<u64.wrap (Q.1*u64.wrap (List.getD T.1 (s+i64.wrap (o-s-G)).toNat s)));(Ty.int u64).wf Q.1/\(Ty.int u64).wf Q.2.1/\True->I Q->(0:(Ty.int u64).den)<=F/\(decide g=false->s<=i64.wrap (o-s-G)/\i64.wrap (o-s-G)<o-s)/\(decide g=false->(0:(Ty.int u64).den)<=F)/\(decide g=false->s<=i64.wrap (o-s-G)/\i64.wrap (o-s-G)<i64.wrap w-i64.wrap n)/\(iB (I5 (decide g) true (decide d)) (c/\(0:(Ty.int u64).den)<=F/\(iB (decide i) (J_1 (u64.wrap (Q.1-D),())) (I H/\a H<a Q))) (J_1 (Q.1,()))))/\∀(Q:D6),(Ty.int u64).wf Q.1/\True->J_1 Q->∃(I:Rx->Prop),∃(a: _->Nat),I (s,s,p.2.1,())/\∀(R:Rx),let N:=(i64.wrap n+R.2.1);let E:=(u64.wrap (u64.wrap (Q.1*u64.wrap (List.getD T.1 (s+R.2.1).toNat s))+R.1));let z:=(u64.wrap (u64.wrap (List.getD R.2.2.1 C.toNat s)-R.1));let y:=(u64.wrap (u64.wrap (List.getD R.2.2.1 N.toNat s)-u64.wrap (u32.wrap E)));let q:=(u64.wrap (E.fdiv (G^Min.min K u64.bits)+y.fdiv (G^Min.min P.toNat u64.bits)),i64.wrap (R.2.1+D),List.set R.2.2.1 N.toNat (u32.wrap y),());let j:Prop:=(R.2.1<o-s);let f:Prop:=(z.fdiv (G^Min.min P.toNat u64.bits)=s);let d:Prop:=(s<=R.2.1/\R.2.1<i64.wrap w-i64.wrap n);(Ty.int u64).wf R.1/\(Ty.int i64).wf R.2.1/\Gr R.2.2.1/\True->I R->(iB (decide j) ((s<=R.2.1/\j)/\d/\d/\(0:(Ty.int u64).den)<=F/\(0:(Ty.int u64).den)<=P/\I q/\a q<a R) (b/\b/\(0:(Ty.int u64).den)<=P/\(iB (decide f) (h/\J (List.set R.2.2.1 C.toNat (u32.wrap z),List.set p.2.2.1 (i64.wrap n).toNat (u32.wrap Q.1),())) (∃(I:Rx->Prop),∃(a: _->Nat),I (s,s,List.set R.2.2.1 C.toNat (u32.wrap z),())/\∀(S:Rx),let O:=(i64.wrap n+S.2.1);let B:=(u64.wrap (S.1+u64.wrap (u64.wrap (List.getD S.2.2.1 O.toNat s)+u64.wrap (List.getD T.1 (s+S.2.1).toNat s))));let t:=(B.fdiv (G^Min.min K u64.bits),i64.wrap (S.2.1+D),List.set S.2.2.1 O.toNat (u32.wrap B),());let k:Prop:=(S.2.1<o-s);let e:Prop:=(s<=S.2.1/\S.2.1<i64.wrap w-i64.wrap n);(Ty.int u64).wf S.1/\(Ty.int i64).wf S.2.1/\Gr S.2.2.1/\True->I S->(iB (decide k) ((s<=S.2.1/\k)/\e/\e/\(0:(Ty.int u64).den)<=F/\I t/\a t<a S) (b/\b/\h/\J (List.set S.2.2.1 C.toNat (u32.wrap (List.getD S.2.2.1 C.toNat s+u32.wrap S.1)),List.set p.2.2.1 (i64.wrap n).toNat (u32.wrap (u64.wrap (Q.1-D))),()))))))))/\∀(Q:Fi),let L:=(i64.wrap (p.1+D),Q.1,Q.2.1,());Gr Q.1/\Gr Q.2.1/\True->J Q->I L/\a L<a p) ((s<=s/\s<=o/\o<=M)/\K5 (List.drop s.toNat (List.take o.toNat p.2.1))/\∀(U:A2e),Gr U.1/\True/\True->(r.1<s->U.1= []/\U.2.1=false)/\(s<=r.1->U.1=nc (nv (List.drop s.toNat (List.take o.toNat p.2.1))/(2:Nat)^Int.toNat r.1)/\U.2.1=true)->True/\P4 fun r=>r.1=nc (nv p.2.2.1)->r.1=nc (nv x.1/nv x.2.1)/\U.1=nc (nv x.1%nv x.2.1)))
def A9i {a b:Wf} {N D S:Nat} (g:A8 a) (h:A8 b) (f:b.length=N+2) (c:dg b (N+1)≠0) (d:a.length+1=D+(N+2)):nv a*2^S<nv b*2^S*4294967296^D:=by
 have d:0<2^S:=tP (by decide);have f:=Tm b (n:=N+1) (by omega);have f:4294967296^(N+1)<=nv b:=by
  have:=rW (4294967296^(N+1)) (sZ c);omega
 have c:=Ft g;rw[show a.length=(N+1)+D from by omega,uX]at c;have g:nv a<nv b*4294967296^D:=rD c (rM _ f);have c:=xA g d;rw[zO]at c;exact c
def B8y {A B S q r:Nat} (d:0<B) (c:A*2^S=q*(B*2^S)+r) (f:r<B*2^S):q=A/B/\r/2^S=A%B:=by
 have a:0<2^S:=tP (by decide);have b:q=A/B:=by
  rw[<-zY A B a,c,sL q,g2l (g3e d a),uI f,sU]
 refine⟨b, ?_⟩;have d:=wW A B;have f:r=(A%B)*2^S:=by
  have:A*2^S=(B*(A/B)+A%B)*2^S:=by rw[d]
  rw[this,b]at c;grind
 rw[f,g3z _ a]
def C0s {v:Wf} (d:A8 v) {n:Nat} (b:4294967296^n<=nv v) (c:nv v<4294967296^(n+1)):dg v n≠0:=by
 have a:0<4294967296^n:=tP (by decide);rw[ME d,tV (by rw[tS a,sL, <-sA];exact c)];have:=(vL a).2 (by rw[xN];exact b);omega
def A5v {u:Wf} (b:A8 u) {m i:Nat} (h:nv u<4294967296^m) (a:m<=i):dg u i=0:=by
 rw[ME b,uI (rD h (rZ (by decide) a))]
def eF {x y:Nat} (c:x<=4294967295) (d:y<=4294967295):u64.wrap (((BitVec.ofInt 64 (u64.wrap ((x:Int)*2^32)) |||BitVec.ofInt 64 (y:Int)).toNat:Nat):Int)=((x*4294967296+y:Nat):Int):=by
 rw[W8 (a:=(x:Int)*2^32) (by omega) (by omega)];have:=JN (v:=(y:Int)) (b:=(x:Int)) (k:=32) (by omega) (by omega) (by omega) (by omega) (by omega);rw[this,W8 (by omega) (by omega)];omega
def B4w {v:Int} :Int.fdiv v (2^32)=v/4294967296:=by
 rw[sJ _ (by decide)];rfl
def C1x {v:Int} :Int.fdiv v (2^63)=v/9223372036854775808:=by
 rw[sJ _ (by decide)];rfl
def cR {d x:Nat} (a:d<=4294967295) (b:x<=4294967295):d*x<=18446744065119617025:=qY (vB a b) (by decide)
def B3c {d v2 r a:Nat} (b:v2<=4294967295):I5 (decide ((d:Int)/4294967296≠0)) true (decide (((r*4294967296+a:Nat):Int)<u64.wrap ((d:Int)*(v2:Int))))=decide (4294967296<=d\/r*4294967296+a<d*v2):=by
 rw[J1];rcases sD d 4294967296 with h|h
 . have a:=cR (d:=d) (x:=v2) (by omega) b;rw[<-uR,W8 (by omega) (by omega)];have a:decide ((d:Int)/4294967296≠0)=false:=rC (by omega);rw[a,wP,wC];omega
 . have a:decide ((d:Int)/4294967296≠0)=true:=rE (by omega);rw[a,g0q];exact(rE (.inl h)).symm
def B2w {d x c y:Nat} (i:d<=4294967295) (j:x<=4294967295) (h:c<=d) (n:y<=4294967295):∃b f:Nat,
 u64.wrap (Int.fdiv (u64.wrap (u64.wrap ((d:Int)*(x:Int))+(c:Int))) (2^32)+Int.fdiv (u64.wrap ((y:Int)-u64.wrap (u32.wrap (u64.wrap (u64.wrap ((d:Int)*(x:Int))+(c:Int)))))) (2^63))=(b:Int)/\
 u32.wrap (u64.wrap ((y:Int)-u64.wrap (u32.wrap (u64.wrap (u64.wrap ((d:Int)*(x:Int))+(c:Int))))))=(f:Int)/\b<=d/\y+4294967296*b=f+(d*x+c):=by
 have l:=cR i j;obtain⟨k,g⟩:=A8t (D:=d) (v:=x) (c:=c) (t:=y) (by omega) (by omega) h;rw[<-uR,W8 (a:=((d*x:Nat):Int)) (by omega) (by omega)];generalize d*x=p at*;rw[W8 (a:=(p:Int)+(c:Int)) (by omega) (by omega),Bp,W8 (a:=((p:Int)+(c:Int))%4294967296) (by omega) (by omega),B4w,C1x,Bq ((y:Int)-_),Bp];refine⟨(p+c)/4294967296+(if y<(p+c)%4294967296 then 1 else 0),if y<(p+c)%4294967296 then y+4294967296-(p+c)%4294967296 else y-(p+c)%4294967296, ?_, ?_,g, ?_⟩
 . rw[W8 (by omega) (by omega)];split<;>omega
 . split<;>omega
 . split<;>omega
def B0x {U P V d:Nat} (a:0<P) (b:0<V) (h:P*(d*V)<=U):d<=U/P/V:=by
 rw[vL b,vL a,sL];exact h
def C0e {U P V d:Nat} (a:0<P) (b:0<V) (h:U<P*(d*V)):U/P/V<d:=by
 rw[tS b,tS a,sL];exact h
def bO {U0 U W V P d q a:Nat} (g:U0=q*V+U) (f:W+P*(d*V)=U) (i:a=q+P*d) (b:0<P) (c:0<V) (k:U/P/V=d):U0=a*V+W/\W<V*P:=by
 refine⟨by subst i;rw[g, <-f];grind, ?_⟩;have j:¬(P*((d+1)*V)<=U):=fun h=>by have:=B0x b c h;omega
 have e:P*((d+1)*V)=P*(d*V)+V*P:=by grind
 omega
def B7z {q:Wf} (f:A8 q) {Q j d:Nat} (a:nv q=Q*4294967296^(j+1)) (b:j<q.length):nv (q.set j (d:Int))=nv q+4294967296^j*d/\nv (q.set j (d:Int))=(Q*4294967296+d)*4294967296^j:=by
 have c:0<4294967296^j:=tP (by decide);have h:=Jb (l:=q) (k:=j) (v:=(d:Int)) b;rw[qV]at h;have b:dg q j=0:=by
  rw[ME f,a,sA,sL (4294967296^j), <-sR,g3z _ c,Nat.mul_mod_left]
 rw[b,wR,sU]at h;refine⟨h, ?_⟩;rw[h,a,sA];grind
def A8i {x c y:Nat} (g:x<=4294967295) (f:c<=1) (h:y<=4294967295):∃b d:Nat,
 Int.fdiv (u64.wrap ((c:Int)+u64.wrap ((y:Int)+(x:Int)))) (2^32)=(b:Int)/\
 u32.wrap (u64.wrap ((c:Int)+u64.wrap ((y:Int)+(x:Int))))=(d:Int)/\b<=1/\d+4294967296*b=c+(y+x):=by
 rw[W8 (a:=(y:Int)+(x:Int)) (by omega) (by omega),W8 (a:=(c:Int)+((y:Int)+(x:Int))) (by omega) (by omega),B4w,Bp];exact⟨(c+(y+x))/4294967296,(c+(y+x))%4294967296,by omega,by omega,by omega,by omega⟩
def Pe (x:A4 Q4.args) (bt:awf Q4.args x) (cl:Q4.pre x):He x:=by
 obtain⟨a,b,_⟩:=x;have cc:A8 a:=A5 bt.1.2;have I:A8 b:=A5 bt.2.1.2;change Wf at a b;obtain⟨dr,da,dh,bo⟩:a.length<=17592186044416/\2<=b.length/\b.length<=a.length/\Lv b:=cl;obtain⟨N,bf⟩:∃N,b.length=N+2:=⟨b.length-2,by omega⟩;have a8:=NV I bo;rw[show b.length-1=N+1 from by omega]at a8;simp only[He,iB,P4,Int.sub_zero,Int.zero_add];rw[wv (a:=(b.length:Int)-1) (by omega),wv (a:=(b.length:Int)-2) (by omega),Ex I (by omega) (by omega),show((b.length:Int)-1).toNat=N+1 from by omega,show((b.length:Int)-2).toNat=N from by omega];refine⟨⟨by omega,by omega⟩,trivial, ?_⟩;rintro⟨s,_⟩ _ bm;change Int at s;simp only at bm⊢;rw[qV]at bm;have dj:=N1 I (N+1);have df:=UC (v:=dg b (N+1)) (by omega);have de:=(AN a8).2;refine⟨⟨by show b.length<= _;omega,by omega,by omega⟩, ?_⟩;rintro⟨v,_⟩ ⟨ct,_⟩ ⟨bs,R⟩;refine⟨⟨qG _,by omega,by simp only at bs⊢;omega⟩,⟨by show a.length<= _;omega,by omega,by omega⟩, ?_⟩;rintro⟨f,_⟩ ⟨cr,_⟩ ⟨co,aw⟩;have t:A8 v:=A5 ct.2;have dq:A8 f:=A5 cr.2;change Wf at v f;simp only at bs R co aw⊢;have Z:nv v<4294967296^(N+2):=by
  rw[R];exact A3p I (n:=N+1) (by omega) (s:=s.toNat) (by omega)
 have bg:4294967296^(N+1)<=nv v:=by
  have z:=Tm b (n:=N+1) (by omega);have be:4294967296^(N+1)<=nv b:=by
   have:=rW (4294967296^(N+1)) (sZ a8);omega
  rw[R];exact qY be (g1t _ (tP (by decide)))
 have bp:=C0s t bg Z;have a0:0<nv v:=rD (tP (by decide)) bg;obtain⟨D,db⟩:∃D,f.length=D+(N+2):=⟨f.length-(N+2),by omega⟩;have bn:=A9i (S:=s.toNat) cc I bf a8 (D:=D) (by omega);rw[<-aw, <-R]at bn;rw[wv (a:=(f.length:Int)-(b.length:Int)) (by omega),show(f.length:Int)-(b.length:Int)=(D:Int)from by omega];have dc:1<=D:=by omega
 refine⟨⟨by omega,qG _,by omega,by omega⟩, ?_⟩;refine⟨fun p=>0<=p.1/\p.1<=(D:Int)/\p.2.1.length=f.length/\p.2.2.1.length=D/\nv f=nv p.2.2.1*nv v+nv p.2.1/\nv p.2.1<nv v*4294967296^((D:Int)-p.1).toNat/\∃Q,nv p.2.2.1=Q*4294967296^((D:Int)-p.1).toNat,fun p=>((D:Int)-p.1).toNat,⟨qG _,qF _,rfl,by simp, ?_, ?_,0, ?_⟩, ?_⟩
 . show nv f=nv (List.replicate _ 0)*nv v+nv f;rw[Qh];omega
 . show nv f<nv v*4294967296^((D:Int)-0).toNat;rw[show((D:Int)-0).toNat=D from by omega];exact bn
 . show nv (List.replicate _ 0)= _;rw[Qh];omega
 rintro⟨k,u,q,_⟩ ⟨_,cs,cq,_⟩ ⟨cz,d0,c4,b3,a9,J,Q,a7⟩;change Int at k;have F:A8 u:=A5 cs.2;have bl:A8 q:=A5 cq.2;change Wf at u q;simp only at cz d0 c4 b3 a9 J a7⊢;refine⟨fun a1=> ?_,fun a1=> ?_⟩
 . have a1:=qA a1;obtain⟨j,cf⟩:∃j:Nat,(D:Int)-1-k=(j:Int):=⟨((D:Int)-1-k).toNat,by omega⟩;rw[show((D:Int)-k).toNat=j+1 from by omega]at J a7;rw[wv (a:=(D:Int)-1) (by omega),cf,wv (a:=(j:Int)) (by omega),wv (a:=(j:Int)+(b.length:Int)) (by omega),wv (a:=(j:Int)+(b.length:Int)+1) (by omega),wv (a:=k+1) (by omega)];rw[show((j:Int)+(b.length:Int)).toNat=j+N+2 from by omega,show((j:Int)+((b.length:Int)-1)).toNat=j+N+1 from by omega,show((j:Int)+((b.length:Int)-2)).toNat=j+N from by omega];have dn:j+1<=D:=by omega
   have a4:=C1q F t (j:=j) (n:=N) (by omega) Z bp (by omega) J;have dv:=N1 t (N+1);have d4:=N1 t N;have d6:=N1 F (j+N+2);have d7:=N1 F (j+N+1);have d8:=N1 F (j+N);have Y:0<4294967296^j:=tP (by decide);refine⟨fun p=>p.1.length=f.length/\p.2.1.length=D/\nv f=nv p.2.1*nv v+nv p.1/\nv p.1<nv v*4294967296^j/\∃Q,nv p.2.1=Q*4294967296^j, ?_, ?_⟩
   . rw[X1 t,X1 t,X1 F,X1 F,X1 F];rw[W8 (a:=(dg v (N+1):Int)) (by omega) (by omega),W8 (a:=(dg v N:Int)) (by omega) (by omega),W8 (a:=(dg u (j+N+2):Int)) (by omega) (by omega),W8 (a:=(dg u (j+N+1):Int)) (by omega) (by omega),W8 (a:=(dg u (j+N):Int)) (by omega) (by omega)];rw[show Min.min (Int.toNat 32) u64.bits=32 from rfl,show Min.min (Int.toNat 63) u64.bits=63 from rfl,show u64.bits=64 from rfl,eF d6 d7];refine⟨⟨by omega,by omega,by omega⟩,⟨by omega,by omega⟩,by decide,⟨by omega,by omega⟩,⟨by omega,by omega⟩,by omega,⟨by omega,by omega⟩,by omega, ?_⟩;have an:=a4.est;have aa:= @ZM.near _ _ _ _ _ _ _ a4;have am:= @ZM.dec _ _ _ _ _ _ _ a4;have aq:= @ZM.out _ _ _ _ _ _ _ a4;generalize c9:nv u/4294967296^j/nv v=QS at an aa am aq⊢;refine⟨fun p=>QS<=p.1.toNat/\p.1.toNat<=QS+1/\0<=p.1/\p.1<4294967296, ?_, ?_⟩
     . refine⟨fun p=>∃d r:Nat,p.1=(d:Int)/\p.2.1=(r:Int)/\dg u (j+N+2)*4294967296+dg u (j+N+1)=d*dg v (N+1)+r/\QS<=d/\r<4294967296,fun p=>p.1.toNat, ?_, ?_⟩
       . have bq:0<dg v (N+1):=sZ bp;have cg:=(vL bq).2 an;have o:=wE (dg u (j+N+2)*4294967296+dg u (j+N+1)) bq;have cd:=wW (dg u (j+N+2)*4294967296+dg u (j+N+1)) (dg v (N+1));have dk:=wX (dg u (j+N+2)*4294967296+dg u (j+N+1)) (dg v (N+1));have dd:dg u (j+N+2)*4294967296+dg u (j+N+1)<=18446744073709551615:=by omega
         refine⟨(dg u (j+N+2)*4294967296+dg u (j+N+1))/dg v (N+1),(dg u (j+N+2)*4294967296+dg u (j+N+1))%dg v (N+1), ?_,rfl, ?_,cg,by omega⟩
         . show u64.wrap (Int.tdiv _ _)= _;have e:Int.tdiv ((dg u (j+N+2)*4294967296+dg u (j+N+1):Nat):Int) ((dg v (N+1):Nat):Int)=(((dg u (j+N+2)*4294967296+dg u (j+N+1))/dg v (N+1):Nat):Int):=rfl;rw[e];generalize (dg u (j+N+2)*4294967296+dg u (j+N+1))/dg v (N+1)=b9 at*;exact W8 (by omega) (by omega)
         . have:=cd.symm;rw[sL (dg v (N+1))]at this;exact this
       . rintro⟨ai,d3,_⟩ ⟨bj,_⟩ ⟨d,r,z,G,ar,cm,dp⟩;change Int at ai d3;simp only at z G bj⊢;subst z G;have di:(d:Int)<=18446744073709551615:=by have:=bj.2;rw[BU]at this;exact this
         rw[B4w,B4w,eF (x:=r) (by omega) d8,B3c d4];refine⟨by decide,fun _=>⟨by omega,by omega⟩,fun _=>by decide,fun _=>⟨by omega,by omega⟩,fun E=> ?_,fun E=> ?_⟩
         . have E:=qA E;have dm:=am ar cm E;rw[W8 (a:=(r:Int)+(dg v (N+1):Int)) (by omega) (by omega),W8 (a:=(d:Int)-1) (by omega) (by omega)];obtain⟨e,rfl⟩:∃e,d=e+1:=⟨d-1,by omega⟩;have au:dg u (j+N+2)*4294967296+dg u (j+N+1)=e*dg v (N+1)+(r+dg v (N+1)):=by rw[ar,uZ,xN];omega
           refine⟨⟨by omega,by omega⟩,by decide,fun X=> ?_,fun X=> ?_⟩
           . have X:=qA X;obtain⟨d1,d2⟩:=aq au (by omega) (by omega);have c3:=aa au d1 d2;have bc:(((e+1:Nat):Int)-1).toNat=e:=by omega
             refine⟨?_, ?_, ?_, ?_⟩
             . show _ <=(((e+1:Nat):Int)-1).toNat;rw[bc];omega
             . show(((e+1:Nat):Int)-1).toNat<= _;rw[bc];exact c3
             . show(0:Int)<=((e+1:Nat):Int)-1;omega
             . show((e+1:Nat):Int)-1< _;omega
           . have X:(((r:Int)+(dg v (N+1):Int))/4294967296)=0:=g2u (qB X);refine⟨⟨e,r+dg v (N+1),by omega,by omega,au,by omega,by omega⟩,by omega⟩
         . have E:=qB E;have c3:=aa ar (by omega) (by omega);exact⟨by show _ <=(d:Int).toNat;omega,by show(d:Int).toNat<= _;omega,qF _,by show(d:Int)< _;omega⟩
     . rintro⟨ai,_⟩ _ ⟨ba,ah,bb,c5⟩;change Int at ai;simp only at ba ah bb c5⊢;obtain⟨d,rfl⟩:=uP bb;rw[qV]at ba ah;clear an aa am aq;refine⟨fun p=>∃c i:Nat,p.1=(c:Int)/\p.2.1=(i:Int)/\i<=N+2/\c<=d/\p.2.2.1.length=f.length/\nv p.2.2.1+4294967296^j*(d*nv (v.take i))=nv u+4294967296^(j+i)*c/\∀m,j+i<=m->dg p.2.2.1 m=dg u m,fun p=>((N:Int)+2-p.2.1).toNat,⟨0,0,rfl,rfl,by omega,by omega,c4,by simp[nv],fun _ _=>rfl⟩, ?_⟩;rintro⟨ag,ax,w,_⟩ ⟨_,_,cu,_⟩ ⟨c,i,z,G,ao,E,ad,a5,hK⟩;change Int at ag ax;have ab:A8 w:=A5 cu.2;change Wf at w;simp only at z G ao E ad a5 hK⊢;subst z G;refine⟨fun g=> ?_,fun g=> ?_⟩
       . have g:(i:Int)<(b.length:Int):=qA g;have b7:=N1 t i;have ae:=N1 ab (j+i);rw[show((i:Int)).toNat=i from qV _,show((j:Int)+(i:Int)).toNat=j+i from by omega,X1 t,X1 ab,W8 (a:=(dg v i:Int)) (by omega) (by omega),W8 (a:=(dg w (j+i):Int)) (by omega) (by omega),wv (a:=(i:Int)+1) (by omega)];obtain⟨af,b4,az,b0,b1,b2⟩:=B2w (d:=d) (x:=dg v i) (c:=c) (y:=dg w (j+i)) (by omega) b7 E ae;rw[az,b0];refine⟨⟨by omega,g⟩,⟨by omega,by omega⟩,⟨by omega,by omega⟩,by decide,by decide,⟨af,i+1,rfl,by omega,by omega,b1,by rw[qN];exact ad, ?_, ?_⟩,by omega⟩
         . have O:=Jb (l:=w) (k:=j+i) (v:=(b4:Int)) (by omega);rw[qV]at O;rw[J0,show j+(i+1)=(j+i)+1 from by omega,sA _ (j+i)];exact A7j a5 O b2 (uX ..)
         . intro m o;rw[Xr (by omega),qH (by omega)];exact hK m (by omega)
       . have g:=qB g;have ap:i=N+2:=by omega
         subst ap;rw[Ie t,tV Z]at a5;have av:=hK (j+N+2) (by omega);rw[X1 ab,av,W8 (a:=(dg u (j+N+2):Int)) (by omega) (by omega),C1x,show((j:Int)).toNat=j from qV _];have ci:nv u<4294967296^(j+N+3):=by
          refine rD J ?_;have e:4294967296^(j+N+3)=4294967296^(N+2)*4294967296^(j+1):=by rw[<-uX];congr 1;omega
          rw[e];exact rM _ (vQ Z)
         rw[show j+(N+2)=j+N+2 from by omega]at a5;refine⟨⟨by omega,by omega⟩,⟨by omega,by omega⟩,by decide,fun H=> ?_,fun H=> ?_⟩
         . have H:=qA H;have bi:c<=dg u (j+N+2):=by rw[Bq]at H;omega
           rw[W8 (a:=(dg u (j+N+2):Int)-(c:Int)) (by omega) (by omega),w32 (a:=(dg u (j+N+2):Int)-(c:Int)) (by omega) (by omega),w32 (a:=(d:Int)) (by omega) (by omega)];have O:=Jb (l:=w) (k:=j+N+2) (v:=(dg u (j+N+2):Int)-(c:Int)) (by omega);rw[av,show((dg u (j+N+2):Int)-(c:Int)).toNat=dg u (j+N+2)-c from by omega,Nat.mul_sub]at O;have bh:=rW (4294967296^(j+N+2)) bi;have ak:nv (w.set (j+N+2) ((dg u (j+N+2):Int)-(c:Int)))+4294967296^j*(d*nv v)=nv u:=by omega
           have ce:=B0x Y a0 (U:=nv u) (d:=d) (by omega);obtain⟨b5,b6⟩:=B7z bl (d:=d) a7 (by omega);obtain⟨T,W⟩:=bO a9 ak b5 Y a0 (by omega);exact⟨⟨by omega,by omega⟩,by show(List.set _ _ _).length= _;rw[qN];exact ad,by show(List.set _ _ _).length= _;rw[qN];exact b3,T,W,_,b6⟩
         . have H:=qB H;have bi:dg u (j+N+2)<c:=by rw[Bq]at H;omega
           have c7:u32.wrap (u64.wrap ((dg u (j+N+2):Int)-(c:Int)))=((dg u (j+N+2)+4294967296-c:Nat):Int):=by
            rw[Bq,Bp];omega
           rw[c7];have O:=Jb (l:=w) (k:=j+N+2) (v:=((dg u (j+N+2)+4294967296-c:Nat):Int)) (by omega);rw[av,qV,Nat.mul_sub,tC]at O;have bh:=rW (4294967296^(j+N+2)) (show c<=dg u (j+N+2)+4294967296 by omega);rw[tC]at bh;have d5:A8 (w.set (j+N+2) ((dg u (j+N+2)+4294967296-c:Nat):Int)):=cI ab (by show 0<= _ /\ _ <= _;omega);have bv:∀m,j+N+3<=m->dg (w.set (j+N+2) ((dg u (j+N+2)+4294967296-c:Nat):Int)) m=0:=fun m o=>by
            rw[Xr (by omega),qH (by omega),hK m (by omega)];exact A5v F ci o
           have ch:(w.set (j+N+2) ((dg u (j+N+2)+4294967296-c:Nat):Int)).length=f.length:=by rw[qN];exact ad
           generalize w.set (j+N+2) ((dg u (j+N+2)+4294967296-c:Nat):Int)=ac at*;have cb:nv ac+4294967296^j*(d*nv v)=nv u+4294967296^(j+N+2)*4294967296:=by omega
           have cp:nv ac<4294967296^(j+N+2)*4294967296:=by
            have be:=T6 d5 (j+N+3);rw[OR bv, <-C2o (j+N)]at be;exact be
           have ce:=C0e Y a0 (U:=nv u) (d:=d) (by omega);obtain⟨e,rfl⟩:∃e,d=e+1:=⟨d-1,by omega⟩;refine⟨fun p=>∃c i:Nat,p.1=(c:Int)/\p.2.1=(i:Int)/\i<=N+2/\c<=1/\p.2.2.1.length=f.length/\nv p.2.2.1+4294967296^(j+i)*c=nv ac+4294967296^j*nv (v.take i)/\∀m,j+i<=m->dg p.2.2.1 m=dg ac m,fun p=>((N:Int)+2-p.2.1).toNat,⟨0,0,rfl,rfl,by omega,by omega,ch,by simp[nv],fun _ _=>rfl⟩, ?_⟩;rintro⟨ag,ax,y,_⟩ ⟨_,_,cv,_⟩ ⟨h,i,z,G,ao,bk,b8,a6,aj⟩;change Int at ag ax;have a3:A8 y:=A5 cv.2;change Wf at y;simp only at z G ao bk b8 a6 aj⊢;subst z G;refine⟨fun g=> ?_,fun g=> ?_⟩
           . have g:(i:Int)<(b.length:Int):=qA g;have b7:=N1 t i;have ae:=N1 a3 (j+i);rw[show((i:Int)).toNat=i from qV _,show((j:Int)+(i:Int)).toNat=j+i from by omega,X1 t,X1 a3,W8 (a:=(dg v i:Int)) (by omega) (by omega),W8 (a:=(dg y (j+i):Int)) (by omega) (by omega),wv (a:=(i:Int)+1) (by omega)];obtain⟨af,b4,az,b0,b1,b2⟩:=A8i (x:=dg v i) (c:=h) (y:=dg y (j+i)) b7 bk ae;rw[az,b0];refine⟨⟨by omega,g⟩,⟨by omega,by omega⟩,⟨by omega,by omega⟩,by decide,⟨af,i+1,rfl,by omega,by omega,b1,by rw[qN];exact b8, ?_, ?_⟩,by omega⟩
             . have a2:=Jb (l:=y) (k:=j+i) (v:=(b4:Int)) (by omega);rw[qV]at a2;rw[J0,show j+(i+1)=(j+i)+1 from by omega,sA _ (j+i)];exact A4t a6 a2 b2 (uX ..)
             . intro m o;rw[Xr (by omega),qH (by omega)];exact aj m (by omega)
           . have g:=qB g;have ap:i=N+2:=by omega
             subst ap;rw[Ie t,tV Z,show j+(N+2)=j+N+2 from by omega]at a6;have ae:=N1 a3 (j+N+2);have c8:u32.wrap ((dg y (j+N+2):Int)+u32.wrap (h:Int))=(((dg y (j+N+2)+h)%4294967296:Nat):Int):=by
              rw[w32 (a:=(h:Int)) (by omega) (by omega),Bp];omega
             have c6:u32.wrap (u64.wrap (((e+1:Nat):Int)-1))=(e:Int):=by
              rw[W8 (by omega) (by omega),w32 (by omega) (by omega)];omega
             rw[X1 a3,c8,c6];have a2:=Jb (l:=y) (k:=j+N+2) (v:=(((dg y (j+N+2)+h)%4294967296:Nat):Int)) (by omega);rw[qV]at a2;obtain⟨ay,cj,ck⟩:∃ay,dg y (j+N+2)+h=(dg y (j+N+2)+h)%4294967296+4294967296*ay/\ay<=1:=⟨(dg y (j+N+2)+h)/4294967296,by omega,by omega⟩;have d9:A8 (y.set (j+N+2) (((dg y (j+N+2)+h)%4294967296:Nat):Int)):=cI a3 (by show 0<= _ /\ _ <= _;omega);have cw:∀m,j+N+3<=m->dg (y.set (j+N+2) (((dg y (j+N+2)+h)%4294967296:Nat):Int)) m=0:=fun m o=>by
              rw[Xr (by omega),qH (by omega),aj m (by omega)];exact bv m o
             have cx:(y.set (j+N+2) (((dg y (j+N+2)+h)%4294967296:Nat):Int)).length=f.length:=by rw[qN];exact b8
             generalize y.set (j+N+2) (((dg y (j+N+2)+h)%4294967296:Nat):Int)=b9 at*;have cy:nv b9<4294967296^(j+N+2)*4294967296:=by
              have be:=T6 d9 (j+N+3);rw[OR cw, <-C2o (j+N)]at be;exact be
             obtain⟨ca,ak⟩:=A8l (U:=nv u) (P:=4294967296^j) (V:=nv v) (e:=e) (M:=4294967296^(j+N+2)) Y a0 cb cp (by rw[c9];exact ah) a6 a2 cj ck cy;obtain⟨b5,b6⟩:=B7z bl (d:=e) a7 (by omega);obtain⟨T,W⟩:=bO a9 ak b5 Y a0 ca;exact⟨⟨by omega,by omega⟩,⟨by omega,by omega⟩,⟨by omega,by omega⟩,cx,by show(List.set _ _ _).length= _;rw[qN];exact b3,T,W,_,b6⟩
   . rintro⟨du,dt,_⟩ _ ⟨bw,bx,bz,c0,Q',c2⟩;simp only at bw bx bz c0 c2⊢;rw[show((D:Int)-(k+1)).toNat=j from by omega];exact⟨⟨by omega,by omega,bw,bx,bz,c0,Q',c2⟩,by omega⟩
 . have a1:=qB a1;rw[show((D:Int)-k).toNat=0 from by omega,g0r,xC]at J;have cn:0<=s:=by omega
   obtain⟨T,W⟩:=B8y (A:=nv a) (B:=nv b) (S:=s.toNat) (q:=nv q) (r:=nv u) (sZ (XU I bo)) (by rw[<-aw, <-R];exact a9) (by rw[<-R];exact J);refine⟨⟨qG _,by omega,by omega⟩, ?_, ?_⟩
   . show(List.drop _ (List.take _ _)).length<= _;rw[sQ,qU];omega
   rintro⟨m,ds,_⟩ _ o;refine⟨trivial, ?_⟩;rintro⟨b9,_⟩ _ bu;simp only at o bu⊢;have o:=(o.2 cn).1;rw[show(Int.toNat 0)=0 from rfl,tZ,show((b.length:Int)).toNat=b.length from qV _,Ie F,bf,tV (by omega),W]at o;exact⟨by rw[bu,T],o⟩
def IA:An:= {plan:= [(8,[],[],true,(pZ9 0 3 (pZ9 4 3 (.e 3 (.e 7 (pZ9 8 3 .done))))))]}
def TQ:An:= {join:= [(4,⟨[],[],[(0,false,[.val (.sl (.int .u32))]),(1,false,[.val (.sl (.int .u32))])],[],[]⟩)],loop:= [(7,⟨[],[],[(5,false,vU),(6,false,vU)],[],[]⟩),(4,⟨[],[],[(0,false,[.val (.sl (.int .u32))]),(1,false,[.val (.sl (.int .u32))])],[],[]⟩)],plan:= [(8,[],[],true,(pZ9 0 6 .done)),(15,[2,5,9,12],[],true,(.p 0 (.p 1 (.q 2 (.p 3 (.p 4 (.q 5 (.p 7 (.p 8 (.q 9 (.p 10 (.p 11 (.q 12 (.e 6 (.e 13 (.p 14 (.p 15 .done))))))))))))))))),(16,[2,5,9,12],[],true,(.p 0 (.p 1 (.q 2 (.p 3 (.p 4 (.q 5 (.p 7 (.p 8 (.q 9 (.p 10 (.p 11 (.q 12 (.e 6 (.e 13 (.p 14 (.p 15 .done)))))))))))))))))]}
def Nt:A4 Y1.args->Prop:=fun(x:Fi)=>let e:=(0:Nat);let d:=(nv x.1%nv x.2.1);let c:=(nv x.1/nv x.2.1);let b:=(0:Int);True/\P4 fun r=>let f:Prop:=((r.1.length:Int)<=(2:Int));r.1=nc (nv x.1)->True/\P4 fun h=>let a:=(h.1.length:Int);h.1=nc (nv x.2.1)->(iB (decide (a=b)) ((nv x.2.1=e->Er Int= []/\Er Int= []/\false=false)/\(nv x.2.1≠e->Er Int=nc c/\Er Int=nc d/\false=true)) (True/\Fg fun k=>k.1=Bv (nv r.1) (nv h.1)->(iB (decide (k.1<b)) (Gq r.1/\P4 fun g=>g.1=nc (nv r.1)->(nv x.2.1=e->Er Int= []/\g.1= []/\true=false)/\(nv x.2.1≠e->Er Int=nc c/\g.1=nc d/\true=true)) ((iB (decide f) (List.length r.1<=2/\rT1 fun g=>g.1=(↑(nv r.1):Int)->List.length h.1<=2/\rT1 fun r=>r.1=(↑(nv h.1):Int)->r.1≠b/\r.1≠b/\True/\P4 fun i=>i.1=nc (u64.wrap (Int.tdiv g.1 r.1)).toNat->True/\P4 fun j=>j.1=nc (Int.tmod g.1 r.1).toNat->(nv x.2.1=e->i.1= []/\j.1= []/\true=false)/\(nv x.2.1≠e->i.1=nc c/\j.1=nc d/\true=true)) ((iB (decide (a=(1:Int))) ((b<=b/\b<a)/\(K5 r.1/\gx b h.1 b≠b)/\∀(g:Fi),Gr g.1/\Gr g.2.1/\True->g.1=nc (nv r.1/(gx b h.1 b).toNat)/\g.2.1=nc (nv r.1%(gx b h.1 b).toNat)->(nv x.2.1=e->g.1= []/\g.2.1= []/\true=false)/\(nv x.2.1≠e->g.1=nc c/\g.2.1=nc d/\true=true)) ((K5 r.1/\(2:Nat)<=List.length h.1/\List.length h.1<=List.length r.1/\Lv h.1)/\∀(g:Fi),Gr g.1/\Gr g.2.1/\True->g.1=nc (nv r.1/nv h.1)/\g.2.1=nc (nv r.1%nv h.1)->(nv x.2.1=e->g.1= []/\g.2.1= []/\true=false)/\(nv x.2.1≠e->g.1=nc c/\g.2.1=nc d/\true=true)))))))))
abbrev B3g:=Wf×Wf×Bool×Unit
def Zp:A4 Dw.args->Prop:=fun(x:Fi)=>let e:=(nv x.2.1);let c:=(0:Int);True/\P4 fun r=>r.1=nc (nv x.1)->True/\P4 fun j=>j.1=nc e->∃(J:Fi->Prop),(True/\Fg fun h=>h.1=Bv (nv r.1) (nv j.1)->(iB (decide (h.1<c)) (J (j.1,r)) (J (r.1,j))))/\∀(p:Fi),(Ty.int u32).sl.wf p.1/\(Ty.int u32).sl.wf p.2.1/\True->J p->∃(I:Fi->Prop),∃(a: _->Nat),I (p.1,p.2.1,())/\∀(p:Fi),let g:=(↑(nv p.2.1):Int);let d:Prop:=((p.1.length:Int)<=(2:Int));let b:Prop:=(c<(p.2.1.length:Int));(Ty.int u32).sl.wf p.1/\(Ty.int u32).sl.wf p.2.1/\True->I p->(iB (decide b) ((iB (decide d) (List.length p.1<=2/\rT1 fun r=>r.1=(↑(nv p.1):Int)->List.length p.2.1<=2/\rT1 fun h=>h.1=g->∃(I:Dh->Prop),∃(a: _->Nat),I (r.1,h)/\∀(p:Dh),let d:=(p.2.1,Int.tmod p.1 p.2.1,());(Ty.int u64).wf p.1/\(Ty.int u64).wf p.2.1/\True->I p->(iB (decide (p.2.1≠c)) (p.2.1≠c/\I d/\a d<a p) (True/\P4 fun r=>r.1=nc p.1.toNat->r.1=nc ((nv x.1).gcd e)))) ((K5 p.1/\(3:Nat)<=List.length p.1/\Lv p.1/\nv p.2.1<=nv p.1/\List.length p.2.1<=List.length p.1)/\∀(r:(Int×Int×Int×Int×Bool)×Unit),(HR r.1.1/\HR r.1.2.1/\HR r.1.2.2.1/\HR r.1.2.2.2.1/\True)/\True->B9r (↑(nv p.1):Int) g r.1.1 r.1.2.1 r.1.2.2.1 r.1.2.2.2.1 r.1.2.2.2.2->(iB (decide (r.1.2.2.1=c)) (K5 p.1/\∀(r:B3g),let f:=(p.2.1,r.2.1,());Gr r.1/\Gr r.2.1/\True/\True->(nv p.2.1=0->r.1= []/\r.2.1= []/\r.2.2.1=false)/\(nv p.2.1≠0->r.1=nc (nv p.1/nv p.2.1)/\r.2.1=nc (nv p.1%nv p.2.1)/\r.2.2.1=true)->I f/\a f<a p) ((iB r.1.2.2.2.2 ((En p.1/\En p.2.1/\nv p.2.1*Int.toNat r.1.2.2.1<=nv p.1*Int.toNat r.1.1)/\P4 fun h=>h.1=nc (nv p.1*Int.toNat r.1.1-nv p.2.1*Int.toNat r.1.2.2.1)->(En p.2.1/\En p.1/\nv p.1*Int.toNat r.1.2.1<=nv p.2.1*Int.toNat r.1.2.2.2.1)/\P4 fun i=>i.1=nc (nv p.2.1*Int.toNat r.1.2.2.2.1-nv p.1*Int.toNat r.1.2.1)->I (h.1,i)/\a (h.1,i)<a p) ((En p.2.1/\En p.1/\nv p.1*Int.toNat r.1.1<=nv p.2.1*Int.toNat r.1.2.2.1)/\P4 fun h=>h.1=nc (nv p.2.1*Int.toNat r.1.2.2.1-nv p.1*Int.toNat r.1.1)->(En p.1/\En p.2.1/\nv p.2.1*Int.toNat r.1.2.2.2.1<=nv p.1*Int.toNat r.1.2.1)/\P4 fun i=>i.1=nc (nv p.1*Int.toNat r.1.2.1-nv p.2.1*Int.toNat r.1.2.2.2.1)->I (h.1,i)/\a (h.1,i)<a p))))))) (Gq p.1/\P4 fun r=>r.1=nc (nv p.1)->r.1=nc ((nv x.1).gcd e)))
def Zo (x:A4 Y1.args) (I:awf Y1.args x) (R:Y1.pre x):Nt x:=by
 obtain⟨a,b,_⟩:=x;have O:A8 a:=A5 I.1.2;have Y:A8 b:=A5 I.2.1.2;change Wf at a b;have B:a.length<=17592186044416:=R;have W:=D4 O;simp only[Nt,iB,P4,rT1,Fg];refine⟨trivial, ?_⟩;rintro⟨y,_⟩ _ r;refine⟨trivial, ?_⟩;rintro⟨s,_⟩ _ j;simp only at r j⊢;have t:nv y=nv a:=by rw[r,F4]
 have u:nv s=nv b:=by rw[j,F4]
 have A:y.length<=a.length:=by rw[r];exact W
 have a1:A8 y:=r▸J7 _;have T:A8 s:=j▸J7 _;refine⟨fun h=> ?_,fun h=> ?_⟩
 . have h:=qA h;have c:nv b=0:=by rw[<-u,qO (l:=s) (by omega)];rfl
   exact⟨fun _=>⟨by trivial,by trivial,by trivial⟩,fun f=>absurd c f⟩
 have h:=qB h;have o:nv b≠0:=fun c=>h (by rw[j,c,P3];rfl)
 refine⟨trivial, ?_⟩;rintro⟨X,_⟩ _ g;simp only at g⊢;rw[t,u]at g;refine⟨fun h=> ?_,fun h=> ?_⟩
 . have h:=qA h;have E:nv a<nv b:=by
    rcases sD (nv a) (nv b)with f|f
    . exact f
    . unfold Bv at g;rw[qH (by omega)]at g;split at g<;>omega
   refine⟨qY A (qY B (by decide)), ?_⟩;rintro⟨a3,_⟩ _ H;simp only at H⊢;refine⟨fun c=>absurd c o,fun _=>⟨?_, ?_,by trivial⟩⟩
   . rw[uI E,P3]
   . rw[tV E,H,t]
 have h:=qB h;have P:nv b<=nv a:=by
  rcases sD (nv a) (nv b)with f|f
  . rw[Nb f]at g;omega
  . exact f
 have U:s.length<=y.length:=by rw[r,j];exact J4 P
 refine⟨fun k=> ?_,fun k=> ?_⟩
 . have k:=qA k;refine⟨by omega, ?_⟩;rintro⟨x,_⟩ ⟨J,_⟩ v;refine⟨by omega, ?_⟩;rintro⟨D,_⟩ ⟨V,_⟩ w;change Int at x D;simp only at J V v w⊢;rw[t]at v;rw[u]at w;have a2:x<=18446744073709551615:=by have:=J.2;rw[BU]at this;exact this
   have M:Int.tdiv x D=((nv a/nv b:Nat):Int):=by rw[v,w];rfl
   have N:Int.tmod x D=((nv a%nv b:Nat):Int):=by rw[v,w];rfl
   have a0:nv a/nv b<=nv a:=wX _ _;refine⟨by omega,by omega,trivial, ?_⟩;rintro⟨q,_⟩ _ G;refine⟨trivial, ?_⟩;rintro⟨m,_⟩ _ F;simp only at G F⊢;refine⟨fun c=>absurd c o,fun _=>⟨?_, ?_,by trivial⟩⟩
   . rw[G,M];generalize nv a/nv b=Q at*;rw[W8 (by omega) (by omega)];rfl
   . rw[F,N];rfl
 have k:=qB k;refine⟨fun n=> ?_,fun n=> ?_⟩
 . have n:=qA n;have e:(gx (0:Int) s (0:Int)).toNat=nv b:=by
    rw[<-u];obtain⟨z,rfl⟩:∃z,s= [z]:=g2e.1 (by omega);show z.toNat=z.toNat+4294967296*0;omega
   have Z:=Tf T (i:=0) (qG _) (by omega);refine⟨⟨qG _,by omega⟩,⟨qY A B,by omega⟩, ?_⟩;rintro⟨q,m,_⟩ _ d;simp only at d⊢;rw[e,t]at d;exact⟨fun c=>absurd c o,fun _=>⟨d.1,d.2,by trivial⟩⟩
 have n:=qB n;refine⟨⟨qY A B,by omega,U,by rw[j];exact cS o⟩, ?_⟩;rintro⟨q,m,_⟩ _ d;simp only at d⊢;rw[t,u]at d;exact⟨fun c=>absurd c o,fun _=>⟨d.1,d.2,by trivial⟩⟩
structure jH (A B A' B':Nat):Prop where
 g:Nat.gcd A' B'=Nat.gcd A B
 le:B'<=A'
 lt:A'+B'<A+B
 top:A'<=A
def A5s {A B:Nat} (h:B<=A) (a:0<B):jH A B B (A%B) where
 g:=by rw[wZ A B,wZ B];exact(g3d B A).symm
 le:=vQ (wE _ a)
 lt:=by have:=wE A a;omega
 top:=h
def A6b {A B:Nat} {u0 u1 v0 v1:Int} {ev:Bool} (I:0<B) (h:B9r A B u0 u1 v0 v1 ev) (r:v0≠0):
 (ev=true->B*v0.toNat<=A*u0.toNat/\A*u1.toNat<=B*v1.toNat/\jH A B (A*u0.toNat-B*v0.toNat) (B*v1.toNat-A*u1.toNat))/\
 (ev=false->A*u0.toNat<=B*v0.toNat/\B*v1.toNat<=A*u1.toNat/\jH A B (B*v0.toNat-A*u0.toNat) (A*u1.toNat-B*v1.toNat)):=by
 rcases h with h| ⟨A',B',d,f,k,n,u,iB,v,w,z,D⟩
 . exact absurd h r
 have o:=B0b (A:=A) (B:=B) (A':=A') (B':=B') (u0:=u0) (u1:=u1) (v0:=v0) (v1:=v1) (s:=if ev then u0 else -u0) (t:=if ev then -v0 else v0) (p:=if ev then -u1 else u1) (q:=if ev then v1 else -v1) u iB (by rw[d];cases ev<;>simp<;>grind) (by rw[f];cases ev<;>simp<;>grind);obtain⟨U0,rfl⟩:=uP z;obtain⟨U1,rfl⟩:=uP D;obtain⟨V0,rfl⟩:=uP (show(0:Int)<=v0 by omega);obtain⟨V1,rfl⟩:=uP (show(0:Int)<=v1 by omega);obtain⟨b,rfl⟩:=uP k;obtain⟨a,rfl⟩:=uP (Int.le_trans k n);simp only[qV];have J:(1:Int)*(a:Int)<=(V1:Int)*a:=sK w (by omega);have M:(1:Int)*(b:Int)<=(V0:Int)*b:=sK v (by omega);have c:∀x y:Nat,((x*y:Nat):Int)=(y:Int)*(x:Int):=fun x y=>by rw[uR,g2d]
 have E:=c A U0;have F:=c B V0;have G:=c A U1;have H:=c B V1;have l:jH A B a b:=⟨o.symm,by omega,by omega,by omega⟩;refine⟨fun g=> ?_,fun g=> ?_⟩
 . subst g;simp only[wF]at d f;have i:A*U0-B*V0=a:=by omega
   have j:B*V1-A*U1=b:=by omega
   refine⟨by omega,by omega, ?_⟩;rw[i,j];exact l
 . subst g;simp only[vZ,yR]at d f;have i:B*V0-A*U0=a:=by omega
   have j:A*U1-B*V1=b:=by omega
   refine⟨by omega,by omega, ?_⟩;rw[i,j];exact l
def B0c {x y:Int} (d:0<=x) (f:0<y):Nat.gcd y.toNat (Int.tmod x y).toNat=Nat.gcd x.toNat y.toNat/\(Int.tmod x y).toNat<y.toNat:=by
 obtain⟨a,rfl⟩:=uP d;obtain⟨b,rfl⟩:=uP (wY f);have e:Int.tmod (a:Int) (b:Int)=((a%b:Nat):Int):=rfl;simp only[e,qV];have c:0<b:=by omega
 exact⟨by rw[wZ a b,wZ b];exact(g3d b a).symm,wE _ c⟩
structure A8d (G:Nat) (a b:Wf):Prop where
 ea:a=nc (nv a)
 eb:b=nc (nv b)
 le:nv b<=nv a
 g:Nat.gcd (nv a) (nv b)=G
 len:a.length<=8796093022208
def A8d.step {G:Nat} {a b c d:Wf} {A' B':Nat} (h:A8d G a b) (s:jH (nv a) (nv b) A' B') (i:c=nc A') (j:d=nc B'):A8d G c d/\nv c+nv d<nv a+nv b:=by
 have f:nv c=A':=by rw[i,F4]
 have c:nv d=B':=by rw[j,F4]
 refine⟨⟨by rw[f];exact i,by rw[c];exact j,by rw[f,c];exact s.le,by rw[f,c,s.g];exact h.g, ?_⟩,by rw[f,c];exact s.lt⟩;have:=J4 s.top;rw[<-h.ea]at this;rw[i];exact qY this h.len
def KO (x:A4 Dw.args) (J:awf Dw.args x) (k:Dw.pre x):Zp x:=by
 obtain⟨c,d,_⟩:=x;have U:A8 c:=A5 J.1.2;have V:A8 d:=A5 J.2.1.2;change Wf at c d;obtain⟨ah,ai⟩:c.length<=8796093022208/\d.length<=8796093022208:=k;have aj:=D4 U;have ak:=D4 V;simp only[Zp,iB,P4,rT1,Fg];refine⟨trivial, ?_⟩;rintro⟨a3,_⟩ _ v;refine⟨trivial, ?_⟩;rintro⟨a4,_⟩ _ w;simp only at v w⊢;have n:nv a3=nv c:=by rw[v,F4]
 have o:nv a4=nv d:=by rw[w,F4]
 refine⟨fun p=>A8d (Nat.gcd (nv c) (nv d)) p.1 p.2.1,⟨trivial, ?_⟩, ?_⟩
 . rintro⟨ad,_⟩ _ r;simp only at r⊢;rw[n,o]at r;refine⟨fun t=> ?_,fun t=> ?_⟩
   . have t:=qA t;refine⟨by rw[o];exact w,by rw[n];exact v, ?_,by rw[n,o,wZ],by rw[w];omega⟩;rw[n,o];rcases sD (nv c) (nv d)with f|f
     . omega
     . unfold Bv at r;rw[qH (by omega)]at r;split at r<;>omega
   . have t:=qB t;refine⟨by rw[n];exact v,by rw[o];exact w, ?_,by rw[n,o],by rw[v];omega⟩;rw[n,o];rcases sD (nv c) (nv d)with f|f
     . rw[Nb f]at r;omega
     . exact f
 rintro⟨ab,ac,_⟩ _ F;simp only at F⊢;refine⟨fun p=>A8d (Nat.gcd (nv c) (nv d)) p.1 p.2.1,fun p=>nv p.1+nv p.2.1,F, ?_⟩;rintro⟨s,h,_⟩ ⟨a1,a2,_⟩ a;have ae:A8 s:=A5 a1.2;have af:A8 h:=A5 a2.2;change Wf at s h;simp only at a⊢;have ag:=a.len;have Z:h.length<=s.length:=by rw[a.ea,a.eb];exact J4 a.le
 refine⟨fun j=> ?_,fun j=> ?_⟩
 . have j:=qA j;have G:0<nv h:=by
    rcases vE (nv h)with f|f
    . have:=a.eb;rw[f,P3]at this;rw[this]at j;exact absurd j (by simp)
    . exact f
   have T:nv s≠0:=by have:=a.le;omega
   refine⟨fun u=> ?_,fun u=> ?_⟩
   . have u:=qA u;refine⟨by omega, ?_⟩;rintro⟨x,_⟩ _ M;refine⟨by omega, ?_⟩;rintro⟨O,_⟩ _ N;simp only at M N⊢;refine⟨fun p=>0<=p.1/\0<=p.2.1/\Nat.gcd p.1.toNat p.2.1.toNat=Nat.gcd (nv c) (nv d),fun p=>p.2.1.toNat,⟨by show(0:Int)<=x;omega,by show(0:Int)<=O;omega, ?_⟩, ?_⟩
     . show Nat.gcd x.toNat O.toNat= _;rw[M,N,qV,qV];exact a.g
     rintro⟨X,Y,_⟩ _ ⟨E,P,z⟩;change Int at X Y;simp only at E P z⊢;refine⟨fun i=> ?_,fun i=> ?_⟩
     . have i:=qA i;obtain⟨Q,R⟩:=B0c E (show 0<Y by omega);exact⟨i,⟨P,zE _ E,by rw[Q];exact z⟩,R⟩
     . have i:Y=0:=g2u (qB i);refine⟨trivial, ?_⟩;rintro⟨q,_⟩ _ b;simp only at b⊢;rw[i]at z;rw[b, <-z];exact tA nc (g1a _).symm
   . have u:=qB u;refine⟨⟨by omega,by omega,by rw[a.ea];exact cS T,a.le,Z⟩, ?_⟩;rintro⟨⟨a5,a6,a7,a8,ev⟩,_⟩ _ H;change Int at a5 a6 a7 a8;change Bool at ev;simp only at H⊢;refine⟨fun y=> ?_,fun y=> ?_⟩
     . refine⟨by omega, ?_⟩;rintro⟨q,m,am,_⟩ _ I;simp only at I⊢;obtain⟨_,a0,_⟩:=I.2 (by omega);exact a.step (A5s a.le G) a.eb a0
     . have y:=qB y;obtain⟨a9,aa⟩:=A6b G H y;refine⟨fun B=> ?_,fun B=> ?_⟩
       . obtain⟨c1,A,D⟩:=a9 B;refine⟨⟨by omega,by omega,c1⟩, ?_⟩;rintro⟨p,_⟩ _ k;refine⟨⟨by omega,by omega,A⟩, ?_⟩;rintro⟨q,_⟩ _ b;simp only at k b⊢;exact a.step D k b
       . obtain⟨c1,A,D⟩:=aa B;refine⟨⟨by omega,by omega,c1⟩, ?_⟩;rintro⟨p,_⟩ _ k;refine⟨⟨by omega,by omega,A⟩, ?_⟩;rintro⟨q,_⟩ _ b;simp only at k b⊢;exact a.step D k b
 . have j:=qB j;refine⟨by show s.length<=35184372088832;omega, ?_⟩;rintro⟨q,_⟩ _ b;simp only at b⊢;have W:nv h=0:=by rw[qO (l:=h) (by omega)];rfl
   have:=a.g;rw[W,g1a]at this;rw[b,this]
def HW:An:= {}
def EX:An:= {}
def QB:An:= {}
def QA:An:= {plan:= [(1,[1,3],[6],true,(.p 0 (.q 1 (.p 2 (.q 3 (.e 4 (.e 5 (.e 6 .done))))))))]}
def TL:An:= {plan:= [(1,[1,4],[7],true,(.p 0 (.q 1 (.p 2 (.p 3 (.q 4 (.e 5 (.e 6 (.e 7 .done)))))))))]}
def TJ:An:= {plan:= [(2,[1,3,5],[8],true,(.p 0 (.q 1 (.p 2 (.q 3 (.p 4 (.q 5 (.e 6 (.e 7 (.e 8 .done))))))))))]}
def TK:An:= {plan:= [(1,[1,3,6,8],[11],true,(.p 0 (.q 1 (.p 2 (.q 3 (.p 4 (.p 5 (.q 6 (.p 7 (.q 8 (.e 9 (.e 10 (.e 11 .done)))))))))))))]}
def EW:An:= {plan:= [(1,[0,2],[],true,(.q 0 (.q 2 (.e 1 (.e 3 (.p 4 (.p 5 .done)))))))]}
def Nq:A4 X9.args->Prop:=fun(x:Bool×Wf×Unit)=>(I5 x.1 (decide ((0:Int)<(x.2.1.length:Int))) false,x.2.1)=(x.1&&decide (x.2.1≠ []),x.2.1)
def T7 (P:(Bool×Wf)×Unit->Prop):Prop:=∀r:(Bool×Wf)×Unit,jB r.1/\True->P r
def Lz:A4 W2.args->Prop:=fun(x:D6)=>(iB (decide (x.1<0)) (True/\P4 fun r=>r.1=nc (u64.wrap (-u64.wrap x.1)).toNat->True/\T7 fun a=>a.1=(true&&decide (r.1≠ []),r.1)->a.1=ic x.1) (True/\P4 fun r=>r.1=nc (u64.wrap x.1).toNat->True/\T7 fun a=>a.1=(false&&decide (r.1≠ []),r.1)->a.1=ic x.1))
abbrev Wq:=(Bool×Wf)×Unit
def Ve:A4 Cf.args->Prop:=fun(x:Wq)=>True/\Fg fun r=>r.1=Bv (nv x.1.2) (nv [])->(iB (decide (r.1=0)) ((0:Int)=(iv x.1).sign) ((iB x.1.1 ((-1:Int)=(iv x.1).sign) ((1:Int)=(iv x.1).sign))))
def Vd:A4 Ce.args->Prop:=fun(x:Wq)=>Gq x.1.2/\P4 fun r=>r.1=nc (nv x.1.2)->True/\T7 fun a=>a.1=(x.1.1&&decide (r.1≠ []),r.1)->a.1=ic (iv x.1)
def Zf:A4 Dr.args->Prop:=fun(x:Wq)=>Gq x.1.2/\P4 fun r=>r.1=nc (nv x.1.2)->True/\T7 fun a=>a.1=(!x.1.1&&decide (r.1≠ []),r.1)->a.1=ic (-iv x.1)
abbrev ty9:=(Bool×Wf)×(Bool×Wf)×Unit
def Zd:A4 Dp.args->Prop:=fun(x:ty9)=>let b:Prop:=(K5 x.1.2/\K5 x.2.1.2);let a:=(iv x.1+iv x.2.1);(iB ((x.1.1==x.2.1.1)) (b/\P4 fun r=>r.1=nc (nv x.1.2+nv x.2.1.2)->True/\T7 fun c=>c.1=(x.1.1&&decide (r.1≠ []),r.1)->c.1=ic a) (b/\∀(r:A2e),Gr r.1/\True/\True->(nv x.1.2<nv x.2.1.2->r.1= []/\r.2.1=false)/\(nv x.2.1.2<=nv x.1.2->r.1=nc (nv x.1.2-nv x.2.1.2)/\r.2.1=true)->(iB r.2.1 (True/\T7 fun c=>c.1=(x.1.1&&decide (r.1≠ []),r.1)->c.1=ic a) ((K5 x.2.1.2/\K5 x.1.2)/\∀(r:A2e),Gr r.1/\True/\True->(nv x.2.1.2<nv x.1.2->r.1= []/\r.2.1=false)/\(nv x.1.2<=nv x.2.1.2->r.1=nc (nv x.2.1.2-nv x.1.2)/\r.2.1=true)->True/\T7 fun c=>c.1=(x.2.1.1&&decide (r.1≠ []),r.1)->c.1=ic a))))
def Ze:A4 Dq.args->Prop:=fun(x:ty9)=>(K5 x.1.2/\K5 x.2.1.2)/\P4 fun r=>r.1=nc (nv x.1.2*nv x.2.1.2)->True/\T7 fun a=>a.1=(x.1.1 !=x.2.1.1&&decide (r.1≠ []),r.1)->a.1=ic (iv x.1*iv x.2.1)
def Ly:A4 W1.args->Prop:=fun(x:ty9)=>let b:=(iv x.1);let a:=(iv x.2.1);True/\Fg fun r=>r.1=b.sign->True/\Fg fun c=>c.1=a.sign->(iB (decide (r.1<c.1)) ((-1:Int)=O6 b a) ((iB (decide (c.1<r.1)) ((1:Int)=O6 b a) ((iB (decide (r.1<0)) (True/\Fg fun r=>r.1=Bv (nv x.2.1.2) (nv x.1.2)->r.1=O6 b a) (True/\Fg fun r=>r.1=Bv (nv x.1.2) (nv x.2.1.2)->r.1=O6 b a))))))
def Zg (x:A4 X9.args) (a:awf X9.args x) (_:X9.pre x):Nq x:=by
 obtain⟨b,l,_⟩:=x;change Bool at b;change Wf at l;simp only[Nq,H0];cases l<;>simp
def Wv (x:A4 W2.args) (d:awf W2.args x) (_:W2.pre x):Lz x:=by
 obtain⟨v,_⟩:=x;change Int at v;have c:i64.min<=v/\v<=i64.max:=d.1;rw[Tc,BA]at c;simp only[Lz,iB,P4,T7];refine⟨fun h=>⟨trivial, ?_⟩,fun h=>⟨trivial, ?_⟩⟩
 . rintro⟨r,_⟩ _ a;refine⟨trivial, ?_⟩;rintro⟨s,_⟩ _ b;simp only at a b⊢;have h:=qA h;have e:(u64.wrap (-u64.wrap v)).toNat=v.natAbs:=by rw[Bq,Bq];omega
   rw[e]at a;subst b a;unfold ic;rw[rE h,wQ,rE (by rw[g4i,Yd];omega)]
 . rintro⟨r,_⟩ _ a;refine⟨trivial, ?_⟩;rintro⟨s,_⟩ _ b;simp only at a b⊢;have h:=qB h;have e:(u64.wrap v).toNat=v.natAbs:=by rw[Bq];omega
   rw[e]at a;subst b a;unfold ic;rw[rC h,yO]
def GZ (x:A4 Cf.args) (f:awf Cf.args x) (_:Cf.pre x):Ve x:=by
 obtain⟨⟨d,l⟩,_⟩:=x;change Bool at d;change Wf at l;simp only[Ve,iB,Fg];refine⟨trivial, ?_⟩;rintro⟨r,_⟩ _ a;simp only at a⊢;rw[gU]at a;refine⟨fun h=> ?_,fun h=>⟨fun c=> ?_,fun c=> ?_⟩⟩
 . have h:=qA h;have b:nv l=0:=VV.1 (a▸h);unfold iv;simp only[b];split<;>rfl
 . have h:=qB h;have b:nv l≠0:=fun e=>h (by rw[a,e];rfl)
   unfold iv;simp only[c,wF];rw[Int.sign_neg,uU (by omega)]
 . have h:=qB h;have b:nv l≠0:=fun e=>h (by rw[a,e];rfl)
   unfold iv;simp only[c];exact(uU (by simp;omega)).symm
def XN {neg:Bool} {m:Nat} {v:Int} (h:v=if neg=true then -(m:Int)else(m:Int)):(neg&&decide (nc m≠ []),nc m)=ic v:=by
 have e:ic (iv (neg,nc m))=(neg&&decide (m≠0),nc m):=B0h;have a:iv (neg,nc m)=v:=by rw[h];unfold iv;simp only[F4]
 rw[a]at e;rw[e];have:decide (nc m≠ [])=decide (m≠0):=wC.2 (g4w Yd);rw[this]
def GY (x:A4 Ce.args) (f:awf Ce.args x) (d:Ce.pre x):Vd x:=by
 obtain⟨⟨c,l⟩,_⟩:=x;change Bool at c;change Wf at l;simp only[Vd,P4,T7];refine⟨d, ?_⟩;rintro⟨r,_⟩ _ a;refine⟨trivial, ?_⟩;rintro⟨z,_⟩ _ b;simp only at a b⊢;subst a;rw[b];exact XN rfl
def KG (x:A4 Dp.args) (s:awf Dp.args x) (o:Dp.pre x):Zd x:=by
 obtain⟨⟨b,l⟩,⟨g,k⟩,_⟩:=x;change Bool at b g;change Wf at l k;obtain⟨j,i⟩:K5 l/\K5 k:=o;simp only[Zd,iB,P4,T7];refine⟨fun h=> ?_,fun h=> ?_⟩
 . refine⟨⟨j,i⟩, ?_⟩;rintro⟨r,_⟩ _ c;refine⟨trivial, ?_⟩;rintro⟨z,_⟩ _ a;simp only at c a⊢;have h:b=g:=by simpa using h
   subst c h;rw[a];refine XN ?_;unfold iv;cases b<;>simp<;>omega
 . have h:g= !b:=by cases b<;>cases g<;>simp_all
   subst h;refine⟨⟨j,i⟩, ?_⟩;rintro⟨r,t,_⟩ _ c;simp only at c⊢;refine⟨fun f=>⟨trivial, ?_⟩,fun f=>⟨⟨i,j⟩, ?_⟩⟩
   . rintro⟨z,_⟩ _ a;simp only at a⊢;rcases sD (nv l) (nv k)with d|d
     . rw[(c.1 d).2]at f;exact absurd f (by decide)
     . rw[(c.2 d).1]at a;rw[a];refine XN ?_;unfold iv;cases b<;>simp<;>omega
   . rintro⟨v,u,_⟩ _ n;refine⟨trivial, ?_⟩;rintro⟨z,_⟩ _ a;simp only at n a⊢;rcases sD (nv l) (nv k)with d|d
     . rw[(n.2 (by omega)).1]at a;rw[a];refine XN ?_;unfold iv;cases b<;>simp<;>omega
     . rw[(c.2 d).2]at f;exact absurd f (by decide)
def KH (x:A4 Dq.args) (i:awf Dq.args x) (h:Dq.pre x):Ze x:=by
 obtain⟨⟨b,l⟩,⟨c,k⟩,_⟩:=x;change Bool at b c;change Wf at l k;obtain⟨g,f⟩:K5 l/\K5 k:=h;simp only[Ze,P4,T7];refine⟨⟨g,f⟩, ?_⟩;rintro⟨r,_⟩ _ a;refine⟨trivial, ?_⟩;rintro⟨z,_⟩ _ d;simp only at a d⊢;subst a;rw[d];refine XN ?_;unfold iv;cases b<;>cases c<;>simp<;>grind
def CH:An:= {}
def IE:An:= {plan:= [(3,[1],[4],false,(.p 0 (.q 1 (.p 2 (.or 3 (.e 4 (.p 5 .done)) (.e 4 (.e 3 (.p 5 .done))))))))]}
def LW:An:= {}
def IF:An:= {}
def Xh:An:= {join:= [(4,⟨[0,1,4],[0],[(5,false,vU)],[],[]⟩)],loop:= [(5,⟨[0,1,4,5],[0],[(6,false,vU),(7,false,vU)],[],[]⟩)],plan:= [(6,[],[],true,(pZ9 0 6 .done)),(7,[],[13],true,(pZ9 0 5 (pZ9 7 4 (.e 5 (.p 6 (.e 11 (.p 12 (.e 13 .done))))))))]}
def FD:An:= {join:= [(8,⟨[2,4],[1],[(1,false,[.val (.sl (.int .u32))])],[(0,29,[.val .bool, .val (.sl (.int .u32))])],[]⟩)]}
def LV:An:= {}
def Jn:A4 L3.args->Prop:=fun(x:D6)=>True/\T7 fun r=>r.1=ic x.1->(r.1,[(1:Int)])=ri x.1
def Ny:A4 Y7.args->Prop:=fun(x:C9)=>let d:=(1:Int);let c:=(0:Nat);let b:Prop:=(nv x.1.2=c->x.1.1=zi/\x.1.2= [d]);let a:Prop:=(nv x.1.2≠c->x.1.1=x.1.1/\x.1.2=x.1.2);True/\Fg fun r=>r.1=Bv (nv x.1.2) (nv [])->(iB (decide (r.1=0)) ((nv x.1.2=c->(false,[])=zi/\ [d]= [d])/\(nv x.1.2≠c->(false,[])=x.1.1/\ [d]=x.1.2)) ((b/\a)/\b/\a))
abbrev iR:=(Bool×Wf)×Wf×Unit
def Sg:A4 Ay.args->Prop:=fun(x:C9)=>True/\∀(r:iR),jB r.1/\Gr r.2.1/\True->(nv x.1.2=0->r.1=zi/\r.2.1= [(1:Int)])/\(nv x.1.2≠0->r.1=x.1.1/\r.2.1=x.1.2)->True/\Fg fun a=>a.1=(iv r.1).sign->a.1=(rv x.1).num.sign
def Nz:A4 Y8.args->Prop:=fun(x:C9)=>let e:=(0:Int);let c:Prop:=(¬J5 x.1->true=false);let b:=(18446744073709551616:Nat);True/\∀(r:A7o),HR r.1/\True/\True->(nv x.1.1.2<b->r.1=(↑(nv x.1.1.2):Int)/\r.2.1=true)/\(b<=nv x.1.1.2->r.2.1=false)->True/\∀(f:A7o),let d:=(decide (2147483648<=f.1));let a:=(I5 (I5 (!r.2.1) true !f.2.1) true (decide (2147483648<=r.1)));HR f.1/\True/\True->(nv x.1.2<b->f.1=(↑(nv x.1.2):Int)/\f.2.1=true)/\(b<=nv x.1.2->f.2.1=false)->(iB (I5 a true d) ((J5 x.1->e=Qf x.1/\e=Mm x.1/\false=true)/\(¬J5 x.1->false=false)) ((iB (decide (f.1=e)) ((J5 x.1->e=Qf x.1/\(1:Int)=Mm x.1/\true=true)/\c) ((iB x.1.1.1 ((J5 x.1->i64.wrap (-i64.wrap r.1)=Qf x.1/\i64.wrap f.1=Mm x.1/\true=true)/\c) ((J5 x.1->i64.wrap r.1=Qf x.1/\i64.wrap f.1=Mm x.1/\true=true)/\c))))))
def Ix:A4 S0.args->Prop:=fun(x:Dh)=>let a:=(0:Int);∃(J:D6->Prop),((iB (decide (x.1<a)) (J (u64.wrap (-u64.wrap x.1),())) (J (u64.wrap x.1,()))))/\∀(p:D6),(Ty.int u64).wf p.1/\True->J p->∃(I:Dh->Prop),∃(d: _->Nat),I (u64.wrap x.2.1,p)/\∀(c:Dh),let b:=(c.2.1,Int.tmod c.1 c.2.1,());(Ty.int u64).wf c.1/\(Ty.int u64).wf c.2.1/\True->I c->(iB (decide (c.2.1≠a)) (c.2.1≠a/\I b/\d b<d c) (c.1≠a/\c.1≠a/\True/\P4 fun r=>r.1=nc (u64.wrap (Int.tdiv p.1 c.1)).toNat->True/\P4 fun d=>d.1=nc (u64.wrap ((u64.wrap x.2.1).tdiv c.1)).toNat->((decide (x.1<a),r.1),d.1)=rc (mkRat x.1 x.2.1.toNat)))
abbrev C3u:=Wf×Bool×Wf×Unit
def Mg:A4 W7.args->Prop:=fun(x:iR)=>let g:=(0:Nat);let f:=(nv x.2.1);let c:=(1:Int);let b:=(0:Int);Gq x.1.2/\T7 fun r=>let d:=(r.1.2.length:Int);r.1=ic (iv x.1)->Gq x.2.1/\P4 fun k=>k.1=nc f->(iB (decide (d=b)) (((false,[]),[c])=rc (mkRat (iv x.1) f)) ((En r.1.2/\En k.1)/\P4 fun h=>let e:=(decide (gx b h.1 b≠c));let a:=(h.1.length:Int);h.1=nc ((nv r.1.2).gcd (nv k.1))->∃(J:C3u->Prop),((decide (a≠c)=false->b<=b/\b<a)/\(iB (I5 (decide (a≠c)) true e) (K5 r.1.2/\∀(i:B3g),Gr i.1/\Gr i.2.1/\True/\True->(nv h.1=g->i.1= []/\i.2.1= []/\i.2.2.1=false)/\(nv h.1≠g->i.1=nc (nv r.1.2/nv h.1)/\i.2.1=nc (nv r.1.2%nv h.1)/\i.2.2.1=true)->K5 k.1/\∀(j:B3g),Gr j.1/\Gr j.2.1/\True/\True->(nv h.1=g->j.1= []/\j.2.1= []/\j.2.2.1=false)/\(nv h.1≠g->j.1=nc (nv k.1/nv h.1)/\j.2.1=nc (nv k.1%nv h.1)/\j.2.2.1=true)->J (j.1,r.1.1,i.1,())) (J (k.1,r.1.1,r.1.2,()))))/\∀(p:C3u),(Ty.int u32).sl.wf p.1/\Ty.bool.wf p.2.1/\(Ty.int u32).sl.wf p.2.2.1/\True->J p->((p.2.1,p.2.2.1),p.1)=rc (mkRat (iv x.1) f)))
def K7 (P:QQ×Unit->Prop):Prop:=∀r:QQ×Unit,HO r.1/\True->P r
def Sf:A4 R4.args->Prop:=fun(x:C9)=>True/\∀(r:oJ),O4 r.1/\O4 r.2.1/\True/\True->(J5 x.1->r.1=Qf x.1/\r.2.1=Mm x.1/\r.2.2.1=true)/\(¬J5 x.1->r.2.2.1=false)->(iB r.2.2.1 (0<r.2.1/\K7 fun a=>a.1=rc (mkRat r.1 r.2.1.toNat)->a.1=rc (rv x.1)) (True/\∀(r:iR),jB r.1/\Gr r.2.1/\True->(nv x.1.2=0->r.1=zi/\r.2.1= [(1:Int)])/\(nv x.1.2≠0->r.1=x.1.1/\r.2.1=x.1.2)->(nv r.2.1≠0/\En r.1.2/\En r.2.1)/\K7 fun a=>a.1=rc (mkRat (iv r.1) (nv r.2.1))->a.1=rc (rv x.1)))
def Us (x:A4 L3.args) (b:awf L3.args x) (_:L3.pre x):Jn x:=by
 obtain⟨v,_⟩:=x;simp only[Jn,T7];refine⟨trivial, ?_⟩;rintro⟨r,_⟩ _ a;simp only at a⊢;rw[a];rfl
def AB (x:A4 Y7.args) (d:awf Y7.args x) (_:Y7.pre x):Ny x:=by
 obtain⟨⟨c,l⟩,_⟩:=x;change Wf at l;simp only[Ny,iB,Fg];refine⟨trivial, ?_⟩;rintro⟨r,_⟩ _ b;simp only at b⊢;rw[gU]at b;refine⟨fun h=> ?_,fun h=> ?_⟩
 . have a:nv l=0:=VV.1 (b▸qA h);exact⟨fun _=>⟨rfl,by trivial⟩,fun h=>absurd a h⟩
 . have a:nv l≠0:=fun e=>(qB h) (by rw[b,e];rfl)
   exact⟨⟨fun h=>absurd h a,fun _=>⟨by trivial,by trivial⟩⟩,fun h=>absurd h a,fun _=>⟨by trivial,by trivial⟩⟩
def DN (x:A4 Ay.args) (g:awf Ay.args x) (_:Ay.pre x):Sg x:=by
 obtain⟨⟨d,l⟩,_⟩:=x;change Wf at l;simp only[Sg,Fg];refine⟨trivial, ?_⟩;rintro⟨r,f,_⟩ _ ⟨a,b⟩;refine⟨trivial, ?_⟩;rintro⟨s,_⟩ _ c;simp only at a b c⊢;rw[c, <-B6j];unfold C0j;split
 . rename_i h;rw[(a h).1];rfl
 . rename_i h;rw[(b h).1]
def AC (x:A4 Y8.args) (O:awf Y8.args x) (_:Y8.pre x):Nz x:=by
 obtain⟨⟨⟨g,a⟩,l⟩,_⟩:=x;change Bool at g;change Wf at a l;simp only[Nz,iB];refine⟨trivial, ?_⟩;rintro⟨u,f,_⟩ _ ⟨k,y⟩;refine⟨trivial, ?_⟩;rintro⟨v,d,_⟩ _ ⟨n,z⟩;change Int at u v;change Bool at f d;simp only at k y n z⊢;have r:I5 (I5 (I5 (!f) true !d) true (decide (2147483648<=u))) true (decide (2147483648<=v))=(!f|| !d||decide (2147483648<=u) ||decide (2147483648<=v)):=by simp only[J1]
 rw[r];have G:(!f|| !d||decide (2147483648<=u) ||decide (2147483648<=v))=false->J5 ((g,a),l)/\u=(nv a:Int)/\v=(nv l:Int):=fun h=>by
  simp only[rH,g0t,rO]at h;obtain⟨⟨⟨t,w⟩,M⟩,N⟩:=h;have D:nv a<18446744073709551616:=by
   rcases sD (nv a) 18446744073709551616 with h|h
   . exact h
   . rw[y h]at t;cases t
  have E:nv l<18446744073709551616:=by
   rcases sD (nv l) 18446744073709551616 with h|h
   . exact h
   . rw[z h]at w;cases w
  have I:=(k D).1;have J:=(n E).1;exact⟨⟨by show nv a< _;omega,by show nv l< _;omega⟩,I,J⟩
 have H:J5 ((g,a),l)->(!f|| !d||decide (2147483648<=u) ||decide (2147483648<=v))=false:=fun h=>by
  obtain⟨i,j⟩:=h;change nv a< _ at i;change nv l< _ at j;obtain⟨D,t⟩:=k (by omega);obtain⟨E,w⟩:=n (by omega);simp only[rH,g0t,rO];exact⟨⟨⟨t,w⟩,by omega⟩,by omega⟩
 refine⟨fun h=>⟨fun r=> ?_,fun _=>trivial⟩,fun h=> ?_⟩
 . rw[H r]at h;cases h
 . obtain⟨A,F,B⟩:=G h;have s:=A;obtain⟨i,j⟩:=A;change nv a< _ at i;change nv l< _ at j;refine⟨fun c=> ?_,fun c=>⟨fun o=> ?_,fun o=> ?_⟩⟩
   . have c:=qA c;have b:nv l=0:=by omega
     exact⟨fun _=>⟨by unfold Qf;rw[qJ b],by unfold Mm;rw[qJ b],trivial⟩,fun h=>absurd s h⟩
   . have c:=qB c;have b:nv l≠0:=by omega
     refine⟨fun _=>⟨?_, ?_,trivial⟩,fun h=>absurd s h⟩
     . unfold Qf;rw[qH b,wv (a:=u) (by omega),wv (by omega)];unfold iv;simp only[o,wF];omega
     . unfold Mm;rw[qH b,wv (by omega)];exact B
   . have c:=qB c;have b:nv l≠0:=by omega
     refine⟨fun _=>⟨?_, ?_,trivial⟩,fun h=>absurd s h⟩
     . unfold Qf;rw[qH b,wv (a:=u) (by omega)];unfold iv;simp only[o];simpa using F
     . unfold Mm;rw[qH b,wv (by omega)];exact B
def Si (x:A4 S0.args) (A:awf S0.args x) (F:S0.pre x):Ix x:=by
 obtain⟨n,d,_⟩:=x;change Int at n d;have I:0<d:=F;have c:=(show i64.min<=n/\n<=i64.max from A.1);have r:=(show i64.min<=d/\d<=i64.max from A.2.1);rw[Tc,BA]at c r;obtain⟨Q,R⟩:=c;have J:=r.2;have P:i64.min= -9223372036854775808:=Tc;simp only[Ix,iB,P4];refine⟨fun p=>p.1=(n.natAbs:Int),⟨fun h=> ?_,fun h=> ?_⟩, ?_⟩
 . have h:=qA h;show u64.wrap (-u64.wrap n)= _;rw[Bq,Bq];omega
 . have h:=qB h;show u64.wrap n= _;rw[Bq];omega
 rintro⟨U,_⟩ _ z;simp only at z⊢;subst z;have o:u64.wrap d=d:=W8 (by omega) (by omega);refine⟨fun p=>0<=p.1/\0<=p.2.1/\(p.1≠0\/p.2.1≠0)/\p.1.toNat.gcd p.2.1.toNat=d.toNat.gcd n.natAbs,fun p=>p.2.1.toNat, ?_, ?_⟩
 . refine⟨by omega,by show(0:Int)<=(n.natAbs:Int);omega, .inl (by omega), ?_⟩;rw[o];rfl
 rintro⟨g,t,_⟩ _ ⟨j,a,D,k⟩;change Int at g t;simp only at j a D k⊢;refine⟨fun h=> ?_,fun h=> ?_⟩
 . have h:=qA h;have e:Int.tmod g t=g%t:=uM j;have i:=g2i g h;have M:=zJ g (b:=t) (by omega);rw[e];refine⟨h,⟨a,i, .inl h, ?_⟩,by omega⟩;rw[<-k,Int.toNat_emod j a,wZ t.toNat, <-g3d,wZ]
 . have h:t=0:=by simpa using h
   subst h;have u:g≠0:=by omega
   refine⟨u,u,trivial, ?_⟩;rintro⟨T,_⟩ _ y;refine⟨trivial, ?_⟩;rintro⟨q,_⟩ _ w;simp only at y w⊢;have N:g.toNat=d.toNat.gcd n.natAbs:=by rw[<-k];simp
   have O:0<g:=by omega
   have v:g=((d.toNat.gcd n.natAbs:Nat):Int):=by omega
   obtain⟨c,E⟩:=Na (x:=n) (d:=d.toNat) (by omega);have B:(u64.wrap (Int.tdiv (n.natAbs:Int) g)).toNat=n.natAbs/d.toNat.gcd n.natAbs:=by
    rw[IntWalk.u64_quo _ _ ⟨by omega,by omega,by omega⟩,v, <-g4j,qV]
   have i:(u64.wrap (Int.tdiv d g)).toNat=d.toNat/d.toNat.gcd n.natAbs:=by
    rw[IntWalk.u64_quo _ _ ⟨by omega,by omega,by omega⟩,v]
    conv=>lhs;rw[show d=((d.toNat:Nat):Int)from by omega]
    rw[<-g4j,qV];simp only[qV]
   rw[y,w,o,B,i];unfold rc;rw[c,E];unfold ic;have s:((d.toNat.gcd n.natAbs:Nat):Int)∣n:=yA.2 (yN ..);have l:0<d.toNat.gcd n.natAbs:=by omega
   generalize d.toNat.gcd n.natAbs=G at s l;obtain⟨f,rfl⟩:=s;rw[xQ _ (by omega)];have H:(G:Int)*f<0↔f<0:=by
    constructor
    . intro h;rcases g4d f 0 with a|a
      . exact a
      . have:=tL (wY (uA.2 l)) a;omega
    . intro h;exact yU (by omega) h
   rw[vG,uL,xY _ l];simp only[H]
def Tl (x:C6):mkRat (Qf x) (Mm x).toNat=rv x:=by
 unfold Qf Mm rv;split
 . rename_i h;rw[h,yQ];rfl
 . rename_i h;rw[qV]
def B1v (x:C6):0<Mm x:=by
 unfold Mm;split
 . decide
 . omega
def Xb (x:A4 W7.args) (w:awf W7.args x) (H:W7.pre x):Mg x:=by
 obtain⟨⟨b,l⟩,k,_⟩:=x;have G:A8 l:=A5 w.1.2.2;have F:A8 k:=A5 w.2.1.2;change Bool at b;change Wf at l k;obtain⟨j,V,U⟩:nv k≠0/\l.length<=8796093022208/\k.length<=8796093022208:=H;simp only[Mg,iB,P4,T7];have N:=D4 G;have M:=D4 F;refine⟨by show l.length<=35184372088832;omega, ?_⟩;rintro⟨⟨y,r⟩,_⟩ _ f;refine⟨by show k.length<=35184372088832;omega, ?_⟩;rintro⟨d,_⟩ _ c;simp only at f c⊢;have I:y=decide (iv (b,l)<0):=tA (·.1) f;have v:r=nc (iv (b,l)).natAbs:=tA (·.2) f;have A:(iv (b,l)).natAbs=nv l:=J3 _;have i:nv r=(iv (b,l)).natAbs:=by rw[v,F4]
 have o:nv d=nv k:=by rw[c,F4]
 have T:r.length<=l.length:=by rw[v,A];exact N
 have Q:d.length<=k.length:=by rw[c];exact M
 refine⟨fun h=> ?_,fun h=> ?_⟩
 . have h:=qA h;have B:r= []:=qO (by omega);rw[B,gU]at i;have:iv (b,l)=0:=Int.natAbs_eq_zero.1 i.symm;rw[this,Rat.zero_mkRat,A4c]
 have h:=qB h;refine⟨⟨by omega,by omega⟩, ?_⟩;rintro⟨g,_⟩ _ n;simp only at n⊢;rw[i,o]at n;have R:Nat.gcd (iv (b,l)).natAbs (nv k)≠0:=Nat.ne_of_gt (g1k _ (sZ j));have s:nv g=Nat.gcd (iv (b,l)).natAbs (nv k):=by rw[n,F4]
 refine⟨fun p=>((p.2.1,p.2.2.1),p.1)=rc (mkRat (iv (b,l)) (nv k)),⟨fun a=> ?_,fun a=> ?_,fun a=> ?_⟩, ?_⟩
 . have a:=qB a;exact⟨qG _,by omega⟩
 . refine⟨by show r.length<= _;omega, ?_⟩;rintro⟨q,m,X,_⟩ _ t;refine⟨by show d.length<= _;omega, ?_⟩;rintro⟨Z,W,Y,_⟩ _ u;simp only at t u⊢;rw[iG j,(t.2 (by omega)).1,(u.2 (by omega)).1,i,o,s,I]
 . have a:g.length=1/\gx 0 g 0=1:=by
    rw[J1]at a;simp only[rH,rO]at a;omega
   obtain⟨z,rfl⟩:∃z,g= [z]:=g2e.1 a.1;have J:z=1:=a.2;subst J;have D:Nat.gcd (iv (b,l)).natAbs (nv k)=1:=by rw[<-s];rfl
   rw[B6f j D];show((y,r),d)= _;rw[c, <-f]
 . rintro⟨O,a0,P,_⟩ _ E;exact E
def DL (x:A4 R4.args) (v:awf R4.args x) (n:R4.pre x):Sf x:=by
 obtain⟨q,_⟩:=x;change C6 at q;obtain⟨i,j⟩:q.1.2.length<=2199023255552/\q.2.length<=2199023255552:=n;simp only[Sf,iB,K7];refine⟨trivial, ?_⟩;rintro⟨s,f,z,_⟩ _ ⟨c,d⟩;change Int at s f;simp only at c d⊢;refine⟨fun h=> ?_,fun h=>⟨trivial, ?_⟩⟩
 . have o:J5 q:=qK fun hn=>by rw[d hn]at h;cases h
   obtain⟨rfl,rfl,_⟩:=c o;refine⟨B1v q, ?_⟩;rintro⟨u,_⟩ _ a;simp only at a⊢;rw[a,Tl]
 . rintro⟨t,g,_⟩ _ b;simp only at b⊢;obtain⟨l,r⟩:=Ky b;obtain⟨w,y⟩:=Hn (k:=2199023255552) b i j (by decide);refine⟨⟨l,by show t.2.length<= _;omega,by show g.length<= _;omega⟩, ?_⟩;rintro⟨u,_⟩ _ a;simp only at a⊢;rw[a,r]
def QH:An:= {plan:= [(13,[0,4],[10],true,(.q 0 (.p 1 (.p 2 (.q 4 (.p 5 (.p 6 (.or 3 (.or 7 (.or 8 (.e 9 (.e 10 .done)) (.e 9 (.e 8 (.e 10 .done)))) (.e 9 (.e 7 (.e 8 (.e 10 .done))))) (.e 9 (.e 3 (.e 7 (.e 8 (.e 10 .done))))))))))))),(14,[0],[5],true,(.q 0 (.p 1 (.p 2 (.e 3 (.e 4 (.e 5 .done)))))))]}
def QM:An:= {}
def QK:An:= {}
def QL:An:= {}
def CG:An:= {plan:= [(1,[0,2],[],true,(.q 0 (.q 2 (.e 1 (.e 3 (.p 4 (.p 5 .done))))))),(10,[0,4],[],true,(.q 0 (.p 1 (.p 2 (.q 4 (.p 5 (.p 6 (.e 3 (.e 7 (.e 8 (.p 9 .done)))))))))))]}
def QJ:An:= {}
def QI:An:= {}
def Vk:A4 Ck.args->Prop:=fun(x:J8)=>let h:=(0:Nat);let g:=(0:Int);let e:=(rv x.1+rv x.2.1);True/\Fg fun r=>r.1=(rv x.1).num.sign->(iB (decide (r.1=g)) (G3 x.2.1/\K7 fun r=>r.1=rc (rv x.2.1)->r.1=rc e) (True/\Fg fun r=>r.1=(rv x.2.1).num.sign->(iB (decide (r.1=g)) (G3 x.1/\K7 fun r=>r.1=rc (rv x.1)->r.1=rc e) (True/\∀(r:oJ),O4 r.1/\O4 r.2.1/\True/\True->(J5 x.1->r.1=Qf x.1/\r.2.1=Mm x.1/\r.2.2.1=true)/\(¬J5 x.1->r.2.2.1=false)->True/\∀(m:oJ),O4 m.1/\O4 m.2.1/\True/\True->(J5 x.2.1->m.1=Qf x.2.1/\m.2.1=Mm x.2.1/\m.2.2.1=true)/\(¬J5 x.2.1->m.2.2.1=false)->(iB (I5 r.2.2.1 m.2.2.1 false) (g<i64.wrap (r.2.1*m.2.1)/\K7 fun j=>j.1=rc (mkRat (i64.wrap (i64.wrap (r.1*m.2.1)+i64.wrap (m.1*r.2.1))) (i64.wrap (r.2.1*m.2.1)).toNat)->j.1=rc e) (True/\∀(r:iR),jB r.1/\Gr r.2.1/\True->(nv x.1.2=h->r.1=zi/\r.2.1= [(1:Int)])/\(nv x.1.2≠h->r.1=x.1.1/\r.2.1=x.1.2)->True/\∀(j:iR),let i:=(iv r.1*iv (false,j.2.1));let f:=(iv j.1*iv (false,r.2.1));let d:Prop:=(K5 r.1.2/\K5 j.2.1);let c:Prop:=(K5 j.1.2/\K5 r.2.1);let a:(Wq)->(Wq)->(Wq)->Prop:=(fun l k n=>jB n.1/\True->n.1=ic (iv l.1+iv k.1)->(K5 r.2.1/\K5 j.2.1)/\P4 fun o=>o.1=nc (nv r.2.1*nv j.2.1)->(nv o.1≠h/\En n.1.2/\En o.1)/\K7 fun r=>r.1=rc (mkRat (iv n.1) (nv o.1))->r.1=rc e);let b:(Wq)->(Wq)->Prop:=(fun l k=>(K5 l.1.2/\K5 k.1.2)/\∀(n:Wq),a l k n);jB j.1/\Gr j.2.1/\True->(nv x.2.1.2=h->j.1=zi/\j.2.1= [(1:Int)])/\(nv x.2.1.2≠h->j.1=x.2.1.1/\j.2.1=x.2.1.2)->True/\Fg fun p=>p.1=Bv (nv r.2.1) (nv j.2.1)->(iB (decide (p.1=g)) ((K5 r.1.2/\K5 j.1.2)/\T7 fun l=>l.1=ic (iv r.1+iv j.1)->(nv r.2.1≠h/\En l.1.2/\En r.2.1)/\K7 fun k=>k.1=rc (mkRat (iv l.1) (nv r.2.1))->k.1=rc e) ((d/\T7 fun l=>l.1=ic i->(c/\T7 fun k=>k.1=ic f->(b l k)/\(K5 l.1.2/\K5 k.1.2)/\∀(n:Wq),a l k n)/\c/\T7 fun k=>k.1=ic f->b l k)/\d/\T7 fun l=>l.1=ic i->c/\T7 fun k=>k.1=ic f->b l k))))))))
def Vp:A4 Cl.args->Prop:=fun(x:J8)=>let a:=((!x.2.1.1.1,x.2.1.1.2),x.2.1.2);(G3 x.1/\G3 a)/\K7 fun r=>r.1=rc (rv x.1+rv a)->r.1=rc (rv x.1-rv x.2.1)
def Vn:A4 Y6.args->Prop:=fun(x:J8)=>let b:=(rv x.1*rv x.2.1);let a:=(0:Nat);True/\∀(r:oJ),O4 r.1/\O4 r.2.1/\True/\True->(J5 x.1->r.1=Qf x.1/\r.2.1=Mm x.1/\r.2.2.1=true)/\(¬J5 x.1->r.2.2.1=false)->True/\∀(d:oJ),O4 d.1/\O4 d.2.1/\True/\True->(J5 x.2.1->d.1=Qf x.2.1/\d.2.1=Mm x.2.1/\d.2.2.1=true)/\(¬J5 x.2.1->d.2.2.1=false)->(iB (I5 r.2.2.1 d.2.2.1 false) ((0:Int)<i64.wrap (r.2.1*d.2.1)/\K7 fun c=>c.1=rc (mkRat (i64.wrap (r.1*d.1)) (i64.wrap (r.2.1*d.2.1)).toNat)->c.1=rc b) (True/\∀(r:iR),jB r.1/\Gr r.2.1/\True->(nv x.1.2=a->r.1=zi/\r.2.1= [(1:Int)])/\(nv x.1.2≠a->r.1=x.1.1/\r.2.1=x.1.2)->True/\∀(c:iR),jB c.1/\Gr c.2.1/\True->(nv x.2.1.2=a->c.1=zi/\c.2.1= [(1:Int)])/\(nv x.2.1.2≠a->c.1=x.2.1.1/\c.2.1=x.2.1.2)->(K5 r.1.2/\K5 c.1.2)/\T7 fun f=>f.1=ic (iv r.1*iv c.1)->(K5 r.2.1/\K5 c.2.1)/\P4 fun e=>e.1=nc (nv r.2.1*nv c.2.1)->(nv e.1≠a/\En f.1.2/\En e.1)/\K7 fun r=>r.1=rc (mkRat (iv f.1) (nv e.1))->r.1=rc b))
def Vo:A4 Q5.args->Prop:=fun(x:C9)=>G3 x.1/\K7 fun r=>r.1=rc (rv x.1)->Gq r.1.1.2/\T7 fun a=>a.1=ic (-iv r.1.1)->(a.1,r.1.2)=rc (-rv x.1)
def Jm:A4 T9.args->Prop:=fun(x:J8)=>let c:=(0:Nat);let b:=(rv x.1);let a:=(rv x.2.1);True/\Fg fun r=>r.1=b.num.sign->True/\Fg fun f=>f.1=a.num.sign->(iB (decide (r.1≠f.1)) (True/\Fg fun e=>e.1=O6 r.1 f.1->e.1=UG b a) (True/\∀(r:oJ),O4 r.1/\O4 r.2.1/\True/\True->(J5 x.1->r.1=Qf x.1/\r.2.1=Mm x.1/\r.2.2.1=true)/\(¬J5 x.1->r.2.2.1=false)->True/\∀(e:oJ),O4 e.1/\O4 e.2.1/\True/\True->(J5 x.2.1->e.1=Qf x.2.1/\e.2.1=Mm x.2.1/\e.2.2.1=true)/\(¬J5 x.2.1->e.2.2.1=false)->(iB (I5 r.2.2.1 e.2.2.1 false) (True/\Fg fun d=>d.1=O6 (i64.wrap (r.1*e.2.1)) (i64.wrap (e.1*r.2.1))->d.1=UG b a) (True/\∀(r:iR),jB r.1/\Gr r.2.1/\True->(nv x.1.2=c->r.1=zi/\r.2.1= [(1:Int)])/\(nv x.1.2≠c->r.1=x.1.1/\r.2.1=x.1.2)->True/\∀(d:iR),jB d.1/\Gr d.2.1/\True->(nv x.2.1.2=c->d.1=zi/\d.2.1= [(1:Int)])/\(nv x.2.1.2≠c->d.1=x.2.1.1/\d.2.1=x.2.1.2)->(K5 r.1.2/\K5 d.2.1)/\T7 fun g=>g.1=ic (iv r.1*iv (false,d.2.1))->(K5 d.1.2/\K5 r.2.1)/\T7 fun h=>h.1=ic (iv d.1*iv (false,r.2.1))->True/\Fg fun r=>r.1=O6 (iv g.1) (iv h.1)->r.1=UG b a))))
def Vm:A4 Y5.args->Prop:=fun(x:C9)=>let a:=(rv x.1);True/\Fg fun r=>r.1=a.num.sign->(iB (decide (r.1=0)) ((rv x.1=(0:Rat)->false=false)/\(rv x.1≠(0:Rat)->dQ=rc a⁻¹/\false=true)) (G3 x.1/\K7 fun r=>r.1=rc a->(rv x.1=(0:Rat)->true=false)/\(rv x.1≠(0:Rat)->((r.1.1.1,r.1.2),r.1.1.2)=rc a⁻¹/\true=true)))
def Vl:A4 U2.args->Prop:=fun(x:J8)=>let b:=(rv x.1/rv x.2.1);let a:=((x.2.1.1.1,x.2.1.2),x.2.1.1.2);True/\Fg fun r=>r.1=(rv x.2.1).num.sign->(iB (decide (r.1=0)) ((rv x.2.1=(0:Rat)->false=false)/\(rv x.2.1≠(0:Rat)->dQ=rc b/\false=true)) ((G3 x.1/\G3 a)/\K7 fun r=>r.1=rc (rv x.1*rv a)->(rv x.2.1=(0:Rat)->true=false)/\(rv x.2.1≠(0:Rat)->r.1=rc b/\true=true)))
def EF {q:Rat} (h:q.num.sign=0):q=0:=zI.1 (xI.1 h)
def Kf {x:C6} (h:J5 x): -2147483647<=Qf x/\Qf x<=2147483647/\0<Mm x/\Mm x<=2147483647:=by
 obtain⟨a,b⟩:=h;have:=J3 x.1;unfold Qf Mm;split
 . omega
 . omega
def Qd {a b M N:Int} (f: -M<=a) (d:a<=M) (c:0<=b) (g:b<=N): -(M*N)<=a*b/\a*b<=M*N:=by
 have h:0<=M:=by omega
 have i:M*b<=M*N:=tY g h;have g:a*b<=M*b:=sK d c;have d: -M*b<=a*b:=sK f c;rw[Int.neg_mul]at d;omega
def A7f {a b c d:Int} (h: -2147483647<=a/\a<=2147483647) (i: -2147483647<=b/\b<=2147483647) (g:0<c/\c<=2147483647) (f:0<d/\d<=2147483647):
 i64.wrap (c*d)=c*d/\0<c*d/\i64.wrap (i64.wrap (a*d)+i64.wrap (b*c))=a*d+b*c:=by
 have k:=Qd h.1 h.2 (wY f.1) f.2;have l:=Qd i.1 i.2 (wY g.1) g.2;have n:=Qd (a:=c) (b:=d) (M:=2147483647) (by omega) g.2 (wY f.1) f.2;have j:0<c*d:=Int.mul_pos g.1 f.1;rw[wv (a:=c*d) (by omega),wv (a:=a*d) (by omega),wv (a:=b*c) (by omega),wv (by omega)];exact⟨rfl,j,rfl⟩
def HF (x:A4 Ck.args) (o:awf Ck.args x) (a8:Ck.pre x):Vk x:=by
 obtain⟨p,q,_⟩:=x;have ax:A8 p.1.2:=A5 o.1.1.2.2;have ay:A8 p.2:=A5 o.1.2.2;have az:A8 q.1.2:=A5 o.2.1.1.2.2;have b0:A8 q.2:=A5 o.2.1.2.2;change C6 at p q;obtain⟨a9,aa⟩:G3 p/\G3 q:=a8;obtain⟨N,O⟩:=a9;obtain⟨P,Q⟩:=aa;simp only[Vk,iB,P4,Fg,T7,K7];refine⟨trivial, ?_⟩;rintro⟨b1,_⟩ _ R;simp only at R⊢;refine⟨fun h=>⟨⟨P,Q⟩, ?_⟩,fun h=>⟨trivial, ?_⟩⟩
 . rintro⟨r,_⟩ _ f;simp only at f⊢;rw[R]at h;rw[f,EF (qA h),sF]
 rintro⟨b2,_⟩ _ T;simp only at T⊢;refine⟨fun h=>⟨⟨N,O⟩, ?_⟩,fun h=>⟨trivial, ?_⟩⟩
 . rintro⟨r,_⟩ _ f;simp only at f⊢;rw[T]at h;rw[f,EF (qA h),rG]
 rintro⟨F,E,aq,_⟩ _ ⟨B,D⟩;refine⟨trivial, ?_⟩;rintro⟨I,bd,ar,_⟩ _ ⟨G,H⟩;change Int at F E I bd;simp only at B D G H⊢;refine⟨fun h=> ?_,fun _=>⟨trivial, ?_⟩⟩
 . rw[H0,qC]at h;have X:J5 p:=qK fun hn=>by have:=D hn;rw[this]at h;exact absurd h.1 (by decide)
   have Y:J5 q:=qK fun hn=>by have:=H hn;rw[this]at h;exact absurd h.2 (by decide)
   obtain⟨a1,a3,_⟩:=B X;obtain⟨a2,a4,_⟩:=G Y;obtain⟨Z,a0,b3,b4⟩:=Kf X;obtain⟨b5,b6,b7,b8⟩:=Kf Y;obtain⟨am,an,ao⟩:=A7f (a:=F) (b:=I) (c:=E) (d:=bd) (by omega) (by omega) (by omega) (by omega);rw[am,ao];refine⟨an, ?_⟩;rintro⟨r,_⟩ _ f;simp only at f⊢;rw[f, <-Tl p, <-Tl q, <-a1, <-a3, <-a2, <-a4,MW (by omega) (by omega),uF (by omega),uF (by omega),g3q (by omega) (by omega)]
 . rintro⟨n,d,_⟩ ⟨ae,ab,_⟩ w;refine⟨trivial, ?_⟩;rintro⟨m,e,_⟩ ⟨ad,ac,_⟩ z;have W:A8 n.2:=A5 ae.2.2;have U:A8 d:=A5 ab.2;have V:A8 m.2:=A5 ad.2.2;have le:A8 e:=A5 ac.2;refine⟨trivial, ?_⟩;rintro⟨c,_⟩ _ M;change Jq at n m;change Wf at d e;simp only at w z M⊢;obtain⟨j,a5⟩:=Ky w;obtain⟨J,a6⟩:=Ky z;obtain⟨aj,au⟩:=Hn (k:=2199023255552) w N O (by decide);obtain⟨ai,av⟩:=Hn (k:=2199023255552) z P Q (by decide);rw[a5,a6];refine⟨fun h=> ?_,fun h=> ?_⟩
   . have h:=qA h;have a7:nv d=nv e:=VV.1 (M▸h);refine⟨⟨by show n.2.length<= _;omega,by show m.2.length<= _;omega⟩, ?_⟩;rintro⟨u,_⟩ _ g;simp only at g⊢;have af:=VA (x:=n) (y:=m) W V aj ai;refine⟨⟨j,by show u.2.length<= _;rw[g];omega,by show d.length<= _;omega⟩, ?_⟩;rintro⟨r,_⟩ _ f;simp only at f⊢;rw[f,g,J9, <-a7,A0q j]
   . --the general case:the same four times
     have Z:=FN (x:=n) (y:=(false,e)) W le;have a0:=FN (x:=m) (y:=(false,d)) V U;have t:K5 n.2/\K5 e:=⟨by show n.2.length<= _;omega,by show e.length<= _;omega⟩;have l:K5 m.2/\K5 d:=⟨by show m.2.length<= _;omega,by show d.length<= _;omega⟩;have fin:∀u v:Jq,u=ic (iv n*iv (false,e))->v=ic (iv m*iv (false,d))->(K5 u.2/\K5 v.2)/\∀(r_6:(Bool×Wf)×Unit),jB r_6.1/\True->r_6.1=ic (iv u+iv v)->(K5 d/\K5 e)/\∀(r_7:Wf×Unit),Gr r_7.1/\True->r_7.1=nc (nv d*nv e)->(nv r_7.1≠(0:Nat)/\En r_6.1.2/\En r_7.1)/\∀(r:QQ×Unit),HO r.1/\True->r.1=rc (mkRat (iv r_6.1) (nv r_7.1))->r.1=rc (mkRat (iv n) (nv d)+mkRat (iv m) (nv e)):=by
      intro u v g i;have ag:u.2.length<=4398046511104:=by
       rw[g];refine qY Z ?_;show n.2.length+e.length<= _;omega
      have ah:v.2.length<=4398046511104:=by
       rw[i];refine qY a0 ?_;show m.2.length+d.length<= _;omega
      refine⟨⟨by show u.2.length<= _;omega,by show v.2.length<= _;omega⟩, ?_⟩;rintro⟨ak,_⟩ _ A;refine⟨⟨l.2,t.2⟩, ?_⟩;rintro⟨ap,_⟩ _ s;simp only at A s⊢;have af:=VA (x:=u) (y:=v) (by rw[g];exact mD _) (by rw[i];exact mD _) ag ah;have aw:=FT U le;refine⟨⟨by rw[s,F4];exact zH j J,by show ak.2.length<= _;rw[A];omega,by show ap.length<= _;rw[s];omega⟩, ?_⟩;rintro⟨r,_⟩ _ f;simp only at f⊢;rw[f,A,s,F4,J9,g,i,J9,J9,Iz,Iz,MW j J]
     exact⟨⟨t,fun u _ g=>⟨⟨l,fun v _ i=>⟨fin _ _ g i,fin _ _ g i⟩⟩,l,fun v _ i=>fin _ _ g i⟩⟩,t,fun u _ g=>⟨l,fun v _ i=>fin _ _ g i⟩⟩
def jT:An:= {loop:= [(2,⟨[0],[],[(3,false,vI)],[],[]⟩)]}
def eO:An:= {loop:= [(4,⟨[0,1],[],[(5,false,vI)],[],[]⟩)],plan:= [(6,[3,7],[],true,(pZ9 0 3 (.q 3 (pZ9 4 3 (.q 7 (.p 8 .done))))))]}
def ID:An:= {}
def pB:An:= {join:= [(8,⟨[0,1,5,7],[0],[(6,false,vU)],[],[]⟩),(10,⟨[0,1,5,7],[0],[(6,false,vU)],[],[]⟩)],loop:= [(4,⟨[0,1,5],[],[(6,false,vU),(7,false,vI)],[],[(0, .row (.int .u32) 116)]⟩)]}
def pE:An:= {join:= [(12,⟨[0,1,6,8],[0],[(9,false,vU)],[],[]⟩),(17,⟨[0,1,6,8,9],[0],[(7,false,vU),(10,false,vU)],[],[]⟩)],loop:= [(7,⟨[0,1,6],[],[(7,false,vU),(8,false,vI)],[],[(0, .row (.int .u32) 116)]⟩)]}
def TU:An:= {loop:= [(7,⟨[0,1],[],[(5,false,vI)],[],[]⟩)],plan:= [(9,[3,7],[],true,(pZ9 0 3 (.q 3 (pZ9 4 3 (.q 7 (.p 8 .done)))))),(11,[3,7],[],true,(pZ9 0 3 (.q 3 (pZ9 4 3 (.q 7 (.p 8 .done))))))]}
def pD:An:= {loop:= [(7,⟨[0,1,5,6],[],[(7,false,vU),(8,false,vI)],[],[(0, .row (.int .u32) 116)]⟩),(3,⟨[0,1,5],[],[(6,false,vI)],[],[(0, .row (.int .u32) 116)]⟩)],plan:= [(9,[6,11,16],[],true,(pZ9 0 6 (.q 6 (pZ9 7 4 (.q 11 (pZ9 12 4 (.q 16 (pZ9 17 5 .done))))))))]}
def ZS:An:= {loop:= [(6,⟨[0],[],[(4,false,vU),(5,false,vI)],[],[]⟩)]}
def PF:A4 Le.args->Prop:=fun(x:Ry)=>let f:=(1:Int);let c:=(x.1.length:Int);let a:=(0:Int);let g:=a.toNat;∃(I:D6->Prop),∃(b: _->Nat),I (c,())/\∀(p:D6),let e:=p.1.toNat;let d:=(i64.wrap (p.1-f),());let h:=(decide (gx a x.1 (i64.wrap (p.1-f))=a));(Ty.int i64).wf p.1/\True->I p->(decide (a<p.1)=true->a<=i64.wrap (p.1-f)/\i64.wrap (p.1-f)<c)/\(iB (I5 (decide (a<p.1)) h false) (I d/\b d<b p) ((a<=a/\a<=p.1/\p.1<=c)/\(((0:Nat)+(List.drop g (List.take e x.1)).length)*(4:Nat)<=(140737488355328:Nat)/\(0:Nat)+(List.drop g (List.take e x.1)).length<=9223372036854775807)/\List.drop g (List.take e x.1)=nc (nv x.1)))
def KT:A4 Ii.args->Prop:=fun(x:Fi)=>let f:Prop:=(x.1=x.2.1);let e:=(0:Int);let b:=(x.2.1.length:Int);let a:=(x.1.length:Int);(iB (decide (a≠b)) (false=decide f) (∃(I:D6->Prop),∃(c: _->Nat),I (e,())/\∀(p:D6),let d:=(i64.wrap (p.1+1),());let g:Prop:=(gx e x.1 p.1≠gx e x.2.1 p.1);(Ty.int i64).wf p.1/\True->I p->(iB (decide (p.1<a)) ((e<=p.1/\p.1<a)/\(e<=p.1/\p.1<b)/\(iB (decide g) (false=decide f) (I d/\c d<c p))) (true=decide f))))
def Nw:A4 Y4.args->Prop:=fun(x:D6)=>let a:=((32:Int).toNat);(0:(Ty.int u64).den)<=(32:Int)/\Gq [u32.wrap x.1,u32.wrap (Int.fdiv x.1 ((2:Int)^Min.min a u64.bits))]/\P4 fun r=>r.1=nc (nv [u32.wrap x.1,u32.wrap (Int.fdiv x.1 ((2:Int)^Min.min a u64.bits))])->r.1=nc x.1.toNat
def YD:A4 Qv.args->Prop:=fun(x:Fi)=>let f:=(1:Int);let e:=(0:Int);let b:=(x.1.length:Int);let a:=(x.2.1.length:Int);(e<=i64.wrap (Max.max b a+f)/\i64.wrap (Max.max b a+f)<=i64.wrap (Max.max b a+f)/\(↑(4:Nat):Int)*i64.wrap (Max.max b a+f)<=(281474976710656:Int)/\i64.wrap (Max.max b a+f)<=(9223372036854775807:Int))/\∃(I:Rx->Prop),∃(i: _->Nat),I (e,e,List.replicate (i64.wrap (Max.max b a+f)).toNat e,())/\∀(p:Rx),let d:=(p.2.2.1.length:Int);(Ty.int u64).wf p.1/\(Ty.int i64).wf p.2.1/\Gr p.2.2.1/\True->I p->(iB (decide (p.2.1<d)) (∃(J:D6->Prop),((iB (decide (p.2.1<b)) ((e<=p.2.1/\p.2.1<b)/\J (u64.wrap (p.1+u64.wrap (gx e x.1 p.2.1)),())) (J (p.1,()))))/\∀(g:D6),(Ty.int u64).wf g.1/\True->J g->∃(J:D6->Prop),((iB (decide (p.2.1<a)) ((e<=p.2.1/\p.2.1<a)/\J (u64.wrap (g.1+u64.wrap (gx e x.2.1 p.2.1)),())) (J g)))/\∀(h:D6),let c:=(Int.fdiv h.1 ((2:Int)^Min.min ((32:Int).toNat) u64.bits),i64.wrap (p.2.1+f),List.set p.2.2.1 p.2.1.toNat (u32.wrap h.1),());(Ty.int u64).wf h.1/\True->J h->(e<=p.2.1/\p.2.1<d)/\(0:(Ty.int u64).den)<=(32:Int)/\I c/\i c<i p) (Gq p.2.2.1/\P4 fun r=>r.1=nc (nv p.2.2.1)->r.1=nc (nv x.1+nv x.2.1)))
def YH:A4 Qy.args->Prop:=fun(x:Fi)=>let f:=(nv x.1-nv x.2.1);let c:=(0:Int);(K5 x.1/\K5 x.2.1)/\Fg fun r=>r.1=Bv (nv x.1) (nv x.2.1)->(iB (decide (r.1<c)) ((nv x.1<nv x.2.1->Er Int= []/\false=false)/\(nv x.2.1<=nv x.1->Er Int=nc f/\false=true)) (Gq x.1/\P4 fun r=>let a:=(r.1.length:Int);r.1=nc (nv x.1)->Gq x.2.1/\P4 fun j=>let e:=(j.1.length:Int);j.1=nc (nv x.2.1)->(c<=a/\a<=a/\(↑(4:Nat):Int)*a<=(281474976710656:Int)/\a<=(9223372036854775807:Int))/\∃(I:Rx->Prop),∃(g: _->Nat),I (c,c,List.replicate a.toNat c,())/\∀(p:Rx),let d:=(gx c r.1 p.2.1);(Ty.int u64).wf p.1/\(Ty.int i64).wf p.2.1/\Gr p.2.2.1/\True->I p->(iB (decide (p.2.1<a)) (∃(J:D6->Prop),((iB (decide (p.2.1<e)) ((c<=p.2.1/\p.2.1<e)/\J (u64.wrap (p.1+u64.wrap (gx c j.1 p.2.1)),())) (J (p.1,()))))/\∀(i:D6),let k:Prop:=(u64.wrap d<i.1);(Ty.int u64).wf i.1/\True->J i->(c<=p.2.1/\p.2.1<a)/\∃(J:Dh->Prop),((iB (decide k) (J ((1:Int),u64.wrap (u64.wrap d+(4294967296:Int)),())) (J (c,u64.wrap d,()))))/\∀(h:Dh),let b:=(h.1,i64.wrap (p.2.1+1),List.set p.2.2.1 p.2.1.toNat (u32.wrap (u64.wrap (h.2.1-i.1))),());(Ty.int u64).wf h.1/\(Ty.int u64).wf h.2.1/\True->J h->(c<=p.2.1/\p.2.1<(p.2.2.1.length:Int))/\I b/\g b<g p) (Gq p.2.2.1/\P4 fun r=>r.1=nc (nv p.2.2.1)->(nv x.1<nv x.2.1->r.1= []/\true=false)/\(nv x.2.1<=nv x.1->r.1=nc f/\true=true)))))
def Zv:A4 Dz.args->Prop:=fun(x:Fi)=>let i:=(1:Int);let e:=(nv x.1);let d:=(nv x.2.1);let c:=(0:Int);Gq x.1/\P4 fun r=>let a:=(r.1.length:Int);r.1=nc e->Gq x.2.1/\P4 fun j=>let b:=(j.1.length:Int);j.1=nc d->(iB (decide (a≠b)) ((iB (decide (a<b)) ((-1:Int)=Bv e d) (i=Bv e d))) (∃(I:D6->Prop),∃(g: _->Nat),I (i64.wrap (a-i),())/\∀(p:D6),let k:Prop:=(gx c j.1 p.1<gx c r.1 p.1);let h:Prop:=(gx c r.1 p.1<gx c j.1 p.1);let f:=(i64.wrap (p.1-i),());(Ty.int i64).wf p.1/\True->I p->(iB (decide (c<=p.1)) ((c<=p.1/\p.1<a)/\(c<=p.1/\p.1<b)/\(iB (decide h) ((-1:Int)=Bv e d) ((c<=p.1/\p.1<a)/\(c<=p.1/\p.1<b)/\(iB (decide k) (i=Bv e d) (I f/\g f<g p))))) (c=Bv e d))))
def YG:A4 Qx.args->Prop:=fun(x:Fi)=>let i:=(0:Int);let g:=(x.1.length:Int);let e:=(x.2.1.length:Int);(i<=i64.wrap (g+e)/\i64.wrap (g+e)<=i64.wrap (g+e)/\(↑(4:Nat):Int)*i64.wrap (g+e)<=(281474976710656:Int)/\i64.wrap (g+e)<=(9223372036854775807:Int))/\∃(I:GT->Prop),∃(n: _->Nat),I (i,List.replicate (i64.wrap (g+e)).toNat i,())/\∀(p:GT),let c:Prop:=(p.1<g);(Ty.int i64).wf p.1/\Gr p.2.1/\True->I p->(iB (decide c) (∃(I_1:Rx->Prop),∃(g: _->Nat),I_1 (i,i,p.2.1,())/\∀(l:Rx),let k:=(l.2.2.1.length:Int);let j:=(i64.wrap (p.1+l.2.1));let h:=(i64.wrap (p.1+1),List.set l.2.2.1 (i64.wrap (p.1+e)).toNat (u32.wrap l.1),());let d:=(u64.wrap (l.1+u64.wrap (u64.wrap (List.getD l.2.2.1 j.toNat i)+u64.wrap (u64.wrap (gx i x.1 p.1)*u64.wrap (gx i x.2.1 l.2.1)))));let f:=(d.fdiv ((2:Int)^Min.min ((32:Int).toNat) u64.bits),i64.wrap (l.2.1+1),List.set l.2.2.1 j.toNat (u32.wrap d),());let b:Prop:=(l.2.1<e);let a:Prop:=(i<=i64.wrap (p.1+l.2.1)/\i64.wrap (p.1+l.2.1)<k);(Ty.int u64).wf l.1/\(Ty.int i64).wf l.2.1/\Gr l.2.2.1/\True->I_1 l->(iB (decide b) (a/\(i<=p.1/\c)/\(i<=l.2.1/\b)/\a/\(0:(Ty.int u64).den)<=(32:Int)/\I_1 f/\g f<g l) ((i<=i64.wrap (p.1+e)/\i64.wrap (p.1+e)<k)/\I h/\n h<n p))) (Gq p.2.1/\P4 fun r=>r.1=nc (nv p.2.1)->r.1=nc (nv x.1*nv x.2.1)))
def EO:A4 Gf.args->Prop:=fun(x:Ry)=>let d:=(0:Int);let c:=(18446744073709551616:Nat);Gq x.1/\P4 fun r=>let b:=(r.1.length:Int);r.1=nc (nv x.1)->(iB (decide ((2:Int)<b)) ((nv x.1<c->d=(↑(nv x.1):Int)/\false=true)/\(c<=nv x.1->false=false)) (∃(I:Dh->Prop),∃(f: _->Nat),I (d,i64.wrap (b-(1:Int)),())/\∀(p:Dh),let a:=(u64.wrap (↑(BitVec.ofInt u64.bits (u64.wrap (p.1*2^Min.min ((32:Int).toNat) u64.bits)) |||BitVec.ofInt u64.bits (u64.wrap (gx d r.1 p.2.1))).toNat:Int),i64.wrap (p.2.1-1),());(Ty.int u64).wf p.1/\(Ty.int i64).wf p.2.1/\True->I p->(iB (decide (d<=p.2.1)) ((0:(Ty.int u64).den)<=(32:Int)/\(d<=p.2.1/\p.2.1<b)/\I a/\f a<f p) ((nv x.1<c->p.1=(↑(nv x.1):Int)/\true=true)/\(c<=nv x.1->true=false)))))
end Go.Proofs.YtljgpjhcieidbaaGreat
