/- Part. -/
import Derived.Test.YthiimnbdinlfeaaGreatKRG
set_option linter.all false
namespace Go.Proofs.YthiimnbdinlfeaaGreat
open Go.Proofs.Tryz
open Go.Vc Go.Gw
open Go.IntKind (i64 u64 u32)
def E8o:An:= {}
def E7m:An:= {}
def C5q:An:= {plan:= [(1,[3,7],[],true,(pR 0 3 (.q 3 (pR 4 3 (.q 7 (.p 8 (.p 9 .done))))))),(4,[3,7,10],[],true,(pR 0 3 (.q 3 (pR 4 3 (.q 7 (.p 8 (.p 9 (.q 10 (.p 11 (.e 12 (.p 13 .done)))))))))))]}
def C9g:An:= {}
def C7k:An:= {loop:= [(3,⟨[0,1],[],[(5,false,[.own tQ 38]),(6,false,vI)],[(0,60,[.val (.sl (.int .i64)), .val (.int .i64)])],[]⟩)]}
def B4y:An:= {}
def D3i:A9 A7x.args->Prop:=fun(x:Int×Int×Unit)=>let b:=(u64.wrap x.2.1);let a:=(u64.wrap x.1);u64.wrap x.2.1≠0/\(0<x.2.1->(0:Int)<=i64.wrap (a.tmod b)/\i64.wrap (a.tmod b)<x.2.1/\i64.wrap (a.tmod b)=a.tmod x.2.1)
def E6h:A9 A9c.args->Prop:=fun(x:List Int×Unit)=>(x.1,(0:Int))=(x.1,(0:Int))
def A8s:A9 T8.args->Prop:=fun(x:(List Int×Int)×Int×Unit)=>let e:=(1:Int);let d:=(↑x.1.1.length:Int);let c:=(x.1.1.length:Int);let b:=(0:Int);let a:=(i64.wrap (x.1.2+e)-e);(decide (c<=x.1.2)=true->(b<=b/\b<x.2.1)/\x.1.1=x.1.1/\b<=x.1.2/\x.1.2<=d)/\(decide (c<=x.1.2)=false->(b<=i64.wrap a/\i64.wrap a<c)/\b<x.2.1/\∀(r:Int×Unit),G1 r.1/\True->(b<x.2.1->b<=r.1/\r.1<x.2.1/\r.1=(u64.wrap (gx b x.1.1 (i64.wrap a))).tmod x.2.1)->(b<=r.1/\r.1<x.2.1)/\x.1.1=x.1.1/\b<=i64.wrap (x.1.2+e)/\i64.wrap (x.1.2+e)<=d)
def B1d:A9 X5.args->Prop:=fun(x:(List Int×Int)×Unit)=>let b:=(x.1.1.length:Int);let a:=(0:Int);(a<(13:Int)/\a<=x.1.2/\x.1.2<=b)/\∀(r:Int×Unit) (o:(List Int×Int)×Unit),let c:=(o.1.1.length:Int);G1 r.1/\True->((Ty.int i64).sl.pair (Ty.int i64)).wf o.1/\True->a<=r.1/\r.1<13->o.1.1=x.1.1/\a<=o.1.2/\o.1.2<=b->(a<(4:Int)/\a<=o.1.2/\o.1.2<=c)/\∀(e:Int×Unit) (d:(List Int×Int)×Unit),G1 e.1/\True->((Ty.int i64).sl.pair (Ty.int i64)).wf d.1/\True->a<=e.1/\e.1<4->d.1.1=o.1.1/\a<=d.1.2/\d.1.2<=c->True/\∀(f:QQ×Unit),WfQ f.1/\True->f.1=rc (Rat.divInt (i64.wrap (r.1-6)) (i64.wrap (1+e.1)))->D0n f.1/\d.1.1=x.1.1/\a<=d.1.2/\d.1.2<=(↑x.1.1.length:Int)
def A8b:A9 S6.args->Prop:=fun(x:(List Int×Int)×Int×Unit)=>let c:=(0:Int);∃(I:List QQ×Int×List Int×Int×Unit->Prop),∃(μ: _->Nat),I ([],c,x.1.1,x.1.2,())/\∀(p:List QQ×Int×List Int×Int×Unit),let b:=(p.2.2.1.length:Int);tQ.sl.wf p.1/\(Ty.int i64).wf p.2.1/\(Ty.int i64).sl.wf p.2.2.1/\(Ty.int i64).wf p.2.2.2.1/\True->I p->(decide (p.2.1<x.2.1)=true->(c<=p.2.2.2.1/\p.2.2.2.1<=b)/\∀(r:QQ×Unit) (o:(List Int×Int)×Unit),let a:=(p.1++ [r.1],i64.wrap (p.2.1+1),o.1.1,o.1.2,());WfQ r.1/\True->((Ty.int i64).sl.pair (Ty.int i64)).wf o.1/\True->D0n r.1->o.1.1=p.2.2.1/\c<=o.1.2/\o.1.2<=b->((p.1.length+ [r.1].length)*(56:Nat)<=(140737488355328:Nat)/\p.1.length+ [r.1].length<=9223372036854775807)/\I a/\μ a<μ p)/\(decide (p.2.1<x.2.1)=false->((↑p.1.length:Int)=Max.max x.2.1 c/\∀(e:QQ),e∈p.1->D0n e)/\p.2.2.1=x.1.1/\c<=p.2.2.2.1/\p.2.2.2.1<=(↑x.1.1.length:Int))
def A3s:A9 J0.args->Prop:=fun(x:(List Int×Int)×Unit)=>let b:=(x.1.1.length:Int);let a:=(0:Int);(a<(9:Int)/\a<=x.1.2/\x.1.2<=b)/\∀(r:Int×Unit) (o:(List Int×Int)×Unit),let c:=(o.1.1.length:Int);G1 r.1/\True->((Ty.int i64).sl.pair (Ty.int i64)).wf o.1/\True->a<=r.1/\r.1<9->o.1.1=x.1.1/\a<=o.1.2/\o.1.2<=b->(a<(4:Int)/\a<=o.1.2/\o.1.2<=c)/\∀(e:Int×Unit) (d:(List Int×Int)×Unit),G1 e.1/\True->((Ty.int i64).sl.pair (Ty.int i64)).wf d.1/\True->a<=e.1/\e.1<4->d.1.1=o.1.1/\a<=d.1.2/\d.1.2<=c->True/\∀(f:QQ×Unit),WfQ f.1/\True->f.1=rc (Rat.divInt (i64.wrap (1+r.1)) (i64.wrap (1+e.1)))->(D0n f.1/\(0:Rat)<rv f.1)/\d.1.1=x.1.1/\a<=d.1.2/\d.1.2<=(↑x.1.1.length:Int)
def grown (n m i j:Nat) (f:Nat->Nat->Rat) (rows:List (List D2)):Prop:=rows.length=n/\∀k,k<n->rows.getD k []=(List.range (if k<i then m else if k=i then j else 0)).map fun l=>rc (f k l)
theorem D5e (x:A9 A9c.args) (_:awf A9c.args x) (_:A9c.pre x):E6h x:=rfl
theorem B7h (x:A9 T8.args) (hw:awf T8.args x) (hp:T8.pre x):A8s x:=by
 obtain⟨⟨l,i⟩,n,_⟩:=x;have hl:l.length<=9223372036854775807:=hw.1.1.1;change Int at i n;change List Int at l;obtain⟨u,p1,p2⟩:0<n/\0<=i/\i<=(l.length:Int):=hp;simp only[A8s];refine⟨fun h=>⟨⟨by omega,u⟩,by trivial,p1,p2⟩,fun h=> ?_⟩;have h:=g0b h;rw[wr (a:=i+1) (by omega) (by omega),wr (a:=i+1-1) (by omega) (by omega)];refine⟨⟨by omega,by omega⟩,u, ?_⟩;rintro⟨r,_⟩ _ hr;exact⟨⟨(hr u).1,(hr u).2.1⟩,by trivial,by omega,by omega⟩
theorem D5g (x:A9 A7x.args) (hw:awf A7x.args x) (hp:A7x.pre x):D3i x:=by
 obtain⟨a,b,_⟩:=x;change Int at a b;have hb:0<b:=hp;have h1:inR .i64 b:=hw.2.1;unfold inR at h1;rw[show i64.min= -9223372036854775808 from by decide,show i64.max=9223372036854775807 from by decide]at h1;simp only[D3i];have e:u64.wrap b=b:=by simp[IntKind.wrap,IntKind.bits,IntKind.signed];omega
 have u:0<=u64.wrap a:=by simp[IntKind.wrap,IntKind.bits,IntKind.signed];omega
 rw[e];have h3:0<=(u64.wrap a).tmod b:=g8x _ u;have h4:(u64.wrap a).tmod b<b:=Int.tmod_lt_of_pos _ hb;rw[wr (by omega) (by omega)];exact⟨by omega,fun _=>⟨h3,h4,rfl⟩⟩
theorem D2x {a b:Int} (ha:a.natAbs<4294967296) (u:0<b) (hb:b.natAbs<4294967296):D0n (rc (Rat.divInt a b)):=by
 refine⟨_, ?_,rfl⟩;rw[C7s u];exact E1b (by omega) (A7d (by simpa using ha)) (A7d (by simpa using hb))
theorem C0y (x:A9 X5.args) (hw:awf X5.args x) (hp:X5.pre x):B1d x:=by
 obtain⟨⟨l,i⟩,_⟩:=x;change Int at i;change List Int at l;obtain⟨p1,p2⟩:0<=i/\i<=(l.length:Int):=hp;simp only[B1d];refine⟨⟨by omega,p1,p2⟩, ?_⟩;rintro⟨a,_⟩ ⟨⟨l1,i1⟩,_⟩ _ _ ha ho;change Int at i1 a;change List Int at l1;simp only at ha ho⊢;obtain⟨rfl,h1,u⟩:=ho;refine⟨⟨by omega,h1,u⟩, ?_⟩;rintro⟨b,_⟩ ⟨⟨l2,i2⟩,_⟩ _ _ hb ho;change Int at i2 b;change List Int at l2;simp only at hb ho⊢;obtain⟨rfl,h1,u⟩:=ho;refine⟨trivial, ?_⟩;rintro⟨q,_⟩ _ hq;simp only at hq⊢;rw[wr (by omega) (by omega),wr (by omega) (by omega)]at hq;exact⟨by rw[hq];exact D2x (by omega) (by omega) (by omega),by trivial,h1,u⟩
theorem B7a (x:A9 S6.args) (hw:awf S6.args x) (hp:S6.pre x):A8b x:=by
 obtain⟨⟨l,i⟩,n,_⟩:=x;change Int at i n;change List Int at l;obtain⟨p0,p1,p2⟩:n<=1000/\0<=i/\i<=(l.length:Int):=hp;simp only[A8b];refine⟨fun p=>0<=p.2.1/\p.2.1<=max n 0/\(p.1.length:Int)=p.2.1/\(∀e∈p.1,D0n e)/\p.2.2.1=l/\0<=p.2.2.2.1/\p.2.2.2.1<=(l.length:Int),fun p=>(n-p.2.1).toNat,⟨g0k _,by show 0<=max n 0;omega,rfl,fun e u=>(by cases u),rfl,p1,p2⟩, ?_⟩;rintro⟨o,k,l1,i1,_⟩ _ ⟨h0,h1,h2,h3,h4,h5,h6⟩;change Int at k i1;change List Int at l1;change List D2 at o;simp only at h0 h1 h2 h3 h4 h5 h6⊢;subst h4;refine⟨fun h=> ?_,fun h=> ?_⟩
 . have h:=g0a h;refine⟨⟨h5,h6⟩, ?_⟩;rintro⟨q,_⟩ ⟨⟨l2,i2⟩,_⟩ _ _ hq ho;change Int at i2;change List Int at l2;simp only at hq ho⊢;obtain⟨rfl,g1,g2⟩:=ho;rw[wr (by omega) (by omega)];refine⟨⟨by rw[g1l];omega,by rw[g1l];omega⟩,⟨by omega,by omega,by rw[g1o,g1l];omega,fun e u=> ?_,by trivial,g1,g2⟩,by omega⟩;rcases g1b.1 u with u|u
   . exact h3 e u
   . rw[g0x.1 u];exact hq
 . have h:=g0b h;exact⟨⟨by omega,h3⟩,by trivial,h5,h6⟩
def Y7:An:= {}
def Z7:An:= {loop:= [(4,⟨[0,1,2,3,8],[],[(9,false,vI)],[],[(0, .row tE 120)]⟩),(1,⟨[0,1,2,3],[],[(8,false,vI)],[],[(0, .row tE 120)]⟩)],plan:= [(4,[8,13],[],false,(pR 0 8 (.q 8 (pR 9 4 (.q 13 (.e 14 (.p 15 (.p 16 .done)))))))),(6,[9,13],[15,17],true,(pR 0 9 (.q 9 (pR 10 3 (.q 13 (.p 14 (.e 15 (.p 16 (.e 17 .done)))))))))]}
def A4l:An:= {join:= [(16,⟨[0,1,2,6],[],[],[],[(0, .row tE 120)]⟩)],loop:= [(2,⟨[0,1,2,6],[],[(7,false,vI),(8,false,vI)],[],[(0, .row tE 120)]⟩),(9,⟨[0,1,2,6],[],[(7,false,vI),(8,false,vI)],[],[(0, .row tE 120)]⟩),(7,⟨[0,1,2],[],[(6,false,vI)],[],[(0, .row tE 120)]⟩)]}
def C7l:An:= {}
def C7t:An:= {join:= [(14,⟨[3,18,19,20],[],[(4,false,vI)],[],[(0, .row tE 120)]⟩)],loop:= [(8,⟨[3,18,19],[],[(4,false,vI),(20,false,vI)],[],[(0, .row tE 120)]⟩)],plan:= [(10,[8,10],[],true,(pR 0 8 (.q 8 (.p 9 (.q 10 (.p 11 (.p 12 .done))))))),(11,[8,10],[14],true,(pR 0 8 (.q 8 (.p 9 (.q 10 (.e 11 (.p 12 (.p 13 (.e 14 .done)))))))))]}
def J1:A9 C5.args->Prop:=fun(x:List EE×((EE×EE×Unit->Prop)×(EE×EE×Unit->Int))×Unit)=>let a:=(x.1.length:Int);Go.Proofs.Tryz.prog=Go.Proofs.Tryz.prog/\false=false/\((D1r x.2.1.1 fun(z:EE×EE×Unit)=>x.2.1.2 z)/\a=a/\List.length x.1<=20)/\∀(r:Unit) (o:List EE×Unit),True->tE.sl.wf o.1/\True->True->o.1.Perm x.1/\E2d (fun(z:EE×EE×Unit)=>x.2.1.2 z) o.1->True/\o.1.Perm x.1/\E2d x.2.1.2 o.1
def J8:A9 C6.args->Prop:=fun(x:List EE×Int×Int×((EE×EE×Unit->Prop)×(EE×EE×Unit->Int))×Unit)=>let h:=(0:Int);let f:=(1:Int);∃(I:Int×List EE×Unit->Prop),∃(μ: _->Nat),I (i64.wrap (x.2.1+f),x.1,())/\∀(p:Int×List EE×Unit),(Ty.int i64).wf p.1/\D9m p.2.1/\True->I p->(decide (p.1<x.2.2.1)=true->∃(I_1:Int×List EE×Unit->Prop),∃(u: _->Nat),I_1 (p.1,p.2.1,())/\∀(m:Int×List EE×Unit),let k:=m.1.toNat;let i:=(i64.wrap (p.1+f),m.2.1,());let e:Prop:=(x.2.1<m.1);let d:=(i64.wrap (m.1-f));let g:=(List.set m.2.1 k (List.getD m.2.1 d.toNat dEE));let c:=(m.2.1.length:Int);let l:Prop:=(h<=m.1/\m.1<c);let b:=(i64.wrap (m.1-f),g.set d.toNat (List.getD m.2.1 k dEE),());let a:=(List.getD m.2.1 k dEE,List.getD m.2.1 d.toNat dEE,());let j:=(decide (x.2.2.2.1.2 a<h));(Ty.int i64).wf m.1/\D9m m.2.1/\True->I_1 m->(decide e=true->h<=m.1/\m.1<c)/\(decide e=true->h<=i64.wrap (m.1-f)/\i64.wrap (m.1-f)<c)/\Go.Proofs.Tryz.prog=Go.Proofs.Tryz.prog/\(decide e=true->x.2.2.2.1.1 a)/\((decide e=true->(Ty.int i64).wf (x.2.2.2.1.2 a))->(sel (decide e) j false=true->(h<=i64.wrap (m.1-f)/\i64.wrap (m.1-f)<c)/\l/\l/\(h<=i64.wrap (m.1-f)/\i64.wrap (m.1-f)<(↑g.length:Int))/\I_1 b/\u b<u m)/\(sel (decide e) j false=false->I i/\μ i<μ p)))/\(decide (p.1<x.2.2.1)=false->True/\List.Perm p.2.1 x.1/\List.take x.2.1.toNat p.2.1=List.take x.2.1.toNat x.1/\List.drop x.2.2.1.toNat p.2.1=List.drop x.2.2.1.toNat x.1/\E2d x.2.2.2.1.2 (List.take (x.2.2.1.toNat-x.2.1.toNat) (List.drop x.2.1.toNat p.2.1)))
def S7:A9 E1.args->Prop:=fun(x:List EE×Int×((EE×EE×Unit->Prop)×(EE×EE×Unit->Int))×Unit)=>let g:=(0:Int);∃(I:Int×Int×List EE×Unit->Prop),∃(μ: _->Nat),I (g,(20:Int),x.1,())/\∀(p:Int×Int×List EE×Unit),let f:=(p.2.2.1.length:Int);let b:=p.1.toNat;(Ty.int i64).wf p.1/\(Ty.int i64).wf p.2.1/\D9m p.2.2.1/\True->I p->(decide (p.2.1<=x.2.1)=true->Go.Proofs.Tryz.prog=Go.Proofs.Tryz.prog/\false=false/\((D1r x.2.2.1.1 fun(z:EE×EE×Unit)=>x.2.2.1.2 z)/\g<=p.1/\p.1<=p.2.1/\p.2.1<=f/\List.length p.2.2.1<=100000)/\∀(r:Unit) (o:List EE×Unit),let c:=(p.2.1,i64.wrap (p.2.1+20),o);True->tE.sl.wf o.1/\True->True->o.1.Perm p.2.2.1/\List.take b o.1=List.take b p.2.2.1/\List.drop p.2.1.toNat o.1=List.drop p.2.1.toNat p.2.2.1/\E2d (fun(z:EE×EE×Unit)=>x.2.2.1.2 z) (List.take (Int.toNat p.2.1-Int.toNat p.1) (List.drop b o.1))->I c/\μ c<μ p)/\(decide (p.2.1<=x.2.1)=false->Go.Proofs.Tryz.prog=Go.Proofs.Tryz.prog/\false=false/\((D1r x.2.2.1.1 fun(z:EE×EE×Unit)=>x.2.2.1.2 z)/\g<=p.1/\p.1<=x.2.1/\x.2.1<=f/\List.length p.2.2.1<=100000)/\∀(r:Unit) (o:List EE×Unit),True->tE.sl.wf o.1/\True->True->o.1.Perm p.2.2.1/\List.take b o.1=List.take b p.2.2.1/\List.drop x.2.1.toNat o.1=List.drop x.2.1.toNat p.2.2.1/\E2d (fun(z:EE×EE×Unit)=>x.2.2.1.2 z) (List.take (Int.toNat x.2.1-Int.toNat p.1) (List.drop b o.1))->∃(I:Int×List EE×Unit->Prop),∃(μ: _->Nat),I ((20:Int),o)/\∀(p:Int×List EE×Unit),(Ty.int i64).wf p.1/\D9m p.2.1/\True->I p->(decide (p.1<x.2.1)=true->∃(I_1:Int×Int×List EE×Unit->Prop),∃(u: _->Nat),I_1 (g,i64.wrap (2*p.1),p.2.1,())/\∀(h:Int×Int×List EE×Unit),let e:Prop:=(i64.wrap (h.1+p.1)<x.2.1);(Ty.int i64).wf h.1/\(Ty.int i64).wf h.2.1/\D9m h.2.2.1/\True->I_1 h->(decide (h.2.1<=x.2.1)=true->Go.Proofs.Tryz.prog=Go.Proofs.Tryz.prog/\false=false/\False/\∀(r:Unit) (o:List EE×Unit),let a:=(h.2.1,i64.wrap (h.2.1+i64.wrap (2*p.1)),o);True->tE.sl.wf o.1/\True->True->True->I_1 a/\u a<u h)/\(decide (h.2.1<=x.2.1)=false->∃(J:List EE×Unit->Prop),((decide e=true->Go.Proofs.Tryz.prog=Go.Proofs.Tryz.prog/\false=false/\False/\∀(r:Unit) (o:List EE×Unit),True->tE.sl.wf o.1/\True->True->True->J o)/\(decide e=false->J (h.2.2.1,())))/\∀(i:List EE×Unit),let d:=(i64.wrap (p.1*2),i);D9m i.1/\True->J i->I d/\μ d<μ p))/\(decide (p.1<x.2.1)=false->True/\List.Perm p.2.1 x.1/\E2d x.2.2.1.2 p.2.1))
def A8t:A9 T4.args->Prop:=fun(x:EE×EE×Unit)=>True/\∀(r:Int×Unit),G1 r.1/\True->r.1=A0s x.1.1 x.2.1.1->r.1=A0s x.1.1 x.2.1.1
def A9b:A9 S9.args->Prop:=fun(x:List EE×Unit)=>let i:=(1:Int);let e:=(0:Int);let k:=e.toNat;let d:=(x.1.length:Int);True/\∀(r:Bool×Unit),True/\True->r.1=decide (asc x.1)->(r.1=true->(asc x.1->x.1=x.1)/\(¬asc x.1->asc x.1/\(∀(j:Int),C1 x.1 j=C1 x.1 j)/\List.length x.1<=20/\szV (16777216:Nat) x.1))/\(r.1=false->(e<=d/\d<=d/\(↑(64:Nat):Int)*d<=(281474976710656:Int)/\d<=(9223372036854775807:Int))/\∃(ok:EE×EE×Unit->Prop),∃(φ:EE×EE×Unit->Int),(∀(y:EE×EE×Unit),tE.wf y.1/\tE.wf y.2.1/\True->ok y->True/\∀(z:Int×Unit),G1 z.1/\True->z.1=A0s y.1.1 y.2.1.1->false=false/\z.1=φ y)/\(D1r ok φ/\(C1f (List.replicate d.toNat dEE) x.1).length<=(20:Nat))/\∀(s:Unit) (o:List EE×Unit),True->tE.sl.wf o.1/\True->True->o.1.Perm (C1f (List.replicate d.toNat dEE) x.1)/\E2d φ o.1->∃(I:Int×Int×List EE×Unit->Prop),∃(μ: _->Nat),I (e,e,o)/\∀(p:Int×Int×List EE×Unit),let m:Prop:=(p.2.1<(↑o.1.length:Int));let l:=(i64.wrap (p.1-i));let g:=p.1.toNat;let c:=(p.2.2.1.length:Int);let f:Prop:=(e<=i64.wrap (p.1-i)/\i64.wrap (p.1-i)<c);let b:=(List.getD p.2.2.1 p.2.1.toNat dEE);let a:=(List.getD p.2.2.1 l.toNat dEE);let n:=(decide (a.1=b.1));(Ty.int i64).wf p.1/\(Ty.int i64).wf p.2.1/\D9m p.2.2.1/\True->I p->(decide m=true->∃(J:Int×List EE×Unit->Prop),((e<=p.2.1/\p.2.1<c)/\(decide (e<p.1)=true->e<=i64.wrap (p.1-i)/\i64.wrap (p.1-i)<c)/\(sel (decide (e<p.1)) n false=true->f/\(sh3 a.2/\sh3 b.2)/\∀(r:QQ×Unit),WfQ r.1/\True->r.1=rc (rv a.2+rv b.2)->f/\J (p.1,List.set p.2.2.1 l.toNat (a.1,r.1),()))/\(sel (decide (e<p.1)) n false=false->(e<=p.1/\p.1<c)/\J (i64.wrap (p.1+i),List.set p.2.2.1 g b,())))/\∀(q:Int×List EE×Unit),let h:=(q.1,i64.wrap (p.2.1+i),q.2.1,());(Ty.int i64).wf q.1/\D9m q.2.1/\True->J q->I h/\μ h<μ p)/\(decide m=false->(e<=e/\e<=p.1/\p.1<=c)/\(asc x.1->List.drop k (List.take g p.2.2.1)=x.1)/\(¬asc x.1->asc (List.drop k (List.take g p.2.2.1))/\(∀(j:Int),C1 (List.drop k (List.take g p.2.2.1)) j=C1 x.1 j)/\(List.drop k (List.take g p.2.2.1)).length<=(20:Nat)/\szV (16777216:Nat) (List.drop k (List.take g p.2.2.1)))))
theorem D7c {a b:List Ent} (h:a.Perm b) (j:Int):C1 a j=C1 b j:=by
 induction h with
 |nil=>rfl
 |cons e _ ih=>rw[C1,C1,ih]
 |swap e f l=>simp only[C1];rw[<-g7w, <-g7w,h2w (if f.1=j then rv f.2 else 0)]
 |trans _ _ h1 u=>rw[h1,u]
theorem D8v (e:Ent) (j:Int):C1 [e] j=if e.1=j then rv e.2 else 0:=by
 simp only[C1,g1p]
structure F1y (o:List Ent) (n i:Int) (c:List Ent):Prop where
 n0:0<=n
 ni:n<=i
 il:i<=(o.length:Int)
 cl:c.length=o.length
 rest:∀j:Nat,i.toNat<=j->c.getD j dEE=o.getD j dEE
 ord:asc (c.take n.toNat)
 cm:∀j,C1 (c.take n.toNat) j=C1 (o.take i.toNat) j
 le:∀e∈c.take n.toNat,∃y∈o.take i.toNat,y.1=e.1
 szs:∀e∈c.take n.toNat,sz (65537*i.toNat) e.2/\C0v e.2
theorem F1y.init (o:List Ent):F1y o 0 0 o:=⟨g0k _,g0k _,g0d _,rfl,fun _ _=>rfl,List.Pairwise.nil,fun _=>rfl,fun e u=>(by cases u),fun e u=>(by cases u)⟩
theorem C2m {α:Type} {l:List α} {k:Nat} {x:α} (h:k<l.length):(l.set k x).take (k+1)=l.take k++ [x]:=by
 rw[g1z,g8o (g0w k),g2w h];rfl
theorem B6m {α:Type} {l:List α} {k:Nat} (d:α) (h:k<l.length):l.take (k+1)=l.take k++ [l.getD k d]:=by
 rw[g1z,g0l h,G2 _ _ h];rfl
variable {o c:List Ent} {n i:Int}
theorem F1y.bound (h:F1y o n i c) (hs:o.Pairwise fun a b=>a.1<=b.1) (hi:i<(o.length:Int)):∀e∈c.take n.toNat,e.1<=(o.getD i.toNat dEE).1:=fun e he=>by
 obtain⟨y,hy,u⟩:=h.le e he;obtain⟨k,hk,rfl⟩:=g3s.1 hy;rw[g0q]at hk;rw[h0v]at u;have hn:=h.n0;have a0:=h.ni;have:=g3x.1 hs k i.toNat (by omega) (by omega) (by omega);rw[G2 _ _ (show i.toNat<o.length by omega), <-u];exact this
theorem F1y.push (h:F1y o n i c) (hs:o.Pairwise fun a b=>a.1<=b.1) (hz:szV 65536 o) (hl:F5h o) (hi:i<(o.length:Int)) (a2:0<n->(c.getD (n-1).toNat dEE).1≠(o.getD i.toNat dEE).1):F1y o (n+1) (i+1) (c.set n.toNat (o.getD i.toNat dEE)):=by
 have hn:=h.n0;have a8:=h.ni;have a3:=h.cl;have hb:=h.bound hs hi;have ht:(c.set n.toNat (o.getD i.toNat dEE)).take (n+1).toNat=c.take n.toNat++ [o.getD i.toNat dEE]:=by
  rw[show(n+1).toNat=n.toNat+1 from by omega];exact C2m (by omega)
 have ho:o.take (i+1).toNat=o.take i.toNat++ [o.getD i.toNat dEE]:=by
  rw[show(i+1).toNat=i.toNat+1 from by omega];exact B6m dEE (by omega)
 have a5:∀e∈c.take n.toNat,e.1<(o.getD i.toNat dEE).1:=fun e u=>by
  have h1:=hb e u;have a6:0<n:=by
   rcases Int.lt_or_eq_of_le hn with h2|h2
   . exact h2
   . rw[<-h2]at u;cases u
  have hk:(n-1).toNat<c.length:=by omega
  have hsp:c.take n.toNat=c.take (n-1).toNat++ [c.getD (n-1).toNat dEE]:=by
   rw[show n.toNat=(n-1).toNat+1 from by omega];exact B6m dEE hk
  have a4:=hb (c.getD (n-1).toNat dEE) (by rw[hsp];simp);have a2:=a2 a6;have a0:=h.ord;rw[hsp]at u a0;rcases g1b.1 u with u|u
  . have:=(g4s.1 a0).2.2 e u _ (g0x.2 rfl);omega
  . rw[g0x]at u;subst u;omega
 have a1:o.getD i.toNat dEE∈o:=B7 (by omega);refine⟨by omega,by omega,by omega,by rw[g0j];exact a3,fun j hj=> ?_, ?_,fun j=> ?_,fun e u=> ?_,fun e u=> ?_⟩
 . rw[g0g,g3a (by omega), <-g0g];exact h.rest j (by omega)
 . rw[ht];exact F1t h.ord a5
 . rw[ht,ho,O1,O1,h.cm]
 . rw[ht]at u;rw[ho];rcases g1b.1 u with u|u
   . obtain⟨y,hy,a7⟩:=h.le e u;exact⟨y,g2f _ hy,a7⟩
   . rw[g0x]at u;subst u;exact⟨_,g3b _ (g0x.2 rfl),rfl⟩
 . rw[ht]at u;rcases g1b.1 u with u|u
   . exact⟨F2 (h.szs e u).1 (by omega),(h.szs e u).2⟩
   . rw[g0x]at u;subst u;exact⟨F2 (hz _ a1) (by omega),hl _ a1⟩
theorem F1y.add (h:F1y o n i c) (hz:szV 65536 o) (hl:F5h o) (hi:i<(o.length:Int)) (ab:0<n) (he:(c.getD (n-1).toNat dEE).1=(o.getD i.toNat dEE).1):sz (65537*i.toNat) (c.getD (n-1).toNat dEE).2/\sz 65536 (o.getD i.toNat dEE).2/\F1y o n (i+1) (c.set (n-1).toNat ((c.getD (n-1).toNat dEE).1,rc (rv (c.getD (n-1).toNat dEE).2+rv (o.getD i.toNat dEE).2))):=by
 have ac:=h.ni;have a5:=h.cl;have hk:(n-1).toNat<c.length:=by omega
 have hsp:c.take n.toNat=c.take (n-1).toNat++ [c.getD (n-1).toNat dEE]:=by
  rw[show n.toNat=(n-1).toNat+1 from by omega];exact B6m dEE hk
 have ho:o.take (i+1).toNat=o.take i.toNat++ [o.getD i.toNat dEE]:=by
  rw[show(i+1).toNat=i.toNat+1 from by omega];exact B6m dEE (by omega)
 have a6:c.getD (n-1).toNat dEE∈c.take n.toNat:=by rw[hsp];simp
 have a4:o.getD i.toNat dEE∈o:=B7 (by omega);obtain⟨z1,z2⟩:=h.szs _ a6;have z3:=hz _ a4;have z4:=hl _ a4;refine⟨z1,z3, ?_⟩;have a1:=h.ord;have a2:=h.cm;have a3:=h.le;have a0:=h.szs;rw[hsp]at a1 a2 a3 a0;have a8:=h.rest;generalize aa:c.getD (n-1).toNat dEE=la at*;generalize o.getD i.toNat dEE=e0 at*;have ht:∀x:Ent,(c.set (n-1).toNat x).take n.toNat=c.take (n-1).toNat++ [x]:=fun x=>by
  rw[show n.toNat=(n-1).toNat+1 from by omega];exact C2m hk
 obtain⟨p1,p2,p3⟩:=g4s.1 a1;have a7:qs (65537*(i+1).toNat) (rv la.2+rv e0.2):=by
  have h1:1<=i.toNat:=by omega
  exact G7 (D8e (A6p z2 z1 (by omega)) (A6p z4 z3 (by decide))) (by omega)
 refine⟨h.n0,by omega,by omega,by rw[g0j];exact a5,fun j hj=> ?_, ?_,fun j=> ?_,fun e u=> ?_,fun e u=> ?_⟩
 . rw[g0g,g3a (by omega), <-g0g];exact a8 j (by omega)
 . rw[ht];exact g4s.2 ⟨p1,h1a _ _,fun a ha b hb=>by rw[g0x]at hb;subst hb;exact p3 a ha la (g0x.2 rfl)⟩
 . rw[ht,ho,O1,O1, <-a2,O1,D8v,D8v,D8v];simp only;rw[H6,he,g7w];congr 1;split
   . rfl
   . rw[g1p]
 . rw[ht]at u;rw[ho];rcases g1b.1 u with h1|h1
   . obtain⟨y,hy,a9⟩:=a3 e (g2f _ h1);exact⟨y,g2f _ hy,a9⟩
   . rw[g0x]at h1;subst h1;exact⟨e0,g3b _ (g0x.2 rfl),he.symm⟩
 . rw[ht]at u;rcases g1b.1 u with h1|h1
   . exact⟨F2 (a0 e (g2f _ h1)).1 (by omega),(a0 e (g2f _ h1)).2⟩
   . rw[g0x]at h1;subst h1;exact⟨E0v a7,F5c _⟩
theorem B7z (x:A9 T4.args) (u:awf T4.args x) (_:T4.pre x):A8t x:=by
 simp only[A8t];exact⟨trivial,fun r _ h=>h⟩
theorem W9 (x:A9 C6.args) (hw:awf C6.args x) (hp:C6.pre x):J8 x:=by
 obtain⟨l,a,b,⟨ok,φ⟩,_⟩:=x;change List (Int×(Bool×List Int)×List Int)at l;change Int at a b;obtain⟨⟨a2,a3,a1⟩,a0,ab,bl,hl⟩:D1r ok φ/\0<=a/\a<=b/\b<=(l.length:Int)/\l.length<=100000:=hp;simp only[J8];have hq:∀x y z:Ent,¬φ (y,x,())<0->¬φ (z,y,())<0->¬φ (z,x,())<0:=fun x y z h1 h2=>a3 z y x h2 h1
 refine⟨fun p=>a+1<=p.1/\(p.1<=b\/p.1=a+1)/\p.2.1.Perm l/\p.2.1.take a.toNat=l.take a.toNat/\p.2.1.drop b.toNat=l.drop b.toNat/\(∀s t,a.toNat<=s->s<t->t<p.1.toNat->t<b.toNat->¬φ (p.2.1.getD t dEE,p.2.1.getD s dEE,())<0),fun p=>(b-p.1).toNat, ?_, ?_⟩
 . rw[wr (by omega) (by omega)];refine⟨g0k _, .inr rfl,g5y _,rfl,rfl,fun s t h1 h2 h3 h4=> ?_⟩;change t<(a+1).toNat at h3;omega
 rintro⟨i,m,_⟩ _ ⟨h0,h1,h2,h3,h4,h5⟩;change Int at i;change List (Int×(Bool×List Int)×List Int)at m;simp only at h0 h1 h2 h3 h4 h5⊢;have a4:=h2.length_eq;refine⟨fun h=> ?_,fun h=> ?_⟩
 . have h:=g0a h;refine⟨fun p=>a<=p.1/\p.1<=i/\p.2.1.Perm l/\p.2.1.take a.toNat=l.take a.toNat/\p.2.1.drop b.toNat=l.drop b.toNat/\H1q (fun x y=>¬φ (y,x,())<0) dEE p.2.1 a.toNat i.toNat p.1.toNat,fun p=>(p.1-a).toNat,⟨by show a<=i;omega,g0k _,h2,h3,h4,F3p fun s t q1 q2 q3=>h5 s t q1 q2 q3 (by omega)⟩, ?_⟩;rintro⟨j,y,_⟩ _ ⟨g0,g1,g2,g3,g4,g5⟩;change Int at j;change List (Int×(Bool×List Int)×List Int)at y;simp only at g0 g1 g2 g3 g4 g5⊢;have a5:=g2.length_eq;have ew:i64.wrap (j-1)=j-1:=wr (by omega) (by omega);rw[ew];have et:(j-1).toNat=j.toNat-1:=by omega
   rw[et];refine⟨fun hj=>⟨by omega,by omega⟩,fun hj=> ?_,trivial,fun _=>a2 _ _,fun _=>⟨fun u=> ?_,fun u=> ?_⟩⟩
   . have hj:=g0a hj;exact⟨by omega,by omega⟩
   . rw[J5]at u;simp only[g0c,g1y]at u;obtain⟨s1,s2⟩:=u;refine⟨⟨by omega,by omega⟩,⟨by omega,by omega⟩,⟨by omega,by omega⟩,⟨by omega,by rw[g0j];omega⟩,⟨by omega,by omega, ?_, ?_, ?_, ?_⟩,by omega⟩
     . exact(F3l (d:=dEE) (l:=y) (j:=j.toNat) (by omega)).trans g2
     . exact(F3a (d:=dEE) (l:=y) (by omega)).trans g3
     . exact(F3v (d:=dEE) (l:=y) (by omega)).trans g4
     . exact F9e g5 (by omega) (by omega) (by omega) (a1 _ _ s2)
   . rw[J5]at u;simp only[g7p,g1r]at u;rw[wr (by omega) (by omega)];refine⟨⟨by omega, .inl (by omega),g2,g3,g4,fun s t q1 q2 q3 q4=> ?_⟩,by omega⟩;refine G3c g5 hq (by omega) (fun hh=> ?_) s t q1 q2 (by change t<(i+1).toNat at q3;omega);rcases u with u|u
     . omega
     . exact u
 . have h:=g0b h;refine⟨trivial,h2,h3,h4, ?_⟩;unfold E2d;have:=D5m (q:=fun x y=>¬φ (y,x,())<0) (d:=dEE) (l:=m) (a:=a.toNat) (b:=b.toNat) (by omega) fun s t q1 q2 q3=>h5 s t q1 q2 (by omega) q3
   exact this
theorem A2q (x:A9 E1.args) (hw:awf E1.args x) (hp:E1.pre x):S7 x:=by
 obtain⟨l,n,⟨ok,φ⟩,_⟩:=x;change List (Int×(Bool×List Int)×List Int)at l;change Int at n;obtain⟨a0,hn,hl⟩:D1r ok φ/\n=(l.length:Int)/\l.length<=20:=hp;simp only[S7];refine⟨fun p=>(p.1=0/\p.2.1=20/\p.2.2.1=l)\/(p.1=20/\p.2.1=40/\n=20/\p.2.2.1.Perm l/\E2d φ p.2.2.1),fun p=>(40-p.2.1).toNat, .inl ⟨rfl,rfl,rfl⟩, ?_⟩;rintro⟨a,b,m,_⟩ _ hI;change Int at a b;change List (Int×(Bool×List Int)×List Int)at m;simp only at hI⊢;refine⟨fun h=> ?_,fun h=> ?_⟩
 . have h:=g0a h;obtain⟨rfl,rfl,rfl⟩:a=0/\b=20/\m=l:=by
    rcases hI with h1| ⟨_,h1,_⟩
    . exact h1
    . omega
   refine⟨trivial,trivial,⟨a0,g0k _,by omega,by omega,by omega⟩, ?_⟩;rintro r ⟨o,_⟩ _ _ _ ⟨o1,o2,o3,u⟩;simp only at o1 o2 o3 u⊢;rw[wr (by omega) (by omega)];refine⟨.inr ⟨by trivial,by trivial,by omega,o1, ?_⟩,by simp⟩;have a1:=o1.length_eq;change E2d φ ((o.drop 0).take (20-0))at u;rw[g3n,g0o (by omega)]at u;exact u
 . have h:=g0b h;have hm:0<=a/\a<=n/\m.Perm l/\(a=0\/a=n/\E2d φ m):=by
    rcases hI with⟨rfl,rfl,rfl⟩ | ⟨rfl,rfl,a3,hp,hs⟩
    . exact⟨g0k _,by omega,g5y _, .inl rfl⟩
    . exact⟨by decide,by omega,hp, .inr ⟨by omega,hs⟩⟩
   obtain⟨m1,m2,m3,m4⟩:=hm;have a4:=m3.length_eq;refine⟨trivial,trivial,⟨a0,m1,m2,by omega,by omega⟩, ?_⟩;rintro r ⟨o,_⟩ _ _ _ ⟨o1,o2,o3,u⟩;simp only at o1 o2 o3 u⊢;have a1:=o1.length_eq;have a2:E2d φ o:=by
    rcases m4 with m4| ⟨m4,m5⟩
    . change E2d φ ((o.drop a.toNat).take (n.toNat-a.toNat))at u;rw[m4]at u;change E2d φ ((o.drop 0).take (n.toNat-0))at u;rw[g3n,g0o (by omega)]at u;exact u
    . rw[g0o (by omega),g0o (by omega)]at o2;rw[o2];exact m5
   refine⟨fun p=>p.1=20/\p.2.1.Perm l/\E2d φ p.2.1,fun _=>0,⟨rfl,o1.trans m3,a2⟩, ?_⟩;rintro⟨k,z,_⟩ _ ⟨k1,k2,k3⟩;simp only at k1 k2 k3⊢;subst k1;refine⟨fun hk=> ?_,fun _=>⟨trivial,k2,k3⟩⟩;have hk:=g0a hk;omega
theorem V6 (x:A9 C5.args) (hw:awf C5.args x) (hp:C5.pre x):J1 x:=by
 obtain⟨l,⟨ok,φ⟩,_⟩:=x;obtain⟨u,hl⟩:D1r ok φ/\l.length<=20:=hp;simp only[J1];refine⟨trivial,trivial,⟨u,trivial,hl⟩, ?_⟩;rintro r ⟨o,_⟩ _ _ _ h;exact⟨trivial,h⟩
theorem E7t:D1r (fun _=>True) (fun z=>A0s z.1.1 z.2.1.1):=by
 refine⟨fun _ _=>trivial,fun a b c=> ?_,fun a b=> ?_⟩
 . simp only[A0s];split<;>split<;>split<;>(try split)<;>(try split)<;>(try split)<;>omega
 . simp only[A0s];split<;>split<;>(try split)<;>(try split)<;>omega
theorem G1s {a b:Int} :¬A0s a b<0↔b<=a:=by
 unfold A0s;split
 . omega
 . split<;>omega
theorem B7o (x:A9 S9.args) (hw:awf S9.args x) (hp:S9.pre x):A9b x:=by
 obtain⟨l,_⟩:=x;have a8:F5h l:=E6m hw.1.2;change List Ent at l;have hp:F2z l:=hp;simp only[A9b];refine⟨trivial, ?_⟩;rintro⟨r,_⟩ _ hr;simp only at hr⊢;subst hr;refine⟨fun h=>⟨fun _=>by trivial,fun h2=>absurd (g0a h) h2⟩,fun h=> ?_⟩;have a1:=g0b h;obtain⟨hl,hz⟩:=hp.resolve_left a1;refine⟨⟨by omega,by omega,by omega,by omega⟩,fun _=>True,fun z=>A0s z.1.1 z.2.1.1, ?_,⟨E7t, ?_⟩, ?_⟩
 . rintro⟨a,b,_⟩ _ _;refine⟨trivial, ?_⟩;rintro⟨z,_⟩ _ hz;exact⟨(by trivial),hz⟩
 . rw[D1u];exact hl
 rintro r ⟨o,_⟩ _ _ _ ⟨o1,o2⟩;change List Ent at o;simp only[D1u]at o1 o2⊢;have ad:=o1.length_eq;have ab:o.Pairwise fun a b=>a.1<=b.1:=o2.imp fun {a b} hh=>G1s.1 hh
 have a3:szV 65536 o:=fun e he=>hz e (o1.mem_iff.1 he)
 have a0:F5h o:=fun e he=>a8 e (o1.mem_iff.1 he)
 refine⟨fun p=>F1y o p.1 p.2.1 p.2.2.1,fun p=>((o.length:Int)-p.2.1).toNat,F1y.init o, ?_⟩;rintro⟨n,i,c,_⟩ _ hI;change Int at n i;change List Ent at c;simp only at hI⊢;have h0:=hI.n0;have h1:=hI.ni;have h2:=hI.il;have a6:=hI.cl;have u:(c.length:Int)=(o.length:Int):=by rw[a6]
 refine⟨fun hi=> ?_,fun hi=> ?_⟩
 . have hi:=g0a hi;have a5:c.getD i.toNat dEE=o.getD i.toNat dEE:=hI.rest _ (g0w _);have a7:0<=i/\i<(c.length:Int):=⟨by omega,by rw[u];exact hi⟩;have a9:i64.wrap (n-1)=n-1:=wr (by omega) (by omega);rw[a9,a5];refine⟨fun p=>F1y o p.1 (i+1) p.2.1,⟨a7,fun hh=> ?_,fun hh=> ?_,fun hh=> ?_⟩, ?_⟩
   . have hh:=g0a hh;exact⟨by omega,by rw[u];omega⟩
   . rw[J5]at hh;simp only[g0c,g1y]at hh;obtain⟨g1,g2⟩:=hh;have a2:0<=n-1/\n-1<(c.length:Int):=⟨by omega,by rw[u];omega⟩;obtain⟨z1,z2,z3⟩:=hI.add a3 a0 hi g1 g2;refine⟨a2,⟨L5 (F2 z1 (show 65537*i.toNat<=2199023255552 by omega)) (g0w _),L5 z2 (by decide)⟩, ?_⟩;rintro⟨q,_⟩ _ hq;change D2 at q;simp only at hq⊢;rw[hq];exact⟨a2,z3⟩
   . have aa:0<n->(c.getD (n-1).toNat dEE).1≠(o.getD i.toNat dEE).1:=fun hn he=>by
      rw[J5,g0z hn,g0z he]at hh;cases hh
     rw[wr (by omega) (by omega)];exact⟨⟨by omega,by rw[u];omega⟩,hI.push ab a3 a0 hi aa⟩
   . rintro⟨n',c',_⟩ _ a4;simp only;rw[wr (by omega) (by omega)];exact⟨a4,by omega⟩
 . have hi:=g0b hi;have ac:i=(o.length:Int):=by omega
   refine⟨⟨g0k _,h0,by rw[u];omega⟩,fun h=>absurd h a1,fun _=> ?_⟩;have e1:List.drop (Int.toNat 0) (List.take n.toNat c)=c.take n.toNat:=rfl;rw[e1];refine⟨hI.ord,fun j=> ?_, ?_,fun e he=>F2 (hI.szs e he).1 (by omega)⟩
   . rw[hI.cm,D9 (by omega)];exact D7c o1 j
   . rw[g0q];omega
def C7d:An:= {loop:= [(5,⟨[1,6,14,15],[],[(16,false,vI)],[],[(0, .row tE 120)]⟩)]}
def A9l:A9 M7.args->Prop:=fun(x:List EE×List Int×Unit)=>let h:=(0:Int);let g:=(x.2.1.length:Int);let d:=(↑x.2.1.length:Int);let e:Prop:=(∀(j:Int),C1 x.1 j≠(0:Rat)->h<=j/\j<d);List.length x.2.1<=100000/\∀(r:Bool×Unit),True/\True->r.1=decide (L8 x.2.1 g)->((!r.1)=true->L8 x.2.1 d->e->isC (fun(i:Int)=>if h<=i/\i<d then C1 x.1 (↑(List.idxOf i x.2.1):Int)else(0:Rat)) []/\false=true)/\((!r.1)=false->F7y x.1/\∀(n:List EE×Unit),D9m n.1/\True->isC (C1 x.1) n.1->∃(I:Int×List EE×Unit->Prop),∃(μ: _->Nat),I (h,n)/\∀(p:Int×List EE×Unit),let l:Prop:=(p.1<(n.1.length:Int));let k:Prop:=(h<=p.1/\p.1<(p.2.1.length:Int));let c:=(List.getD p.2.1 p.1.toNat dEE);let m:=(decide (g<=c.1));let f:=(i64.wrap (p.1+1),List.set p.2.1 p.1.toNat (gx h x.2.1 c.1,c.2),());(Ty.int i64).wf p.1/\D9m p.2.1/\True->I p->(decide l=true->k/\(sel (decide (c.1<h)) true m=true->L8 x.2.1 d->e->isC (fun(i:Int)=>if h<=i/\i<d then C1 x.1 (↑(List.idxOf i x.2.1):Int)else(0:Rat)) []/\false=true)/\(sel (decide (c.1<h)) true m=false->(h<=c.1/\c.1<g)/\k/\I f/\μ f<μ p))/\(decide l=false->List.length p.2.1<=100000/\∀(l':List EE),tE.sl.wf l'->l'.Perm p.2.1->List.Pairwise (fun(a b:Int×(Bool×List Int)×List Int)=>¬A0s b.1 a.1<h) l'->L8 x.2.1 d->e->isC (fun(i:Int)=>if h<=i/\i<d then C1 x.1 (↑(List.idxOf i x.2.1):Int)else(0:Rat)) l'/\true=true))
abbrev A4x:=List (Int×Bool)
def A4m (es:A4x):List Int:=es.map fun e=>e.1
theorem E2z (k:Int) (v:Bool) (es:A4x):(A4m es).Nodup->(A4m (B6o (.int .i64) k v es)).Nodup/\∀i,i∈A4m (B6o (.int .i64) k v es)↔i=k\/i∈A4m es:=by
 intro h;unfold A4m at*;rw[D0l];by_cases u:k∈es.map fun e=>e.1
 . rw[g1c u];exact⟨h,fun i=>⟨.inr,fun hh=>hh.elim (fun e=>e▸u) id⟩⟩
 . rw[g0u u];refine⟨g2q.2 ⟨h,by simp,fun a ha b hb a0=> ?_⟩,fun i=> ?_⟩
   . rw[g0x]at hb;exact u (hb▸a0▸ha)
   . rw[g1b,g0x];exact Or.comm
theorem E2q (k:Int):∀(es:A4x),(A4m es).Nodup->(A4m (D5s (.int .i64) k es)).Nodup/\∀i,i∈A4m (D5s (.int .i64) k es)↔i≠k/\i∈A4m es
 | [],h=>⟨h,fun i=>⟨fun hh=>(by cases hh),fun hh=>(by cases hh.2)⟩⟩
 |x::r,h=>by
  have hn:=g2n.1 (show(x.1::A4m r).Nodup from h);have e:D5s (.int .i64) k (x::r)=if k=x.1 then r else x::D5s (.int .i64) k r:=by
   rw[D5s,B0n];by_cases u:k=x.1
   . rw[g1c u,g0z u];rfl
   . rw[g0u u,g1e u];rfl
  rw[e];by_cases u:k=x.1
  . rw[g1c u];refine⟨hn.2,fun i=>⟨fun hi=>⟨fun e=>hn.1 (by rw[<-u, <-e];exact hi),g0n _ hi⟩,fun hi=> ?_⟩⟩;exact(g0s.1 (show i∈x.1::A4m r from hi.2)).resolve_left fun e=>hi.1 (by rw[e,u])
  . rw[g0u u];obtain⟨g1,g2⟩:=E2q k r hn.2;refine⟨g2n.2 ⟨fun hm=>hn.1 ((g2 _).1 hm).2,g1⟩,fun i=> ?_⟩;constructor
    . intro hi;rcases g0s.1 (show i∈x.1::A4m (D5s (.int .i64) k r)from hi)with rfl|hi
      . exact⟨fun e=>u e.symm,g1j⟩
      . exact⟨((g2 i).1 hi).1,g0n _ ((g2 i).1 hi).2⟩
    . rintro⟨h1,h2⟩;rcases g0s.1 (show i∈x.1::A4m r from h2)with rfl|h2
      . exact g1j
      . exact g0n _ ((g2 i).2 ⟨h1,h2⟩)
def A7v (rows:List (List Ent)) (i j:Nat):Rat:=C1 (rows.getD i []) (j:Int)
def H1g (n k:Nat) (p:Nat->Nat) (R:Nat->Nat->Rat) (j:Nat) (es:A4x):Prop:=(A4m es).Nodup/\∀i:Int,i∈A4m es↔0<=i/\i<(n:Int)/\(∀a,a<k->i.toNat≠p a)/\R i.toNat j≠0
structure EI (n k:Nat) (S:Nat->Nat) (A:Nat->Nat->Rat) (rest P Q place:List Int) (rows lower:List (List Ent)) (cols:List A4x):Prop where
 elim:F0k n k A (ix P) (ix Q) (A7v rows) (A7v lower)
 lP:P.length=n
 lQ:Q.length=n
 lpl:place.length=n
 lrows:rows.length=n
 llow:lower.length=n
 lcols:cols.length=n
 P0:∀a,a<k->P.getD a 0=(ix P a:Int)
 Q0:∀a,a<k->Q.getD a 0=(ix Q a:Int)
 pl:∀a,a<k->place.getD (ix Q a) 0=(a:Int)
 rnd:rest.Nodup
 rmem:∀c:Int,c∈rest↔0<=c/\c<(n:Int)/\∀a,a<k->c.toNat≠ix Q a
 can:∀i,i<n->C4u (rows.getD i [])/\(∀e∈rows.getD i [],0<=e.1/\e.1<(n:Int))/\∀j,qs (S k) (C1 (rows.getD i []) j)
 lcan:∀i,i<n->C4u (lower.getD i [])/\(∀e∈lower.getD i [],0<=e.1/\e.1<(k:Int))
 lq:∀i,i<n->∀j,qs (S k) (C1 (lower.getD i []) j)
 fin:∀a,a<k->∀j,qs (S a) (C1 (rows.getD (ix P a) []) j)
 col:∀j:Int,j∈rest->H1g n k (ix P) (A7v rows) j.toNat (cols.getD j.toNat [])
theorem Z9 {P:List Int} {k m:Nat} {v:Int} (h:m≠k):ix (P.set k v) m=ix P m:=by
 unfold ix;rw[g0g,g3a (Ne.symm h), <-g0g]
theorem C3 {α:Type} {l:List α} {d v:α} {k m:Nat} (h:m≠k):(l.set k v).getD m d=l.getD m d:=by
 rw[g0g,g3a (Ne.symm h), <-g0g]
theorem A4 {α:Type} {l:List α} {d v:α} {k:Nat} (h:k<l.length):(l.set k v).getD k d=v:=by
 rw[g0g,g2w h];rfl
theorem B8y {P:List Int} {k:Nat} {v:Int} (h:k<P.length):ix (P.set k v) k=v.toNat:=by
 unfold ix;rw[A4 h]
variable {n k:Nat} {S:Nat->Nat} {A:Nat->Nat->Rat} {rest P Q place:List Int} {rows lower:List (List Ent)} {cols:List A4x}
def E2a (k:Nat) (p:Nat->Nat) (R:Nat->Nat->Rat) (r c i:Nat):Rat:=if i=r\/∃a,a<k/\i=p a then 0 else R i c/R r c
theorem G5d {p:Nat->Nat} {R:Nat->Nat->Rat} {r c:Nat} :E2a k p R r c r=0:=g1c (.inl rfl)
theorem G5w {p:Nat->Nat} {R:Nat->Nat->Rat} {r c a:Nat} (h:a<k):E2a k p R r c (p a)=0:=g1c (.inr ⟨a,h,rfl⟩)
theorem D9y {p:Nat->Nat} {R:Nat->Nat->Rat} {r c i:Nat} (h1:i≠r) (u:∀a,a<k->i≠p a):E2a k p R r c i=R i c/R r c:=g0u fun hh=>hh.elim h1 fun⟨a,ha,e⟩=>u a ha e
theorem EI.step (h:EI n k S A rest P Q place rows lower cols) {r c:Int} (hc:c∈rest) (hr:r∈A4m (cols.getD c.toNat [])) {a3:List Int} {u a1:List (List Ent)} {a4:List A4x}
 (r1:a3.Nodup) (r2:∀x,x∈a3↔x∈rest/\x≠c) (l1:u.length=n) (l2:a1.length=n) (l3:a4.length=n)
 (w1:∀i,i<n->C4u (u.getD i [])/\(∀e∈u.getD i [],0<=e.1/\e.1<(n:Int))/\(∀j,qs (S (k+1)) (C1 (u.getD i []) j))/\∀j,C1 (u.getD i []) j=C1 (rows.getD i []) j-E2a k (ix P) (A7v rows) r.toNat c.toNat i*C1 (rows.getD r.toNat []) j)
 (w2:∀i,i<n->a1.getD i []=if E2a k (ix P) (A7v rows) r.toNat c.toNat i=0 then lower.getD i []else lower.getD i []++ [((k:Int),rc (E2a k (ix P) (A7v rows) r.toNat c.toNat i))])
 (a8:S k<=S (k+1)) (w4:∀i,i<n->qs (S (k+1)) (E2a k (ix P) (A7v rows) r.toNat c.toNat i))
 (w3:∀j:Int,j∈a3->H1g n (k+1) (ix (P.set k r)) (A7v u) j.toNat (a4.getD j.toNat [])):
 EI n (k+1) S A a3 (P.set k r) (Q.set k c) (place.set c.toNat k) u a1 a4:=by
 obtain⟨c0,c1,c2⟩:=(h.rmem c).1 hc;obtain⟨a9,hk⟩:=h.col c hc;obtain⟨r0,r3,r4,r5⟩:=(hk r).1 hr;have a2:k<n:=by
  rcases g2i k n with hh|hh
  . exact hh
  . obtain⟨a,ha,e⟩:=A4v (n:=n) (q:=ix Q) (fun a ha=>h.elim.qlt a (by omega)) (fun a b ha hb=>h.elim.qinj a b (by omega) (by omega)) (show c.toNat<n by omega);exact absurd e.symm (c2 a (by omega))
 have nk:∀m,m<k->m≠k:=fun m hm=>g3r hm
 have a5:∀i,i<n->∀m:Nat,A7v a1 i m=A7v lower i m+if m=k then E2a k (ix P) (A7v rows) r.toNat c.toNat i else 0:=fun i hi m=>by
  show C1 (a1.getD i []) (m:Int)=C1 (lower.getD i []) (m:Int)+ _;rw[w2 i hi];by_cases hf:E2a k (ix P) (A7v rows) r.toNat c.toNat i=0
  . rw[g1c hf,hf];split<;>rw[g1p]
  . rw[g0u hf,B5h];congr 1;by_cases hm:m=k
    . subst hm;rw[g1c rfl,g1c rfl]
    . rw[g0u hm,g0u (by omega)]
 have a6:∀i,i<n->A7v lower i k=0:=fun i hi=>E4 fun e he a7=>by
  have:=(h.lcan i hi).2 e he;omega
 refine⟨h.elim.step (r:=r.toNat) (c:=c.toNat) (fac:=E2a k (ix P) (A7v rows) r.toNat c.toNat) a2 (by omega) (by omega) r4 c2 r5 (fun m hm=>Z9 (nk m hm)) (B8y (by rw[h.lP];exact a2)) (fun m hm=>Z9 (nk m hm)) (B8y (by rw[h.lQ];exact a2)) (fun i _ h1 h2=>D9y h1 h2) G5d (fun a ha=>G5w ha) (fun i j hi _=>(w1 i hi).2.2.2 j) (fun i m hi hm=> ?_) (fun i hi=> ?_), ?_, ?_, ?_,l1,l2,l3,fun a ha=> ?_,fun a ha=> ?_,fun a ha=> ?_,r1,fun x=> ?_,fun i hi=>⟨(w1 i hi).1,(w1 i hi).2.1,(w1 i hi).2.2.1⟩,fun i hi=> ?_,fun i hi j=> ?_,fun a ha j=> ?_,w3⟩
 . rw[a5 i hi,g0u (nk m hm),g1p]
 . rw[a5 i hi,g1c rfl,a6 i hi,g3o]
 . rw[g0j];exact h.lP
 . rw[g0j];exact h.lQ
 . rw[g0j];exact h.lpl
 . by_cases a0:a=k
   . subst a0;rw[A4 (by rw[h.lP];exact a2),B8y (by rw[h.lP];exact a2)];omega
   . rw[C3 a0,Z9 a0];exact h.P0 a (by omega)
 . by_cases a0:a=k
   . subst a0;rw[A4 (by rw[h.lQ];exact a2),B8y (by rw[h.lQ];exact a2)];omega
   . rw[C3 a0,Z9 a0];exact h.Q0 a (by omega)
 . by_cases a0:a=k
   . subst a0;rw[B8y (by rw[h.lQ];exact a2),A4 (by rw[h.lpl];omega)]
   . rw[Z9 a0,C3 (fun e=>c2 a (by omega) e.symm)];exact h.pl a (by omega)
 . rw[r2,h.rmem];constructor
   . rintro⟨⟨x0,x1,x2⟩,x3⟩;refine⟨x0,x1,fun a ha=> ?_⟩;by_cases a0:a=k
     . subst a0;rw[B8y (by rw[h.lQ];exact a2)];omega
     . rw[Z9 a0];exact x2 a (by omega)
   . rintro⟨x0,x1,x2⟩;refine⟨⟨x0,x1,fun a ha=>by have:=x2 a (by omega);rwa[Z9 (nk a ha)]at this⟩,fun e=> ?_⟩;have:=x2 k (g1s _);rw[B8y (by rw[h.lQ];exact a2),e]at this;exact this rfl
 . rw[w2 i hi];obtain⟨g1,g2⟩:=h.lcan i hi;split
   . exact⟨g1,fun e he=>by have:=g2 e he;omega⟩
   . rename_i hf;refine⟨D1i g1 hf fun e he=>(g2 e he).2,fun e he=> ?_⟩;rcases g1b.1 he with he|he
     . have:=g2 e he;omega
     . rw[g0x]at he;subst he;simp only;omega
 . rw[w2 i hi];have hq:=G7 (h.lq i hi j) a8;split
   . exact hq
   . rw[B5h];by_cases hj:(k:Int)=j
     . rw[g1c hj,E4 fun e he a7=>by have:=(h.lcan i hi).2 e he;omega,g3o];exact w4 i hi
     . rw[g0u hj,g1p];exact hq
 . have he:∀i,i<n->E2a k (ix P) (A7v rows) r.toNat c.toNat i=0->C1 (u.getD i []) j=C1 (rows.getD i []) j:=fun i hi h0=>by
    rw[(w1 i hi).2.2.2 j,h0,g2y,g2z,g6a,g1p]
   by_cases a0:a=k
   . subst a0;rw[B8y (by rw[h.lP];exact a2),he _ (by omega) G5d];exact(h.can r.toNat (by omega)).2.2 j
   . rw[Z9 a0,he _ (h.elim.plt a (by omega)) (G5w (by omega))];exact h.fin a (by omega) j
theorem EI.stuck (h:EI n k S A rest P Q place rows lower cols) {c:Int} (u:c∈rest) (he:cols.getD c.toNat []= []):¬nonsing n A:=by
 obtain⟨c0,c1,c2⟩:=(h.rmem c).1 u;obtain⟨_,hk⟩:=h.col c u;refine h.elim.stuck (c:=c.toNat) (by omega) c2 fun i hi ha=>g0v fun hz=> ?_
 have:=(hk (i:Int)).2 ⟨g0d _,by omega,ha,hz⟩;rw[he]at this;cases this
variable {n:Nat} {S:Nat->Nat} {A:Nat->Nat->Rat} {rest P Q place:List Int} {rows lower:List (List Ent)} {cols:List A4x}
theorem F5z {P:List Int} (hl:P.length=n) (h0:∀a,a<n->P.getD a 0=(ix P a:Int)) (a1:∀a,a<n->ix P a<n) (hi:∀a b,a<n->b<n->ix P a=ix P b->a=b):L8 P (n:Int):=by
 have hg:∀a (u:a<P.length),P[a]=(ix P a:Int):=fun a u=>by
  rw[<-h0 a (by omega),g0g,g0l u];rfl
 refine⟨by rw[hl],fun i hm=> ?_,g3x.2 fun i j a0 hj a2 e=> ?_⟩
 . obtain⟨a,u,rfl⟩:=g3s.1 hm;have:=a1 a (by omega);rw[hg a u];omega
 . rw[hg i a0,hg j hj]at e;have:=hi i j (by omega) (by omega) (by omega);omega
theorem EI.places (h:EI n n S A rest P Q place rows lower cols):L8 place (n:Int)/\∀b,b<n->List.idxOf (b:Int) place=ix Q b:=by
 have u:∀j,j<n->∃b,b<n/\ix Q b=j/\place.getD j 0=(b:Int):=fun j hj=>by
  obtain⟨b,hb,e⟩:=A4v h.elim.qlt h.elim.qinj hj;exact⟨b,hb,e,by rw[<-e];exact h.pl b hb⟩
 have hg:∀j (hj:j<place.length),place[j]=place.getD j 0:=fun j hj=>by
  rw[g0g,g0l hj];rfl
 refine⟨F5z h.lpl (fun j hj=> ?_) (fun j hj=> ?_) (fun i j hi hj e=> ?_),fun b hb=> ?_⟩
 . obtain⟨b,hb,_,e⟩:=u j hj;unfold ix;rw[e];omega
 . obtain⟨b,hb,_,e⟩:=u j hj;unfold ix;rw[e];omega
 . obtain⟨b,hb,e1,e2⟩:=u i hi;obtain⟨b',a1,e3,e4⟩:=u j hj;unfold ix at e;rw[e2,e4]at e;have:b=b':=by omega
   rw[<-e1, <-e3,this]
 . have hm:(b:Int)∈place:=by
    have h1:=h.pl b hb;have a0:ix Q b<place.length:=by rw[h.lpl];exact h.elim.qlt b hb
    rw[<-h1, <-hg _ a0];exact g6m a0
   have h1:=g7q hm;have h2:place[List.idxOf (b:Int) place]=(b:Int):=h0l h1;obtain⟨b',a1,e1,e2⟩:=u (List.idxOf (b:Int) place) (by rw[<-h.lpl];exact h1);rw[hg _ h1,e2]at h2;have:b'=b:=by omega
   rw[<-e1,this]
theorem EI.done (h:EI n n S A rest P Q place rows lower cols) (hn:n<=16384) {L U:List (List Ent)} (lL:L.length=n) (lU:U.length=n)
 (hL:∀a,a<n->L.getD a []=lower.getD (ix P a) []++ [((a:Int),rc 1)])
 (hU:∀a,a<n->isC (fun i=>if 0<=i/\i<(n:Int)then C1 (rows.getD (ix P a) []) ((List.idxOf i place:Nat):Int)else 0) (U.getD a [])):
 B4e (P,Q,((n:Int),(n:Int),L),((n:Int),(n:Int),U)) (n:Int)/\∀i j,i<n->j<n->luM (P,Q,((n:Int),(n:Int),L),((n:Int),(n:Int),U)) n i j=A (ix P i) (ix Q j):=by
 obtain⟨_,a2⟩:=h.places;have a0:∀a m,a<n->el ((n:Int),(n:Int),L) a m=A7v lower (ix P a) m+if m=a then 1 else 0:=fun a m ha=>by
  show C1 (L.getD a []) (m:Int)=C1 (lower.getD (ix P a) []) (m:Int)+ _;rw[hL a ha,B5h];congr 1;by_cases hm:m=a
  . rw[g1c hm,g1c (by omega)]
  . rw[g0u hm,g0u (by omega)]
 have a1:∀a b,a<n->b<n->el ((n:Int),(n:Int),U) a b=A7v rows (ix P a) (ix Q b):=fun a b ha hb=>by
  show C1 (U.getD a []) (b:Int)=C1 (rows.getD (ix P a) []) _;rw[(hU a ha).2, <-a2 b hb];exact g1c ⟨g0d _,by omega⟩
 have pl:=h.elim.plt;have vL:∀a,a<n->L9 (L.getD a []) (n:Int):=fun a ha=>by
  rw[hL a ha];obtain⟨g1,g2⟩:=h.lcan _ (pl a ha);have a3:∀e∈lower.getD (ix P a) [],e.1<(a:Int):=fun e u=>by
   refine g0v fun a4=>(g1.2 e u).1 ?_
   have h0:=g2 e u;have:=h.elim.low a e.1.toNat ha (by omega) (by omega);unfold A7v at this;rw[show((e.1.toNat:Nat):Int)=e.1 from by omega,S4 g1.1 u]at this;exact this
  have hc:=D1i (q:=1) g1 (by decide) a3;refine⟨hc.1,fun e u=>⟨?_, ?_,(hc.2 e u).1⟩⟩
  . rcases g1b.1 u with u|u
    . exact(g2 e u).1
    . rw[g0x]at u;subst u;exact g0d _
  . rcases g1b.1 u with u|u
    . exact(g2 e u).2
    . rw[g0x]at u;subst u;simp only;omega
 have vU:∀a,a<n->L9 (U.getD a []) (n:Int):=fun a ha=>by
  obtain⟨g1,g2⟩:=hU a ha;have hr:∀e∈U.getD a [],0<=e.1/\e.1<(n:Int):=fun e u=>g0v fun hh=>(g1.2 e u).1 (by rw[<-S4 g1.1 u,g2];exact g0u hh)
  exact⟨g1.1,fun e u=>⟨(hr e u).1,(hr e u).2,(g1.2 e u).1⟩⟩
 refine⟨⟨F5z h.lP h.P0 h.elim.plt h.elim.pinj,F5z h.lQ h.Q0 h.elim.qlt h.elim.qinj,⟨rfl,rfl,g0d _,by show(n:Int)<=16384;omega,g0d _,by show(n:Int)<=16384;omega,by show(L.length:Int)=(n:Int);omega,fun v hv=> ?_⟩,⟨rfl,rfl,g0d _,by show(n:Int)<=16384;omega,g0d _,by show(n:Int)<=16384;omega,by show(U.length:Int)=(n:Int);omega,fun v hv=> ?_⟩,fun i j hi hj=> ?_⟩,fun i j hi hj=> ?_⟩
 . obtain⟨a,ha,rfl⟩:=N7 [] hv;exact vL a (by rw[<-lL];exact ha)
 . obtain⟨a,ha,rfl⟩:=N7 [] hv;exact vU a (by rw[<-lU];exact ha)
 . have hi:i<n:=by omega
   have hj:j<n:=by omega
   refine⟨fun a5=> ?_, ?_,fun a6=> ?_, ?_⟩
   . show el ((n:Int),(n:Int),L) i j=0;rw[a0 i j hi,h.elim.low i j hi hj (by omega),g0u (by omega),g1p]
   . show el ((n:Int),(n:Int),L) i i=1;rw[a0 i i hi,h.elim.low i i hi hi (g0w _),g1c rfl,g3o]
   . show el ((n:Int),(n:Int),U) i j=0;rw[a1 i j hi hj];exact h.elim.zero j (ix P i) hj (pl i hi) fun a ha e=>by have:=h.elim.pinj i a hi (by omega) e;omega
   . show el ((n:Int),(n:Int),U) i i≠0;rw[a1 i i hi hi];exact h.elim.piv i hi
 . rw[h.elim.prod hi hj];unfold luM;refine B6 fun m hm=> ?_
   show el ((n:Int),(n:Int),L) i m*el ((n:Int),(n:Int),U) m j= _;rw[a0 i m hi,a1 m j hm hj]
theorem EI.sizes (h:EI n n S A rest P Q place rows lower cols) (h1:∀a,1<=S a) {L U:List (List Ent)}
 (hL:∀a,a<n->L.getD a []=lower.getD (ix P a) []++ [((a:Int),rc 1)])
 (hU:∀a,a<n->isC (fun i=>if 0<=i/\i<(n:Int)then C1 (rows.getD (ix P a) []) ((List.idxOf i place:Nat):Int)else 0) (U.getD a [])) {R C:Int} {i:Nat} (hi:i<n) (j:Nat):qs (S n) (el (R,C,L) i j)/\qs (S i) (el (R,C,U) i j):=by
 constructor
 . show qs (S n) (C1 (L.getD i []) (j:Int));rw[hL i hi,B5h];by_cases hj:i=j
   . subst hj;have u:C1 (lower.getD (ix P i) []) (i:Int)=0:=h.elim.low i i hi hi (g0w _);rw[g1c rfl,u,g3o];exact H0z (h1 n)
   . rw[g0u (by omega),g1p];exact h.lq _ (h.elim.plt i hi) _
 . show qs (S i) (C1 (U.getD i []) (j:Int));rw[(hU i hi).2];dsimp only;split
   . exact h.fin i hi _
   . exact A3g (h1 i)
theorem EI.cans (h:EI n n S A rest P Q place rows lower cols) {L U:List (List Ent)} (lL:L.length=n) (lU:U.length=n)
 (hL:∀a,a<n->L.getD a []=lower.getD (ix P a) []++ [((a:Int),rc 1)])
 (hU:∀a,a<n->isC (fun i=>if 0<=i/\i<(n:Int)then C1 (rows.getD (ix P a) []) ((List.idxOf i place:Nat):Int)else 0) (U.getD a [])):(∀v∈L,C4u v)/\∀v∈U,C4u v:=by
 constructor
 . intro v hv;obtain⟨a,u,rfl⟩:=N7 [] hv;have u:a<n:=by rw[<-lL];exact u
   rw[hL a u];obtain⟨g1,g2⟩:=h.lcan _ (h.elim.plt a u);refine D1i g1 (by decide) fun e he=>g0v fun a0=>(g1.2 e he).1 ?_
   have h0:=g2 e he;have:=h.elim.low a e.1.toNat u (by omega) (by omega);unfold A7v at this;rw[show((e.1.toNat:Nat):Int)=e.1 from by omega,S4 g1.1 he]at this;exact this
 . intro v hv;obtain⟨a,u,rfl⟩:=N7 [] hv;exact(hU a (by rw[<-lU];exact u)).1
variable {n:Nat} {S:Nat->Nat} {rest P Q place:List Int} {rows lower:List (List Ent)} {cols:List A4x}
def G1a (t:Int) (F:Nat->Int->Rat) (v:List Ent) (j:Int) (es:A4x):Prop:=(A4m es).Nodup/\∀i:Int,i∈A4m es↔(0<=i/\i<t/\F i.toNat j≠0)\/(i=t/\∃e∈v,e.1=j)
theorem G2n {t j:Int} {F:Nat->Int->Rat} {v:List Ent} {es:A4x} {b:Bool} {e:Ent} (h:G1a t F v j es) (he:e.1=j):G1a t F (v++ [e]) j (B6o (.int .i64) t b es):=by
 obtain⟨g1,g2⟩:=E2z t b es h.1;refine⟨g1,fun i=> ?_⟩;rw[g2,h.2];constructor
 . rintro(hh|hh| ⟨hh,x,hx,u⟩)
   . exact .inr ⟨hh,e,by simp,he⟩
   . exact .inl hh
   . exact .inr ⟨hh,x,g2f _ hx,u⟩
 . rintro(hh| ⟨hh,x,hx,u⟩)
   . exact .inr (.inl hh)
   . exact .inl hh
theorem F8u {t j:Int} {F:Nat->Int->Rat} {v:List Ent} {es:A4x} {e:Ent} (h:G1a t F v j es) (u:e.1≠j):G1a t F (v++ [e]) j es:=by
 refine⟨h.1,fun i=> ?_⟩;rw[h.2];refine h2l g8w (and_congr g8w ⟨fun⟨x,hx,hxj⟩=>⟨x,g2f _ hx,hxj⟩,fun⟨x,hx,hxj⟩=> ?_⟩);rcases g1b.1 hx with hx|hx
 . exact⟨x,hx,hxj⟩
 . rw[g0x]at hx;subst hx;exact absurd hxj u
theorem F6h {t j:Int} {F:Nat->Int->Rat} {v:List Ent} {es:A4x} {m:Int} (h:G1a t F v j es) (ht:0<=t) (hv:L9 v m) (hF:F t.toNat=C1 v):G1a (t+1) F [] j es:=by
 refine⟨h.1,fun i=> ?_⟩;rw[h.2];constructor
 . rintro(⟨h0,h1,u⟩ | ⟨rfl,e,he,rfl⟩)
   . exact .inl ⟨h0,by omega,u⟩
   . refine .inl ⟨ht,by omega, ?_⟩;rw[hF,S4 hv.1 he];exact(hv.2 e he).2.2
 . rintro(⟨h0,h1,u⟩ | ⟨_,e,he,_⟩)
   . by_cases hi:i=t
     . subst hi;rw[hF]at u;exact .inr ⟨rfl,C7h u⟩
     . exact .inl ⟨h0,by omega,u⟩
   . cases he
theorem EI.start {F:Nat->Int->Rat} {A:Nat->Nat->Rat} (hA:∀i j,i<n->j<n->A i j=F i (j:Int)) (lr:rest.length=n) (hr:∀i,i<n->rest.getD i 0=(i:Int))
 (lP:P.length=n) (lQ:Q.length=n) (lpl:place.length=n) (l1:rows.length=n) (l2:lower.length=n) (l3:cols.length=n)
 (w1:∀i,i<n->isC (F i) (rows.getD i [])) (w0:∀i (j:Int),i<n->F i j≠0->0<=j/\j<(n:Int)) (ws:∀i j,i<n->qs (S 0) (F i j)) (w2:∀i,i<n->lower.getD i []= [])
 (w3:∀j:Int,0<=j->j<(n:Int)->G1a (n:Int) F [] j (cols.getD j.toNat [])):EI n 0 S A rest P Q place rows lower cols:=by
 have u:∀a,¬a<0:=fun a=>g5r a
 have hg:∀i (hi:i<rest.length),rest[i]=(i:Int):=fun i hi=>by
  rw[<-hr i (by omega),g0g,g0l hi];rfl
 refine⟨⟨g1n _,fun a h=>absurd h (u a),fun a h=>absurd h (u a),fun a _ h=>absurd h (u a),fun a _ h=>absurd h (u a),fun i j hi hj=> ?_,fun a _ h=>absurd h (u a),fun a h=>absurd h (u a),fun a _ h=>absurd h (u a)⟩,lP,lQ,lpl,l1,l2,l3,fun a h=>absurd h (u a),fun a h=>absurd h (u a),fun a h=>absurd h (u a),g3x.2 fun i j hi hj a2 e=> ?_,fun c=>⟨fun hc=> ?_,fun hc=> ?_⟩,fun i hi=> ?_,fun i hi=> ?_,fun i hi j=> ?_,fun a ha=>absurd ha (u a),fun j hj=> ?_⟩
 . rw[E2,g3o,hA i j hi hj];exact((w1 i hi).2 _).symm
 . rw[hg i hi,hg j hj]at e;omega
 . obtain⟨i,hi,rfl⟩:=g3s.1 hc;rw[hg i hi];exact⟨g0d _,by omega,fun a ha=>absurd ha (u a)⟩
 . obtain⟨h0,h1,_⟩:=hc;have a1:c.toNat<rest.length:=by omega
   have:=hg _ a1;rw[show((c.toNat:Nat):Int)=c from by omega]at this;rw[<-this];exact g6m a1
 . obtain⟨g1,g2⟩:=w1 i hi;exact⟨g1,fun e he=>w0 i e.1 hi (by rw[<-g2,S4 g1.1 he];exact(g1.2 e he).1),fun j=>by rw[g2];exact ws i j hi⟩
 . rw[w2 i hi];exact⟨E9s,fun e he=>by cases he⟩
 . rw[w2 i hi,B6w];exact A3g (F6l (ws i j hi))
 . have a0:0<=j/\j<(n:Int):=by
    obtain⟨i,hi,rfl⟩:=g3s.1 hj;rw[hg i hi];omega
   obtain⟨g1,g2⟩:=w3 j a0.1 a0.2;refine⟨g1,fun i=> ?_⟩;rw[g2];have hR:∀i:Int,0<=i->i<(n:Int)->A7v rows i.toNat j.toNat=F i.toNat j:=fun i h0 h1=>by
    show C1 (rows.getD i.toNat []) ((j.toNat:Nat):Int)= _;rw[(w1 i.toNat (by omega)).2,show((j.toNat:Nat):Int)=j from by omega]
   constructor
   . rintro(⟨h0,h1,h2⟩ | ⟨_,e,he,_⟩)
     . exact⟨h0,h1,fun a ha=>absurd ha (u a),by rw[hR i h0 h1];exact h2⟩
     . cases he
   . rintro⟨h0,h1,_,h2⟩;exact .inl ⟨h0,h1,by rw[hR i h0 h1]at h2;exact h2⟩
def G5f (Bs:Int->Int->Prop) (i:Int) (vs:List Ent) (j:Int) (es:A4x):Prop:=(A4m es).Nodup/\∀x:Int,x∈A4m es↔Bs j x/\¬(x=i/\∃e∈vs,e.1=j)
def G6d (Bs:Int->Int->Prop) (i:Int) (vs:List Ent) (j:Int) (es:A4x):Prop:=(A4m es).Nodup/\∀x:Int,x∈A4m es↔Bs j x\/(x=i/\∃e∈vs,e.1=j)
variable {Bs:Int->Int->Prop} {i j:Int} {vs:List Ent} {es:A4x} {e:Ent}
theorem F0f (h:(A4m es).Nodup/\∀x,x∈A4m es↔Bs j x):G5f Bs i [] j es:=⟨h.1,fun x=>by rw[h.2];exact⟨fun hh=>⟨hh,fun⟨_,e,he,_⟩=>by cases he⟩,fun hh=>hh.1⟩⟩
theorem G3g (h:(A4m es).Nodup/\∀x,x∈A4m es↔Bs j x):G6d Bs i [] j es:=⟨h.1,fun x=>by rw[h.2];exact⟨.inl,fun hh=>hh.elim id fun⟨_,e,he,_⟩=>by cases he⟩⟩
theorem B6r (u:e.1=j):∃y∈vs++ [e],y.1=j:=⟨e,by simp,u⟩
theorem D6e (he:e.1≠j):(∃y∈vs++ [e],y.1=j)↔∃y∈vs,y.1=j:=
 ⟨fun⟨y,u,hyj⟩=>by
  rcases g1b.1 u with u|u
  . exact⟨y,u,hyj⟩
  . rw[g0x]at u;subst u;exact absurd hyj he,fun⟨y,u,hyj⟩=>⟨y,g2f _ u,hyj⟩⟩
theorem G4h (h:G5f Bs i vs j es) (he:e.1=j):G5f Bs i (vs++ [e]) j (D5s (.int .i64) i es):=by
 obtain⟨g1,g2⟩:=E2q i es h.1;refine⟨g1,fun x=> ?_⟩;rw[g2,h.2];exact⟨fun hh=>⟨hh.2.1,fun u=>hh.1 u.1⟩,fun hh=>⟨fun hx=>hh.2 ⟨hx,B6r he⟩,hh.1,fun u=>hh.2 ⟨u.1,B6r he⟩⟩⟩
theorem G0r (h:G5f Bs i vs j es) (u:e.1≠j):G5f Bs i (vs++ [e]) j es:=⟨h.1,fun x=>by rw[h.2,D6e u]⟩
theorem G1w {b:Bool} (h:G6d Bs i vs j es) (he:e.1=j):G6d Bs i (vs++ [e]) j (B6o (.int .i64) i b es):=by
 obtain⟨g1,g2⟩:=E2z i b es h.1;refine⟨g1,fun x=> ?_⟩;rw[g2,h.2];exact⟨fun hh=>hh.elim (fun hx=> .inr ⟨hx,B6r he⟩) fun hh=>hh.elim .inl fun u=> .inr ⟨u.1,B6r he⟩,fun hh=>hh.elim (fun hh=> .inr (.inl hh)) fun u=> .inl u.1⟩
theorem F6o (h:G6d Bs i vs j es) (u:e.1≠j):G6d Bs i (vs++ [e]) j es:=⟨h.1,fun x=>by rw[h.2,D6e u]⟩
theorem G3v {O N:Int->Prop} {pv nw:List Ent} {a0:A4x} (hA:G6d (fun _ x=>Bs j x/\¬(x=i/\∃e∈pv,e.1=j)) i nw j a0)
 (hO:Bs j i↔O j) (a1:(∃e∈pv,e.1=j)\/(O j↔N j)) (hN:(∃e∈nw,e.1=j)↔N j):(A4m a0).Nodup/\∀x,x∈A4m a0↔(x≠i/\Bs j x)\/(x=i/\N j):=by
 refine⟨hA.1,fun x=> ?_⟩;rw[hA.2,hN];by_cases hx:x=i
 . subst hx;rcases a1 with hp|hp
   . exact⟨fun hh=>hh.elim (fun u=>absurd ⟨rfl,hp⟩ u.2) .inr,fun hh=>hh.elim (fun u=>absurd rfl u.1) .inr⟩
   . exact⟨fun hh=>hh.elim (fun u=> .inr ⟨rfl,hp.1 (hO.1 u.1)⟩) .inr,fun hh=>hh.elim (fun u=>absurd rfl u.1) .inr⟩
 . exact⟨fun hh=>hh.elim (fun u=> .inl ⟨hx,u.1⟩) fun u=>absurd u.1 hx,fun hh=>hh.elim (fun u=> .inl ⟨u.2,fun h3=>hx h3.1⟩) fun u=>absurd u.1 hx⟩
theorem C8a {s:Nat} :∀ {a b:Nat},a<=b->sK s a<=sK s b
 |a,0,h=>by have:a=0:=by omega
            subst this;exact g0w _
 |a,b+1,h=>by
  by_cases u:a=b+1
  . subst u;exact g0w _
  . have:=C8a (s:=s) (a:=a) (b:=b) (by omega);simp only[sK];omega
theorem H5n {s:Nat} (k:Nat):s<=sK s k:=C8a (g1n k)
theorem G9h {s:Nat} {x f r c:Rat} (hx:qs s x) (hf:qs s f) (hr:qs s r) (u:qs s c):qs (4*s+1) (x-f/r*c):=by
 have h1:=D7i hx (D2y (F1j hf hr) u);rwa[show s+(s+s+s)+1=4*s+1 from by omega]at h1
def inC (cols:List A4x) (j x:Int):Prop:=x∈A4m (cols.getD j.toNat [])
structure CI (n k s:Nat) (rest P:List Int) (rows0 lower0:List (List Ent)) (r c:Int) (D:List Int) (rows lower:List (List Ent)) (cols:List A4x):Prop where
 lrows:rows.length=n
 llow:lower.length=n
 lcols:cols.length=n
 rd:∀i:Nat,i<n->(i:Int)∈D->C4u (rows.getD i [])/\(∀e∈rows.getD i [],0<=e.1/\e.1<(n:Int))/\(∀j,qs (4*s+1) (C1 (rows.getD i []) j))/\∀j,C1 (rows.getD i []) j=C1 (rows0.getD i []) j-E2a k (ix P) (A7v rows0) r.toNat c.toNat i*C1 (rows0.getD r.toNat []) j
 ru:∀i:Nat,i<n->(i:Int)∉D->rows.getD i []=rows0.getD i []
 lo:∀i:Nat,i<n->lower.getD i []=if(i:Int)∈D then lower0.getD i []++ [((k:Int),rc (E2a k (ix P) (A7v rows0) r.toNat c.toNat i))]else lower0.getD i []
 col:∀j:Int,j∈rest->(A4m (cols.getD j.toNat [])).Nodup/\∀x:Int,x∈A4m (cols.getD j.toNat [])↔x≠r/\0<=x/\x<(n:Int)/\(∀a,a<k->x.toNat≠ix P a)/\A7v rows x.toNat j.toNat≠0
variable {n k s:Nat} {S:Nat->Nat} {A:Nat->Nat->Rat} {rest P Q place:List Int} {rows lower rows1 lower1:List (List Ent)} {cols cols1 cols2:List A4x} {r c:Int}
theorem F6w {v:List Ent} (h:C4u v) (j:Int):(∃e∈v,e.1=j)↔C1 v j≠0:=
 ⟨fun⟨e,he,hj⟩=>by rw[<-hj,S4 h.1 he];exact(h.2 e he).1,C7h⟩
theorem EI.row (h:EI n k S A rest P Q place rows lower cols) (u:c∈rest) (hr:r∈A4m (cols.getD c.toNat [])):0<=r/\r<(n:Int)/\(∀a,a<k->r.toNat≠ix P a)/\A7v rows r.toNat c.toNat≠0:=((h.col c u).2 r).1 hr
theorem EI.crange (h:EI n k S A rest P Q place rows lower cols) (u:c∈rest):0<=c/\c<(n:Int):=⟨((h.rmem c).1 u).1,((h.rmem c).1 u).2.1⟩
theorem CI.init (h:EI n k S A rest P Q place rows lower cols) (hc:c∈rest) (hr:r∈A4m (cols.getD c.toNat [])) (l1:cols1.length=n)
 (u:∀j:Int,j∈rest->G5f (inC cols) r (rows.getD r.toNat []) j (cols1.getD j.toNat [])):CI n k s rest P rows lower r c [] rows lower cols1:=by
 obtain⟨r0,r1,r2,_⟩:=h.row hc hr;refine⟨h.lrows,h.llow,l1,fun i _ hh=>(by cases hh),fun i _ _=>rfl,fun i _=>(g0u (by simp)).symm,fun j hj=> ?_⟩;obtain⟨j0,j1⟩:=h.crange hj;obtain⟨g1,g2⟩:=u j hj;refine⟨g1,fun x=> ?_⟩;rw[g2];have hb:=(h.col j hj).2 x;unfold inC;rw[hb,F6w (h.can r.toNat (by omega)).1];constructor
 . rintro⟨⟨x0,x1,x2,x3⟩,h2⟩;refine⟨fun e=>h2 ⟨e, ?_⟩,x0,x1,x2,x3⟩;subst e;unfold A7v at x3;rwa[show((j.toNat:Nat):Int)=j from by omega]at x3
 . rintro⟨hx,x0,x1,x2,x3⟩;exact⟨⟨x0,x1,x2,x3⟩,fun h2=>hx h2.1⟩
theorem CI.next (h:EI n k S A rest P Q place rows lower cols) (hc:c∈rest) (hr:r∈A4m (cols.getD c.toNat [])) {D:List Int} (g:CI n k (S k) rest P rows lower r c D rows1 lower1 cols1) {i:Int}
 (i0:0<=i) (i1:i<(n:Int)) (aa:i≠r) (a6:∀a,a<k->i.toNat≠ix P a) (hD:i∉D) {nw:List Ent} {q:Rat}
 (hq:q=A7v rows i.toNat c.toNat/A7v rows r.toNat c.toNat)
 (a3:isC (fun j=>C1 (rows.getD i.toNat []) j-q*C1 (rows.getD r.toNat []) j) nw) (l2:cols2.length=n)
 (a8:∀j:Int,j∈rest->G6d (fun j x=>inC cols1 j x/\¬(x=i/\∃e∈rows.getD r.toNat [],e.1=j)) i nw j (cols2.getD j.toNat [])):
 CI n k (S k) rest P rows lower r c (D++ [i]) (rows1.set i.toNat nw) (lower1.set i.toNat (lower1.getD i.toNat []++ [((k:Int),rc q)])) cols2:=by
 obtain⟨r0,r1,r2,r3⟩:=h.row hc hr;obtain⟨c0,c1⟩:=h.crange hc;have a2:i.toNat<n:=by omega
 have a9:((i.toNat:Nat):Int)=i:=by omega
 have a5:E2a k (ix P) (A7v rows) r.toNat c.toNat i.toNat=q:=by rw[D9y (by omega) a6,hq]
 have u:∀x:Nat,(x:Int)∈D++ [i]↔(x:Int)∈D\/x=i.toNat:=fun x=>by
  rw[g1b,g0x];exact h2l g8w (by omega)
 have a4:∀j,C1 nw j=C1 (rows.getD i.toNat []) j-q*C1 (rows.getD r.toNat []) j:=a3.2;have ad:∀e∈nw,0<=e.1/\e.1<(n:Int):=fun e he=>g0v fun hh=>by
  refine(a3.1.2 e he).1 ?_;rw[<-S4 a3.1.1 he,a4,E4 (v:=rows.getD i.toNat []) fun y hy a7=>hh (by rw[<-a7];exact(h.can _ a2).2.1 y hy),E4 (v:=rows.getD r.toNat []) fun y hy a7=>hh (by rw[<-a7];exact(h.can r.toNat (by omega)).2.1 y hy),g4o,g2z,g6a,g1p]
 refine⟨by rw[g0j];exact g.lrows,by rw[g0j];exact g.llow,l2,fun x hx a0=> ?_,fun x hx a0=> ?_,fun x hx=> ?_,fun j hj=> ?_⟩
 . by_cases a1:x=i.toNat
   . subst a1;rw[A4 (by rw[g.lrows];exact a2),a5];refine⟨a3.1,ad,fun j=> ?_,a4⟩;rw[a4,hq];have:=G9h ((h.can _ a2).2.2 j) ((h.can _ a2).2.2 (c.toNat:Int)) ((h.can r.toNat (by omega)).2.2 (c.toNat:Int)) ((h.can r.toNat (by omega)).2.2 j);exact this
   . rw[C3 a1];exact g.rd x hx (((u x).1 a0).resolve_right a1)
 . have a1:x≠i.toNat:=fun e=>a0 ((u x).2 (.inr e))
   rw[C3 a1];exact g.ru x hx fun hh=>a0 ((u x).2 (.inl hh))
 . by_cases a1:x=i.toNat
   . subst a1;rw[A4 (by rw[g.llow];exact a2),g1c ((u _).2 (.inr rfl)),g.lo _ a2,g0u (by rw[a9];exact hD),a5]
   . rw[C3 a1,g.lo x hx];by_cases a0:(x:Int)∈D
     . rw[g1c a0,g1c ((u x).2 (.inl a0))]
     . rw[g0u a0,g0u fun hh=>a0 (((u x).1 hh).resolve_right a1)]
 . obtain⟨j0,j1⟩:=h.crange hj;obtain⟨gn,gk⟩:=g.col j hj;have ab:((j.toNat:Nat):Int)=j:=by omega
   have hO:inC cols1 j i↔C1 (rows.getD i.toNat []) j≠0:=by
    unfold inC;rw[gk];have e1:A7v rows1 i.toNat j.toNat=C1 (rows.getD i.toNat []) j:=by
     unfold A7v;rw[g.ru _ a2 (by rw[a9];exact hD),ab]
    rw[e1];exact⟨fun hh=>hh.2.2.2.2,fun hh=>⟨aa,i0,i1,a6,hh⟩⟩
   have ac:=G3v (Bs:=inC cols1) (O:=fun j=>C1 (rows.getD i.toNat []) j≠0) (N:=fun j=>C1 nw j≠0) (pv:=rows.getD r.toNat []) (nw:=nw) (a8 j hj) hO ?_ (F6w a3.1 j)
   . refine⟨ac.1,fun x=> ?_⟩;rw[ac.2];unfold inC;rw[gk];by_cases hx:x=i
     . subst hx;have:A7v (rows1.set x.toNat nw) x.toNat j.toNat=C1 nw j:=by
        unfold A7v;rw[A4 (by rw[g.lrows];exact a2),ab]
       rw[this];exact⟨fun hh=>hh.elim (fun h2=>absurd rfl h2.1) fun h2=>⟨aa,i0,i1,a6,h2.2⟩,fun hh=> .inr ⟨rfl,hh.2.2.2.2⟩⟩
     . constructor
       . rintro(⟨_,h1,x0,x1,x2,x3⟩ | ⟨h1,_⟩)
         . refine⟨h1,x0,x1,x2, ?_⟩;unfold A7v at x3⊢;rwa[C3 (by omega)]
         . exact absurd h1 hx
       . rintro⟨h1,x0,x1,x2,x3⟩;refine .inl ⟨hx,h1,x0,x1,x2, ?_⟩;unfold A7v at x3⊢;rwa[C3 (by omega)]at x3
   . by_cases hp:∃e∈rows.getD r.toNat [],e.1=j
     . exact .inl hp
     . refine .inr ?_;have h0:C1 (rows.getD r.toNat []) j=0:=g0v fun hh=>hp (C7h hh)
       show C1 _ j≠0↔C1 nw j≠0;rw[a4,h0,g4o,g2z,g6a,g1p]
theorem CI.done (h:EI n k S A rest P Q place rows lower cols) (hc:c∈rest) (hr:r∈A4m (cols.getD c.toNat [])) {D:List Int} (g:CI n k (S k) rest P rows lower r c D rows1 lower1 cols1)
 (hS:S (k+1)=4*S k+1) (hD:∀x:Int,x∈D↔x≠r/\0<=x/\x<(n:Int)/\(∀a,a<k->x.toNat≠ix P a)/\A7v rows x.toNat c.toNat≠0) {a0:List Int} (r1:a0.Nodup) (r2:∀x,x∈a0↔x∈rest/\x≠c):
 EI n (k+1) S A a0 (P.set k r) (Q.set k c) (place.set c.toNat k) rows1 lower1 cols1:=by
 obtain⟨p0,p1,p2,p3⟩:=h.row hc hr;have a2:k<P.length:=by
  rw[h.lP];refine Nat.lt_of_le_of_ne h.elim.kn fun a2=> ?_
  obtain⟨c0,c1,c2⟩:=(h.rmem c).1 hc;obtain⟨a,ha,e⟩:=A4v (n:=n) (q:=ix Q) (fun a ha=>h.elim.qlt a (by omega)) (fun a b ha hb=>h.elim.qinj a b (by omega) (by omega)) (show c.toNat<n by omega);exact absurd e.symm (c2 a (by omega))
 have a1:∀i:Nat,i<n->((i:Int)∈D↔E2a k (ix P) (A7v rows) r.toNat c.toNat i≠0):=fun i hi=>by
  rw[hD,g0i];constructor
  . rintro⟨x1,_,_,x2,x3⟩;rw[D9y (by omega) x2,g6r];exact fun hz=>(g9z.1 hz).elim x3 fun hz=>by
     have:=h0k _ p3;rw[hz,g4o]at this;exact absurd this (by decide)
  . intro hf;have a3:¬(i=r.toNat\/∃a,a<k/\i=ix P a):=fun hh=>hf (g1c hh)
    refine⟨fun e=>a3 (.inl (by omega)),by omega,by omega,fun a ha e=>a3 (.inr ⟨a,ha,e⟩),fun hz=>hf ?_⟩;unfold E2a;rw[g0u a3,hz,g6r,g2y]
 refine h.step hc hr r1 r2 g.lrows g.llow g.lcols (fun i hi=> ?_) (fun i hi=> ?_) (by omega) (fun i hi=> ?_) fun j hj=> ?_
 . rw[hS];by_cases u:(i:Int)∈D
   . exact g.rd i hi u
   . have hz:E2a k (ix P) (A7v rows) r.toNat c.toNat i=0:=g0v fun hh=>u ((a1 i hi).2 hh)
     rw[g.ru i hi u,hz];obtain⟨g1,g2,g3⟩:=h.can i hi;exact⟨g1,g2,fun j=>G7 (g3 j) (by omega),fun j=>by rw[g2y,g2z,g6a,g1p]⟩
 . rw[g.lo i hi];by_cases u:(i:Int)∈D
   . rw[g1c u,g0u ((a1 i hi).1 u)]
   . rw[g0u u,g1c (g0v fun hh=>u ((a1 i hi).2 hh))]
 . have hq:=(h.can i hi).2.2 (c.toNat:Int);rw[hS];unfold E2a;split
   . exact A3g (by have:=F6l hq;omega)
   . exact G7 (F1j hq ((h.can r.toNat (by omega)).2.2 (c.toNat:Int))) (by omega)
 . obtain⟨g1,g2⟩:=g.col j ((r2 j).1 hj).1;refine⟨g1,fun x=> ?_⟩;rw[g2];constructor
   . rintro⟨x1,x2,x3,x4,x5⟩;refine⟨x2,x3,fun a ha=> ?_,x5⟩;by_cases a4:a=k
     . subst a4;rw[B8y a2];omega
     . rw[Z9 a4];exact x4 a (by omega)
   . rintro⟨x2,x3,x4,x5⟩;refine⟨fun e=> ?_,x2,x3,fun a ha=> ?_,x5⟩
     . have:=x4 k (g1s _);rw[B8y a2,e]at this;exact this rfl
     . have:=x4 a (by omega);rwa[Z9 (g3r ha)]at this
theorem EI.two (h:EI n k S A rest P Q place rows lower cols) {i j:Nat} (hi:i<n) (hj:j<n) (a1:i≠j) (ha:∀a,a<k->i≠ix P a) (hb:∀a,a<k->j≠ix P a):k+2<=n:=by
 refine g0v fun hn=> ?_
 have a2:=h.elim.kn;obtain⟨a,b,h1,h2,h3⟩:=E5m n (fun a=>if a<k then ix P a else if a=k then i else j) fun a _=>by
  split
  . rename_i h1;exact h.elim.plt a h1
  . split<;>assumption
 by_cases u:a<k
 . rw[g1c u]at h3;by_cases a0:b<k
   . rw[g1c a0]at h3;have:=h.elim.pinj a b u a0 h3;omega
   . rw[g0u a0]at h3;split at h3
     . exact ha a u h3.symm
     . exact hb a u h3.symm
 . have a0:¬b<k:=by omega
   rw[g0u u,g0u a0]at h3;have:a=k:=by omega
   rw[g1c this,g0u (by omega)]at h3;exact a1 h3
theorem D0a {α:Type} (l:List α) (i:Nat) (d:α):l.set i (l.getD i d)=l:=by
 refine g9t (by rw[g0j]) fun j a0 u=> ?_
 rw[h1g];split
 . rename_i e;subst e;rw[G2 _ _ u]
 . rfl
theorem A3v {α:Type} {d:α} {l:List α} {t:Int} (u:0<=t) (t1:t<(l.length:Int)):l.take (t+1).toNat=l.take t.toNat++ [gx d l t]:=by
 rw[show(t+1).toNat=t.toNat+1 from by omega,g1z,J9 (d:=d) u t1];rfl
theorem C4n {l:List Int} {n:Nat} (h:l.Nodup) (hl:∀x∈l,0<=x/\x<(n:Int)):l.length<=n:=by
 refine g0v fun hn=> ?_
 have u:∀a,a<n+1->a<l.length:=fun a ha=>by omega
 obtain⟨a,b,h1,h2,h3⟩:=E5m n (fun a=>(l.getD a 0).toNat) fun a ha=>by
  have:=hl _ (B7 (d:=0) (u a ha));omega
 have ga:=hl _ (B7 (d:=0) (u a (by omega)));have gb:=hl _ (B7 (d:=0) (u b h2));have he:l.getD a 0=l.getD b 0:=by omega
 rw[G2 _ _ (u a (by omega)),G2 _ _ (u b h2)]at he;have:=(g5u h).1 he;omega
theorem G3k (es:A4x):(A4m es).length=es.length:=g2v ..
theorem F0e {es:A4x} {y:Int×Bool} (h:y∈es):y.1∈A4m es:=g4f (f:=fun e:Int×Bool=>e.1) h
def fre (n:Nat) (dd:List Nat):Prop:=∀i,i<n->i∉dd
abbrev NB:=List A4x×List Nat
abbrev NR:=List (List Ent)×List Nat
variable {n k:Nat} {S:Nat->Nat} {A:Nat->Nat->Rat} {rest P Q place:List Int} {rows lower:List (List Ent)} {cols:List A4x}
theorem F2i {v:List Ent} {m j:Int} (h:L9 v m) (u:C1 v j≠0):0<=j/\j<m:=g0v fun hh=>u (F8w h hh)
theorem EI.more (h:EI n k S A rest P Q place rows lower cols) (hk:k<n):0<rest.length:=by
 refine g0v fun hn=> ?_
 have a0:rest= []:=g0m (by omega);have u:∀c,c<n->∃a,a<k/\c=ix Q a:=fun c hc=>g0v fun hh=>by
  have:=(h.rmem (c:Int)).2 ⟨by omega,by omega,fun a ha e=>hh ⟨a,ha,by omega⟩⟩;rw[a0]at this;cases this
 obtain⟨f,hf⟩:∃f:Nat->Nat,∀c,c<n->f c<k/\c=ix Q (f c):=by
  refine⟨fun c=>if hc:c<n then(u c hc).choose else 0,fun c hc=> ?_⟩;simp only[dif_pos hc];exact(u c hc).choose_spec
 obtain⟨a,b,h1,h2,h3⟩:=E5m k f fun a ha=>(hf a (by omega)).1
 have e1:=(hf a (by omega)).2;have e2:=(hf b (by omega)).2;rw[h3]at e1;omega
theorem EI.okRow (h:EI n k S A rest P Q place rows lower cols) (hS:S k<=K1) (hn:n<=16384) {i:Nat} (hi:i<n):okV K1 (rows.getD i []):=by
 obtain⟨u,g2,g3⟩:=h.can i hi;have:=A7t (n:=(n:Int)) (v:=rows.getD i []) ⟨u.1,fun e he=>⟨(g2 e he).1,(g2 e he).2,(u.2 e he).1⟩⟩;exact⟨u.1,E0m u fun j=>G7 (g3 j) hS,by omega⟩
theorem EI.lowLen (h:EI n k S A rest P Q place rows lower cols) {i:Nat} (hi:i<n):(lower.getD i []).length<=k:=by
 obtain⟨u,g2⟩:=h.lcan i hi;have:=A7t (n:=(k:Int)) (v:=lower.getD i []) ⟨u.1,fun e he=>⟨(g2 e he).1,(g2 e he).2,(u.2 e he).1⟩⟩;omega
theorem EI.colLen (h:EI n k S A rest P Q place rows lower cols) {c:Int} (hc:c∈rest):(cols.getD c.toNat []).length<=n:=by
 obtain⟨g1,u⟩:=h.col c hc;rw[<-G3k];exact C4n g1 fun x hx=>⟨((u x).1 hx).1,((u x).1 hx).2.1⟩
theorem EI.pick (h:EI n k S A rest P Q place rows lower cols) {b:Nat} (hb:b<rest.length):(rest.take b++rest.drop (b+1)).Nodup/\∀x,x∈rest.take b++rest.drop (b+1)↔x∈rest/\x≠rest.getD b 0:=by
 have he:rest=rest.take b++rest.getD b 0::rest.drop (b+1):=by
  rw[G2 _ _ hb, <-g6p hb,g4k]
 have hn:=h.rnd;generalize rest.getD b 0=c at*;generalize rest.take b=l1 at*;generalize rest.drop (b+1)=l2 at*;subst he;rw[g2q]at hn;obtain⟨n1,n2,n3⟩:=hn;obtain⟨m1,m2⟩:=g2n.1 n2;refine⟨g2q.2 ⟨n1,m2,fun a ha b hb=>n3 a ha b (g0n _ hb)⟩,fun x=> ?_⟩;rw[g1b,g1b,g0s];constructor
 . rintro(hx|hx)
   . exact⟨.inl hx,fun e=>n3 x hx c g1j e⟩
   . exact⟨.inr (.inr hx),fun e=>m1 (e▸hx)⟩
 . rintro⟨hx|hx|hx,u⟩
   . exact .inl hx
   . exact absurd hx u
   . exact .inr hx
def D3f (n:Nat) (rest:List Int) (Bs:Int->Int->Prop) (i:Int) (v:List Ent) (p:Int×NB×Unit):Prop:=0<=p.1/\p.1<=(v.length:Int)/\p.2.1.1.length=n/\fre n p.2.1.2/\∀j:Int,j∈rest->(0<=j/\j<(n:Int))/\G5f Bs i (v.take p.1.toNat) j (p.2.1.1.getD j.toNat [])
def F2m (n:Nat) (rest:List Int) (Bs:Int->Int->Prop) (i:Int) (v:List Ent) (p:Int×NB×Unit):Prop:=0<=p.1/\p.1<=(v.length:Int)/\p.2.1.1.length=n/\fre n p.2.1.2/\∀j:Int,j∈rest->(0<=j/\j<(n:Int))/\G6d Bs i (v.take p.1.toNat) j (p.2.1.1.getD j.toNat [])
def E2k (n:Nat) (F:Nat->Int->Rat) (i:Int) (v:List Ent) (p:Int×NB×Unit):Prop:=0<=p.1/\p.1<=(v.length:Int)/\p.2.1.1.length=n/\fre n p.2.1.2/\∀j:Int,0<=j->j<(n:Int)->G1a i F (v.take p.1.toNat) j (p.2.1.1.getD j.toNat [])
variable {Bs:Int->Int->Prop} {i t:Int} {v:List Ent} {dd:List Nat} {F:Nat->Int->Rat}
theorem D3f.rng (h:D3f n rest Bs i v (t,(cols,dd),())) (hv:∀e∈v,0<=e.1/\e.1<(n:Int)) (ht:t<(v.length:Int)):(0<=t/\t<(v.length:Int))/\(0<=(gx dEE v t).1/\(gx dEE v t).1<((cols.length:Nat):Int))/\(gx dEE v t).1.toNat∉dd:=by
 have u:=hv (gx dEE v t) (K8 (d:=dEE) (i:=t) h.1 ht);have hl:cols.length=n:=h.2.2.1;exact⟨⟨h.1,ht⟩,⟨u.1,by rw[hl];exact u.2⟩,h.2.2.2.1 _ (by omega)⟩
theorem D3f.next (h:D3f n rest Bs i v (t,(cols,dd),())) (hv:∀e∈v,0<=e.1/\e.1<(n:Int)) (ht:t<(v.length:Int)):D3f n rest Bs i v (t+1,(cols.set (gx dEE v t).1.toNat (D5s (.int .i64) i (cols.getD (gx dEE v t).1.toNat [])),dd),()):=by
 obtain⟨h0,_,h2,h3,h4⟩:=h;simp only at h0 h2 h3 h4;refine⟨by simp only;omega,by simp only;omega,by simp only;rw[g0j];exact h2,h3,fun j u=> ?_⟩;obtain⟨⟨j0,j1⟩,h5⟩:=h4 j u;refine⟨⟨j0,j1⟩, ?_⟩;have he:=hv _ (K8 (d:=dEE) h0 ht);simp only;rw[A3v (d:=dEE) h0 ht];generalize gx dEE v t=e at*;by_cases u:e.1=j
 . subst u;rw[A4 (by omega)];exact G4h h5 rfl
 . rw[C3 (by omega)];exact G0r h5 u
theorem F2m.rng (h:F2m n rest Bs i v (t,(cols,dd),())) (hv:∀e∈v,0<=e.1/\e.1<(n:Int)) (ht:t<(v.length:Int)):(0<=t/\t<(v.length:Int))/\(0<=(gx dEE v t).1/\(gx dEE v t).1<((cols.length:Nat):Int))/\(gx dEE v t).1.toNat∉dd:=by
 have u:=hv (gx dEE v t) (K8 (d:=dEE) (i:=t) h.1 ht);have hl:cols.length=n:=h.2.2.1;exact⟨⟨h.1,ht⟩,⟨u.1,by rw[hl];exact u.2⟩,h.2.2.2.1 _ (by omega)⟩
theorem F2m.next {b:Bool} (h:F2m n rest Bs i v (t,(cols,dd),())) (hv:∀e∈v,0<=e.1/\e.1<(n:Int)) (ht:t<(v.length:Int)):F2m n rest Bs i v (t+1,(cols.set (gx dEE v t).1.toNat (B6o (.int .i64) i b (cols.getD (gx dEE v t).1.toNat [])),dd),()):=by
 obtain⟨h0,_,h2,h3,h4⟩:=h;simp only at h0 h2 h3 h4;refine⟨by simp only;omega,by simp only;omega,by simp only;rw[g0j];exact h2,h3,fun j u=> ?_⟩;obtain⟨⟨j0,j1⟩,h5⟩:=h4 j u;refine⟨⟨j0,j1⟩, ?_⟩;have he:=hv _ (K8 (d:=dEE) h0 ht);simp only;rw[A3v (d:=dEE) h0 ht];generalize gx dEE v t=e at*;by_cases u:e.1=j
 . subst u;rw[A4 (by omega)];exact G1w h5 rfl
 . rw[C3 (by omega)];exact F6o h5 u
theorem E2k.rng (h:E2k n F i v (t,(cols,dd),())) (hv:∀e∈v,0<=e.1/\e.1<(n:Int)) (ht:t<(v.length:Int)):(0<=t/\t<(v.length:Int))/\(0<=(gx dEE v t).1/\(gx dEE v t).1<((cols.length:Nat):Int))/\(gx dEE v t).1.toNat∉dd:=by
 have u:=hv (gx dEE v t) (K8 (d:=dEE) (i:=t) h.1 ht);have hl:cols.length=n:=h.2.2.1;exact⟨⟨h.1,ht⟩,⟨u.1,by rw[hl];exact u.2⟩,h.2.2.2.1 _ (by omega)⟩
theorem E2k.next {b:Bool} (h:E2k n F i v (t,(cols,dd),())) (hv:∀e∈v,0<=e.1/\e.1<(n:Int)) (ht:t<(v.length:Int)):E2k n F i v (t+1,(cols.set (gx dEE v t).1.toNat (B6o (.int .i64) i b (cols.getD (gx dEE v t).1.toNat [])),dd),()):=by
 obtain⟨u,_,h2,h3,h4⟩:=h;simp only at u h2 h3 h4;refine⟨by simp only;omega,by simp only;omega,by simp only;rw[g0j];exact h2,h3,fun j j0 j1=> ?_⟩;have he:=hv _ (K8 (d:=dEE) u ht);simp only;rw[A3v (d:=dEE) u ht];have h5:=h4 j j0 j1;generalize gx dEE v t=e at*;by_cases hj:e.1=j
 . subst hj;rw[A4 (by omega)];exact G2n h5 rfl
 . rw[C3 (by omega)];exact F8u h5 hj
def D8r (n:Nat) (p:Int×NB×List Int×Unit):Prop:=0<=p.1/\p.1<=(n:Int)/\p.2.1.1.length=n/\(∀j,p.2.1.1.getD j []= [])/\(∀i∈p.2.1.2,p.1<=(i:Int))/\p.2.2.1.length=n/\∀i:Nat,(i:Int)<p.1->p.2.2.1.getD i 0=(i:Int)
theorem D8r.init:D8r n (0,(List.replicate n [],B8n (Ty.mp false (Ty.int i64) false Ty.bool) n),List.replicate n 0,()):=by
 refine⟨by simp only;omega,by simp only;omega,by simp only;rw[g1a],fun j=> ?_,fun i _=>g0d i,by simp only;rw[g1a],fun i hi=> ?_⟩
 . simp only;rw[g0g,g4p];split<;>rfl
 . simp only at hi;omega
theorem D8r.next {left:List Int} (h:D8r n (t,(cols,dd),left,())) (ht:t<(n:Int)):D8r n (t+1,(cols.set t.toNat [],D6i t.toNat dd),left.set t.toNat t,()):=by
 obtain⟨h0,_,h2,h3,h4,h5,h6⟩:=h;simp only at h0 h2 h3 h4 h5 h6;refine⟨by simp only;omega,by simp only;omega,by simp only;rw[g0j];exact h2,fun j=> ?_,fun i hi=> ?_,by simp only;rw[g0j];exact h5,fun i hi=> ?_⟩
 . simp only;by_cases u:j=t.toNat
   . subst u;rw[A4 (by omega)]
   . rw[C3 u];exact h3 j
 . simp only at hi⊢;obtain⟨g1,g2⟩:=D8d.1 hi;have:=h4 i g1;omega
 . simp only at hi⊢;by_cases u:i=t.toNat
   . subst u;rw[A4 (by omega)];omega
   . rw[C3 u];exact h6 i (by omega)
def D4g (n:Nat) (D:List (List Ent)) (p:Int×List (List Ent)×NB×Unit):Prop:=0<=p.1/\p.1<=(n:Int)/\p.2.1.length=n/\(∀i:Nat,(i:Int)<p.1->isC (C1 (D.getD i [])) (p.2.1.getD i []))/\p.2.2.1.1.length=n/\fre n p.2.2.1.2/\∀j:Int,0<=j->j<(n:Int)->G1a p.1 (fun i=>C1 (D.getD i [])) [] j (p.2.2.1.1.getD j.toNat [])
theorem D4g.init {left:List Int} {D:List (List Ent)} (h:D8r n (t,(cols,dd),left,())) (ht:(n:Int)<=t):D4g n D (0,List.replicate n [],(cols,dd),()):=by
 obtain⟨h0,_,u,h3,h4,h5,h6⟩:=h;simp only at h0 u h3 h4 h5 h6;refine⟨by simp only;omega,by simp only;omega,by simp only;rw[g1a],fun i hi=>by simp only at hi;omega,u,fun i hi hm=>by have:=h4 i hm;omega,fun j j0 j1=> ?_⟩;simp only;rw[h3];refine⟨g7z,fun x=>⟨fun hx=>(by cases hx),fun hx=> ?_⟩⟩;rcases hx with⟨x0,x1,_⟩ | ⟨_,e,he,_⟩
 . omega
 . cases he
theorem D4g.row {D:List (List Ent)} {rs:List (List Ent)} (h:D4g n D (t,rs,(cols,dd),())):E2k n (fun i=>C1 (D.getD i [])) t (D.getD t.toNat []) (0,(cols,dd),()):=by
 obtain⟨h0,_,h2,h3,u,h5,h6⟩:=h;exact⟨g0k _,g0d _,u,h5,fun j j0 j1=>h6 j j0 j1⟩
theorem D4g.next {D:List (List Ent)} {rs:List (List Ent)} {cols2:List A4x} {dd2:List Nat} {u:Int} {w:List Ent} (h:D4g n D (t,rs,(cols,dd),())) (ht:t<(n:Int)) {m:Int} (hv:L9 (D.getD t.toNat []) m) (hw:isC (C1 (D.getD t.toNat [])) w) (hf:E2k n (fun i=>C1 (D.getD i [])) t (D.getD t.toNat []) (u,(cols2,dd2),())) (hu:((D.getD t.toNat []).length:Int)<=u):D4g n D (t+1,rs.set t.toNat w,(cols2,dd2),()):=by
 obtain⟨h0,_,h2,h3,h4,h5,h6⟩:=h;obtain⟨g0,_,g2,g3,g4⟩:=hf;simp only at h0 h2 h3 h4 h5 h6 g0 g2 g3 g4;refine⟨by simp only;omega,by simp only;omega,by simp only;rw[g0j];exact h2,fun i hi=> ?_,g2,g3,fun j j0 j1=> ?_⟩
 . simp only at hi⊢;by_cases hj:i=t.toNat
   . subst hj;rw[A4 (by omega)];exact hw
   . rw[C3 hj];exact h3 i (by omega)
 . simp only;have h7:=g4 j j0 j1;rw[D9 hu]at h7;exact F6h h7 h0 hv rfl
def H2m (n:Nat) (M:C2p) (p:Int×List Int×List Int×List Int×List Int×List (List Ent)×NR×NB×Unit):Prop:=0<=p.1/\p.1<=(n:Int)/\(∀s,1<=s->okM s M->EI n p.1.toNat (sK s) (el M) p.2.1 p.2.2.1 p.2.2.2.1 p.2.2.2.2.1 p.2.2.2.2.2.1 p.2.2.2.2.2.2.1.1 p.2.2.2.2.2.2.2.1.1)/\fre n p.2.2.2.2.2.2.1.2/\fre n p.2.2.2.2.2.2.2.1.2
theorem H2m.init {M:C2p} {left:List Int} {cols2:List A4x} {a0:List Nat} {rs:List (List Ent)} {u:Int} (hM:F6 M) (hl:G9r M) (hR:M.1=(n:Int)) (hC:M.2.1=(n:Int)) (h:D8r n (t,(cols2,a0),left,())) (ht:(n:Int)<=t) (g:D4g n M.2.2 (u,rs,(cols,dd),())) (hu:(n:Int)<=u):H2m n M (0,left,List.replicate n 0,List.replicate n 0,List.replicate n 0,rs,(List.replicate n [],B8n (Ty.sl (.pair (.int .i64) (.pair (.pair .bool (.sl (.int .u32))) (.sl (.int .u32))))) n),(cols,dd),()):=by
 obtain⟨h0,h1,h2,h3,h4,h5,h6⟩:=h;obtain⟨g0,g1,g2,g3,g4,g5,g6⟩:=g;simp only at h0 h1 h2 h3 h4 h5 h6 g0 g1 g2 g3 g4 g5 g6;have hu:u=(n:Int):=by omega
 subst hu;refine⟨g0k _,g0d _,fun s hs a1=> ?_,fun i hi hm=>(by cases hm),g5⟩;have a2:(M.2.2.length:Int)=(n:Int):=by rw[hM.2.2.2.2.1,hR]
 have hD:∀i,i<n->L9 (M.2.2.getD i []) (n:Int)/\okV s (M.2.2.getD i [])/\F5h (M.2.2.getD i []):=fun i hi=>by
  have hm:=B7 (d:=([]:List Ent)) (show i<M.2.2.length by omega);exact⟨hC▸hM.2.2.2.2.2 _ hm,F7x hM a1 hm,hl _ hm⟩
 exact EI.start (F:=fun i=>C1 (M.2.2.getD i [])) (fun i j _ _=>rfl) h5 (fun i hi=>h6 i (by omega)) g1a g1a g1a g2 g1a g4 (fun i hi=>g3 i (by omega)) (fun i j hi hj=>F2i (hD i hi).1 hj) (fun i j hi=>F5d (hD i hi).1.1 (hD i hi).2.2 (hD i hi).2.1.2.1 hs j) (fun i hi=>by rw[g0g,g4p,g1c hi];rfl) g6
def B0k:An:= {loop:= [(5,⟨[1,5,14,15],[],[(16,false,vI)],[],[(0, .row .bool 4)]⟩)]}
def D5a:An:= {plan:= [(3,[0,1,2],[5],true,(.q 0 (.q 1 (.q 2 (.e 3 (.e 4 (.e 5 .done)))))))]}
def B1t:An:= {}
def A2o:A9 H1.args->Prop:=fun(x:List Int×Int×Unit)=>let b:=(x.1.length:Int);let a:=(0:Int);(decide (b≠x.2.1)=true->false=decide (L8 x.1 x.2.1))/\(decide (b≠x.2.1)=false->(a<=x.2.1/\x.2.1<=x.2.1/\(↑(1:Nat):Int)*x.2.1<=281474976710656/\x.2.1<=9223372036854775807)/\∃(I:Int×List Bool×Unit->Prop),∃(μ: _->Nat),I (a,List.replicate x.2.1.toNat false,())/\∀(p:Int×List Bool×Unit),let h:=(decide (gx a x.1 p.1<a));let g:=(p.2.1.length:Int);let f:=(decide (x.2.1<=gx a x.1 p.1));let e:=(List.getD p.2.1 (gx a x.1 p.1).toNat false);let d:=(sel h true f);let c:=(i64.wrap (p.1+1),List.set p.2.1 (gx a x.1 p.1).toNat true,());(Ty.int i64).wf p.1/\(List.length p.2.1<=9223372036854775807/\∀(x:Bool),x∈p.2.1->True)/\True->I p->(decide (p.1<b)=true->(a<=p.1/\p.1<b)/\(sel h true f=false->a<=gx a x.1 p.1/\gx a x.1 p.1<g)/\(sel d true e=true->false=decide (L8 x.1 x.2.1))/\(sel d true e=false->(a<=gx a x.1 p.1/\gx a x.1 p.1<g)/\I c/\μ c<μ p))/\(decide (p.1<b)=false->true=decide (L8 x.1 x.2.1)))
def B8x:A9 A1q.args->Prop:=fun(x:QQ×QQ×QQ×Unit)=>let a:=(rv x.1-rv x.2.1*rv x.2.2.1);True/\∀(r:Int×Unit),G1 r.1/\True->r.1=(rv x.2.2.1).num.sign->(decide (r.1=0)=true->(rv x.2.2.1=(0:Rat)->x.1=x.1)/\(rv x.2.2.1≠(0:Rat)->x.1=rc a))/\(decide (r.1=0)=false->(sh3 x.2.1/\sh3 x.2.2.1)/\∀(r:QQ×Unit),WfQ r.1/\True->r.1=rc (rv x.2.1*rv x.2.2.1)->(sh3 x.1/\sh3 r.1)/\∀(b:QQ×Unit),WfQ b.1/\True->b.1=rc (rv x.1-rv r.1)->(rv x.2.2.1=(0:Rat)->b.1=x.1)/\(rv x.2.2.1≠(0:Rat)->b.1=rc a))
def A2u:A9 H9.args->Prop:=fun(x:MM×Int×Unit)=>let b:=(decide (x.1.1=x.2.1));let a:=(decide (x.1.2.1=x.2.1));(sel b a false=true->True)/\∀(r:Bool×Unit),(sel b a false=true->(True/\True)/\r.1=decide (F6 x.1))->sel (sel b a false) r.1 false=decide (sqr x.1 x.2.1)
def PI (l:List Int) (n t:Int) (s:List Bool):Prop:=0<=t/\t<=(l.length:Int)/\(s.length:Int)=n/\(∀i∈l.take t.toNat,0<=i/\i<n)/\(l.take t.toNat).Nodup/\∀k:Nat,(k:Int)<n->(s.getD k false=true↔(k:Int)∈l.take t.toNat)
theorem PI0 {l:List Int} {n:Int} (u:0<=n):PI l n 0 (List.replicate n.toNat false):=by
 refine⟨g0k _,g0d _,by rw[g1a];omega,fun i hi=>(by cases hi),g7z,fun k _=> ?_⟩;rw[g0g,g4p];constructor
 . intro h;split at h<;>cases h
 . intro h;cases h
theorem E1j {l:List Int} {t:Int} (u:0<=t) (h1:t<(l.length:Int)):l.take (t+1).toNat=l.take t.toNat++ [gx 0 l t]:=by
 rw[show(t+1).toNat=t.toNat+1 from by omega,g1z,J9 (d:=(0:Int)) u h1];rfl
theorem G4t {l:List Int} {n t:Int} {s:List Bool} (h:PI l n t s) (ht:t<(l.length:Int)) (hb:gx 0 l t<0\/n<=gx 0 l t\/s.getD (gx 0 l t).toNat false=true):¬L8 l n:=by
 rintro⟨_,h1,h2⟩;obtain⟨t0,_,_,_,_,hs⟩:=h;have hm:=K8 (d:=(0:Int)) t0 ht;obtain⟨i0,i1⟩:=h1 _ hm;rcases hb with hb|hb|hb
 . omega
 . omega
 . have:=(hs (gx 0 l t).toNat (by omega)).1 hb;rw[show(((gx 0 l t).toNat:Nat):Int)=gx 0 l t from by omega]at this;have u:(l.take (t+1).toNat).Nodup:=h2.take;rw[E1j t0 ht,g2q]at u;exact u.2.2 _ this _ (g0x.2 rfl) rfl
theorem G0b {l:List Int} {n t:Int} {s:List Bool} (h:PI l n t s) (ht:t<(l.length:Int)) (h0:0<=gx 0 l t) (h1:gx 0 l t<n) (a2:s.getD (gx 0 l t).toNat false=false):PI l n (t+1) (s.set (gx 0 l t).toNat true):=by
 obtain⟨t0,t1,hl,hr,hn,hs⟩:=h;have a0:gx 0 l t∉l.take t.toNat:=fun hm=>by
  have:=(hs (gx 0 l t).toNat (by omega)).2 (by rw[show(((gx 0 l t).toNat:Nat):Int)=gx 0 l t from by omega];exact hm);rw[a2]at this;cases this
 refine⟨by omega,by omega,by rw[g0j];exact hl,fun i hi=> ?_, ?_,fun k hk=> ?_⟩
 . rw[E1j t0 ht,g1b,g0x]at hi;rcases hi with hi|rfl
   . exact hr i hi
   . exact⟨h0,h1⟩
 . rw[E1j t0 ht,g2q];refine⟨hn,by simp,fun a ha b hb a1=> ?_⟩;rw[g0x]at hb;subst hb a1;exact a0 ha
 . rw[E1j t0 ht,g1b,g0x, <-hs k hk];by_cases u:(gx 0 l t).toNat=k
   . rw[u,g0g,g2w (by omega)];exact⟨fun _=> .inr (by omega),fun _=>rfl⟩
   . rw[g0g,g3a u, <-g0g];exact⟨.inl,fun h=>h.resolve_right (by omega)⟩
theorem A6r (x:A9 H1.args) (hw:awf H1.args x) (hp:H1.pre x):A2o x:=by
 obtain⟨l,n,_⟩:=x;change List Int at l;change Int at n;obtain⟨hn,a0⟩:0<=n/\n<=16384:=hp;simp only[A2o];refine⟨fun h=> ?_,fun h=>⟨⟨hn,g0k _,by omega,by omega⟩, ?_⟩⟩
 . have h:=g0a h;exact(g1e fun hh=>h hh.1).symm
 . have h:=g5d.1 (g0b h);refine⟨fun p=>PI l n p.1 p.2.1,fun p=>((l.length:Int)-p.1).toNat,PI0 hn, ?_⟩;rintro⟨t,s,_⟩ _ hI;change Int at t;change List Bool at s;simp only at hI⊢;obtain⟨t0,t1,hl,_⟩:=id hI;refine⟨fun u=> ?_,fun u=> ?_⟩
   . have u:=g0a u;rw[M5,M5];refine⟨⟨t0,u⟩,fun hh=> ?_,fun hh=> ?_,fun hh=> ?_⟩
     . simp only[g1i,g1r]at hh;omega
     . simp only[g4g,g1y]at hh;exact(g1e (G4t hI u (by rcases hh with(hh|hh) |hh;exact .inl hh;exact .inr (.inl hh);exact .inr (.inr hh)))).symm
     . simp only[g1i,g1r]at hh;rw[wr (by omega) (by omega)];exact⟨by omega,G0b hI u (by omega) (by omega) hh.2,by omega⟩
   . have u:=g0b u;obtain⟨_,_,_,h4,h5,_⟩:=hI;rw[D9 (by omega)]at h4 h5;exact(g0z ⟨h,h4,h5⟩).symm
theorem A6o (x:A9 H2.args) (hw:awf H2.args x) (hp:H2.pre x):A2j x:=by
 obtain⟨l,_⟩:=x;change List Int at l;have a0:l.length<=100000:=hp;simp only[A2j];refine⟨⟨g0d _,g0k _,by omega,by omega⟩,fun p=>PI l (l.length:Int) p.1 p.2.1,fun p=>((l.length:Int)-p.1).toNat,PI0 (g0d _), ?_⟩;rintro⟨t,s,_⟩ _ hI;change Int at t;change List Bool at s;simp only at hI⊢;obtain⟨t0,t1,hl,_⟩:=id hI;refine⟨fun u=> ?_,fun u=> ?_⟩
 . have u:=g0a u;rw[M5,M5];refine⟨⟨t0,u⟩,fun hh=> ?_,fun hh=> ?_,fun hh=> ?_⟩
   . simp only[g1i,g1r]at hh;omega
   . simp only[g4g,g1y]at hh;exact(g1e (G4t hI u (by rcases hh with(hh|hh) |hh;exact .inl hh;exact .inr (.inl hh);exact .inr (.inr hh)))).symm
   . simp only[g1i,g1r]at hh;rw[wr (by omega) (by omega)];exact⟨by omega,G0b hI u (by omega) (by omega) hh.2,by omega⟩
 . have u:=g0b u;obtain⟨_,_,_,h4,h5,_⟩:=hI;rw[D9 (by omega)]at h4 h5;exact(g0z ⟨rfl,h4,h5⟩).symm
theorem C5m (x:A9 A1q.args) (hw:awf A1q.args x) (hp:A1q.pre x):B8x x:=by
 obtain⟨a,f,b,_⟩:=x;obtain⟨ha,hf,hb⟩:sz K1 a/\sz K1 f/\sz K1 b:=hp;have a1:=Y8 hw.2.1;have a0:=Y8 hw.2.2.1;simp only[B8x];refine⟨trivial, ?_⟩;rintro⟨r,_⟩ _ hr;change Int at r;simp only at hr⊢;refine⟨fun h=> ?_,fun h=>⟨⟨L5 hf (by decide),L5 hb (by decide)⟩, ?_⟩⟩
 . have h:=g0a h;rw[hr,G8g]at h;exact⟨fun _=>by trivial,fun u=>absurd h u⟩
 . have hz:rv b≠0:=fun hz=>g0b h (by rw[hr,G8g];exact hz)
   rintro⟨p,_⟩ _ h1;simp only at h1⊢;subst h1;refine⟨⟨L5 ha (by decide),A2v (D2y (A6p a1 hf (by decide)) (A6p a0 hb (by decide))) (by decide)⟩, ?_⟩;rintro⟨q,_⟩ _ u;simp only at u⊢;refine⟨fun h3=>absurd h3 hz,fun _=> ?_⟩;rw[u,H6]
def mvE (p:List Int) (e:Ent):Ent:=(p.getD e.1.toNat 0,e.2)
theorem F8m {p:List Int} (h:L8 p (p.length:Int)) {a i:Int} (a0:0<=a) (a1:a<(p.length:Int)) (i0:0<=i) (i1:i<(p.length:Int)):p.getD a.toNat 0=i↔a=((List.idxOf i p:Nat):Int):=by
 have a4:a.toNat<p.length:=by omega
 constructor
 . intro he;have hm:i∈p:=he▸B7 a4;have u:=g7q hm;have h2:p[List.idxOf i p]=i:=h0l u;rw[G2 _ _ a4, <-h2]at he;have:=(g5u h.2.2).1 he;omega
 . intro he;have hm:i∈p:=by
    obtain⟨b,hb,a3⟩:=A4v (n:=p.length) (q:=fun b=>(p.getD b 0).toNat) (fun b hb=>by have:=h.2.1 _ (B7 (d:=0) hb);omega) (fun b c hb hc a2=>by
     have g1:=h.2.1 _ (B7 (d:=0) hb);have g2:=h.2.1 _ (B7 (d:=0) hc);have a2:(p.getD b 0).toNat=(p.getD c 0).toNat:=a2;have e:p.getD b 0=p.getD c 0:=by omega
     rw[G2 _ _ hb,G2 _ _ hc]at e;exact(g5u h.2.2).1 e) (show i.toNat<p.length by omega)
    have g1:=h.2.1 _ (B7 (d:=0) hb);have a3:(p.getD b 0).toNat=i.toNat:=a3;rw[show i=p.getD b 0 from by omega];exact B7 hb
   have u:=g7q hm;have h2:p[List.idxOf i p]=i:=h0l u;rw[he,g0i,G2 _ _ u,h2]
theorem F7v {p:List Int} (h:L8 p (p.length:Int)):∀ {c:List Ent},(∀e∈c,0<=e.1/\e.1<(p.length:Int))->∀i,C1 (c.map (mvE p)) i=if 0<=i/\i<(p.length:Int)then C1 c ((List.idxOf i p:Nat):Int)else 0
 | [],_,i=>by split<;>rfl
 |e::c,hc,i=>by
  obtain⟨e0,e1⟩:=hc e (g1j ..);have ih:=F7v h (fun x hx=>hc x (g0n _ hx)) i;rw[g1x,C1,C1,ih];have hr:=h.2.1 _ (B7 (d:=0) (show e.1.toNat<p.length by omega));by_cases hi:0<=i/\i<(p.length:Int)
  . rw[g1c hi,g1c hi];congr 1;show(if p.getD e.1.toNat 0=i then rv e.2 else 0)= _;by_cases u:p.getD e.1.toNat 0=i
    . rw[g1c u,g1c ((F8m h e0 e1 hi.1 hi.2).1 u)]
    . rw[g0u u,g0u fun h3=>u ((F8m h e0 e1 hi.1 hi.2).2 h3)]
  . rw[g0u hi,g0u hi,g1p];exact g0u fun u=>hi (by rw[<-u];exact hr)
theorem B7i (x:A9 M7.args) (hw:awf M7.args x) (hp:M7.pre x):A9l x:=by
 obtain⟨v,p,_⟩:=x;change List Ent at v;change List Int at p;have a9:okV K1 v/\p.length<=100000:=hp;obtain⟨a9,ai⟩:=a9;simp only[A9l];refine⟨ai, ?_⟩;rintro⟨r,_⟩ _ hr;change Bool at r;simp only at hr⊢;refine⟨fun h a6=> ?_,fun h=>⟨.inl a9, ?_⟩⟩
 . rw[hr,g0z a6]at h;cases h
 have a6:L8 p (p.length:Int):=by
  refine g0v fun hn=> ?_
  rw[hr,g1e hn]at h;cases h
 rintro⟨c,_⟩ ⟨⟨a7,_⟩,_⟩ hc;change List Ent at c;simp only at hc a7⊢;have a7:c.length<=9223372036854775807:=a7;refine⟨fun q=>0<=q.1/\q.1<=(c.length:Int)/\q.2.1=(c.take q.1.toNat).map (mvE p)++c.drop q.1.toNat/\∀e∈c.take q.1.toNat,0<=e.1/\e.1<(p.length:Int),fun q=>((c.length:Int)-q.1).toNat,⟨g0k _,g0d _,rfl,fun e u=>(by cases u)⟩, ?_⟩;rintro⟨i,d,_⟩ _ ⟨i0,i1,hd,a2⟩;change Int at i;change List Ent at d;simp only at i0 i1 hd a2⊢;refine⟨fun hi=> ?_,fun hi=> ?_⟩
 . have hi:=g0a hi;have a4:i.toNat<c.length:=by omega
   have ah:d.length=c.length:=by rw[hd,g1o,g2v,g0q,g2l];omega
   have ad:((c.take i.toNat).map (mvE p)).length=i.toNat:=by rw[g2v,g0q];omega
   have ac:c.drop i.toNat=c.getD i.toNat dEE::c.drop (i.toNat+1):=by rw[G2 _ _ a4];exact g6p a4
   have ag:d.getD i.toNat dEE=c.getD i.toNat dEE:=by
    rw[hd,ac,g0g,g4q (by omega),ad,g7m];rfl
   have aa:c.getD i.toNat dEE∈c:=B7 a4;have ab:0<=i/\i<(d.length:Int):=⟨i0,by rw[ah];exact hi⟩;rw[ag];refine⟨ab,fun hh _ a3=> ?_,fun hh=> ?_⟩
   . exfalso;rw[M5]at hh;simp only[g4g,g1y]at hh;have:=a3 (c.getD i.toNat dEE).1 (by rw[<-hc.2,S4 hc.1.1 aa];exact(hc.1.2 _ aa).1);omega
   . rw[M5]at hh;simp only[g1i,g1r]at hh;have a3:0<=(c.getD i.toNat dEE).1/\(c.getD i.toNat dEE).1<(p.length:Int):=⟨by omega,by omega⟩;rw[wr (by omega) (by omega),F3 a3.1 a3.2];have ht:c.take (i+1).toNat=c.take i.toNat++ [c.getD i.toNat dEE]:=by
      rw[show(i+1).toNat=i.toNat+1 from by omega];rw[g1z,g0l a4,G2 _ _ a4];rfl
     refine⟨a3,ab,⟨by omega,by omega, ?_,fun e u=> ?_⟩,by omega⟩
     . rw[ht,hd,ac,g4h,g3p,h1m _ _ (by omega),ad,g7m,show(i+1).toNat=i.toNat+1 from by omega];rfl
     . rw[ht]at u;rcases g1b.1 u with u|u
       . exact a2 e u
       . rw[g0x]at u;subst u;exact a3
 . have hi:=g0b hi;rw[D9 (by omega)]at hd a2;rw[g2c (by omega),g5h]at hd;subst hd;have af:L9 c (p.length:Int):=⟨hc.1.1,fun e u=>⟨(a2 e u).1,(a2 e u).2,(hc.1.2 e u).1⟩⟩;refine⟨?_,fun l' _ a5 aj _ _=>⟨⟨⟨?_,fun e u=> ?_⟩,fun j=> ?_⟩,by trivial⟩⟩
   . have:=A7t af;have hz:∀z:Nat,z=c.length->z<=100000:=fun z hz=>by omega
     exact hz _ (g2v ..)
   . have a8:(l'.map fun e:Ent=>e.1).Nodup:=by
      rw[(a5.map fun e:Ent=>e.1).nodup_iff,List.map_map];have h1:(c.map fun e:Ent=>e.1).Nodup:=by
       unfold List.Nodup;rw[g6c];exact hc.1.1.imp fun hh=>by omega
      unfold List.Nodup at h1⊢;rw[g6c]at h1⊢;refine List.Pairwise.imp_of_mem (fun {a b} ha hb ae u=>ae ?_) h1;obtain⟨a0,a1⟩:=a2 a ha;obtain⟨b0,b1⟩:=a2 b hb;have u:p.getD a.1.toNat 0=p.getD b.1.toNat 0:=u;rw[G2 _ _ (by omega),G2 _ _ (by omega)]at u;have:=(g5u a6.2.2).1 u;omega
     unfold List.Nodup at a8;rw[g6c]at a8;refine List.Pairwise.imp₂ ?_ aj a8;intro a b h1 h2;have:a.1<=b.1:=by
      unfold A0s at h1;split at h1
      . omega
      . split at h1<;>omega
     omega
   . obtain⟨y,hy,rfl⟩:=g2u.1 (a5.mem_iff.1 u);exact hc.1.2 y hy
   . rw[D7c a5,F7v a6 a2];simp only[hc.2]
def B8b:An:= {loop:= [(8,⟨[2,6,36],[0,2],[(37,false,vI)],[],[]⟩)],plan:= [(10,[2,5,8,11],[],true,(.p 0 (.p 1 (.q 2 (.p 3 (.p 4 (.q 5 (.p 6 (.p 7 (.q 8 (.p 9 (.p 10 (.q 11 (.p 12 (.p 13 .done))))))))))))))),(11,[10,21,22],[],true,(pR 0 10 (.q 10 (pR 11 10 (.q 21 (.q 22 (.e 23 (.p 24 (.p 25 .done)))))))))]}
def A4r:A9 K9.args->Prop:=fun(x:(List Int×List Int×MM×Int×Int×List (List EE))×Int×Unit)=>let h:=(1:Int);let e:Prop:=(false=true↔B4e x.1 x.2.1);let d:=(0:Int);(d<=x.2.1/\x.2.1<=16384)/\∀(r:Bool×Unit),True/\True->r.1=decide (L8 x.1.1 x.2.1)->((!r.1)=false->d<=x.2.1/\x.2.1<=16384)/\∀(t:Bool×Unit),let n:=(sel (!r.1) true !t.1);((!r.1)=false->(True/\True)/\t.1=decide (L8 x.1.2.1 x.2.1))->(n=true->e)/\(n=false->True/\∀(q:Bool×Unit),True/\True->q.1=decide (sqr x.1.2.2.1 x.2.1)->((!q.1)=false->True)/\∀(u:Bool×Unit),let m:=(sel (!q.1) true !u.1);((!q.1)=false->(True/\True)/\u.1=decide (sqr x.1.2.2.2 x.2.1))->(m=true->e)/\(m=false->True/\∀(r:QQ×Unit),WfQ r.1/\True->r.1=ri h->∃(I:Int×Unit->Prop),∃(μ: _->Nat),I (d,())/\∀(p:Int×Unit),let l:=(i64.wrap (p.1+h),());let j:=(gx [] x.1.2.2.1.2.2 p.1);let c:=(gx [] x.1.2.2.2.2.2 p.1);let k:=(decide ((gx dEE c d).1≠p.1));let i:=(↑c.length:Int);let a:=(↑j.length:Int);let g:=(decide (a=d));let b:=(gx dEE j (i64.wrap (a-h)));let f:=(decide (b.1≠p.1));(Ty.int i64).wf p.1/\True->I p->(decide (p.1<x.2.1)=true->(d<=p.1/\p.1<(x.1.2.2.1.2.2.length:Int))/\(d<=p.1/\p.1<(x.1.2.2.2.2.2.length:Int))/\(decide (a=d)=false->d<=i64.wrap (a-h)/\i64.wrap (a-h)<a)/\(sel g true f=false->d<=i64.wrap (a-h)/\i64.wrap (a-h)<a)/\(sel g true f=false->sh3 b.2/\sh3 r.1)/\∀(s:Int×Unit),let o:=(decide (s.1≠d));(sel g true f=false->(G1 s.1/\True)/\s.1=F9y (rv b.2) (rv r.1))->(sel (sel g true f) true o=true->e)/\(sel (sel g true f) true o=false->(decide (i=d)=false->d<=d/\d<i)/\(sel (decide (i=d)) true k=true->e)/\(sel (decide (i=d)) true k=false->I l/\μ l<μ p)))/\(decide (p.1<x.2.1)=false->(true=true↔B4e x.1 x.2.1))))
theorem A7s (x:A9 H9.args) (hw:awf H9.args x) (_:H9.pre x):A2u x:=by
 obtain⟨m,n,_⟩:=x;change C2p at m;change Int at n;simp only[A2u,J5];refine⟨fun _=>trivial, ?_⟩;rintro⟨r,_⟩ hr;change Bool at r;simp only at hr⊢;by_cases h1:m.1=n
 . by_cases u:m.2.1=n
   . rw[(hr (by rw[g0z h1,g0z u];rfl)).2,g0z h1,g0z u,g9u,g9u];exact g4z.2 ⟨fun h=>⟨h1,u,h⟩,fun h=>h.2.2⟩
   . rw[g1e u,Bool.and_false,h0p];exact(g1e fun h=>u h.2.1).symm
 . rw[g1e h1,h0p,h0p];exact(g1e fun h=>h1 h.1).symm
theorem F0a {v:List Ent} (h:asc v) (hl:v≠ []):gx dEE v ((v.length:Int)-1)∈v/\∀x∈v,x.1<=(gx dEE v ((v.length:Int)-1)).1:=by
 have a1:0<v.length:=g4n.2 hl;have u:=J9 (d:=dEE) (l:=v) (i:=(v.length:Int)-1) (by omega) (by omega);refine⟨K8 (by omega) (by omega),fun x hx=> ?_⟩;obtain⟨k,hk,rfl⟩:=g3s.1 hx;rw[show((v.length:Int)-1).toNat=v.length-1 from by omega]at u;have he:v[v.length-1]'(by omega)=gx dEE v ((v.length:Int)-1):=by
  rw[g0l (by omega)]at u;exact g5q u
 rw[<-he];by_cases a0:k=v.length-1
 . subst a0;exact g0k _
 . exact g6y (g3x.1 h k (v.length-1) hk (by omega) (by omega))
theorem F7h {v:List Ent} {n:Int} (h:L9 v n) {i:Nat} (hi:(i:Int)<n):(v≠ []/\(gx dEE v ((v.length:Int)-1)).1=(i:Int)/\rv (gx dEE v ((v.length:Int)-1)).2=1)↔(∀j:Nat,(j:Int)<n->i<j->C1 v (j:Int)=0)/\C1 v (i:Int)=1:=by
 constructor
 . rintro⟨h0,h1,u⟩;obtain⟨m1,m2⟩:=F0a h.1 h0;refine⟨fun j _ a1=>E4 fun e he a0=> ?_, ?_⟩
   . have:=m2 e he;omega
   . rw[<-h1,S4 h.1 m1,u]
 . rintro⟨h1,u⟩;have h0:v≠ []:=fun e=>by subst e;rw[B6w]at u;exact absurd u (by decide)
   obtain⟨m1,m2⟩:=F0a h.1 h0;obtain⟨x,hx,a3⟩:=C7h (show C1 v (i:Int)≠0 from by rw[u];decide);have h3:=m2 x hx;obtain⟨g1,g2,g3⟩:=h.2 _ m1;have he:(gx dEE v ((v.length:Int)-1)).1=(i:Int):=by
    refine g0v fun a2=>g3 ?_
    have:=h1 (gx dEE v ((v.length:Int)-1)).1.toNat (by omega) (by omega);rw[show(((gx dEE v ((v.length:Int)-1)).1.toNat:Nat):Int)=(gx dEE v ((v.length:Int)-1)).1 from by omega,S4 h.1 m1]at this;exact this
   refine⟨h0,he, ?_⟩;rw[<-S4 h.1 m1,he,u]
theorem G4z {v:List Ent} {n:Int} (h:L9 v n) {i:Nat} :(v≠ []/\(gx dEE v 0).1=(i:Int))↔(∀j:Nat,j<i->C1 v (j:Int)=0)/\C1 v (i:Int)≠0:=by
 cases v with
 |nil=>exact⟨fun hh=>absurd rfl hh.1,fun hh=>absurd (B6w _) hh.2⟩
 |cons e r=>
  have hg:gx dEE (e::r) 0=e:=rfl;rw[hg];have u:=(h.2 e g1j);constructor
  . rintro⟨_,h1⟩;exact⟨fun j hj=>E1t h.1 (by omega),by rw[<-h1,A0o h.1];exact u.2.2⟩
  . rintro⟨h1,h2⟩;refine⟨by simp,g0v fun hc=> ?_⟩;rcases Int.lt_or_gt_of_ne hc with hl|hl
    . refine u.2.2 ?_;rw[<-A0o h.1];have:=h1 e.1.toNat (by omega);rwa[show((e.1.toNat:Nat):Int)=e.1 from by omega]at this
    . exact h2 (E1t h.1 hl)
def G0t (L U:C2p) (n:Int) (i:Nat):Prop:=(∀j:Nat,(j:Int)<n->i<j->el L i j=0)/\el L i i=1/\(∀j:Nat,j<i->el U i j=0)/\el U i i≠0
theorem F7t {P Q:List Int} {L U:C2p} {n:Int} (h1:L8 P n) (h2:L8 Q n) (h3:sqr L n) (h4:sqr U n):B4e (P,Q,L,U) n↔∀i:Nat,(i:Int)<n->G0t L U n i:=by
 constructor
 . rintro⟨_,_,_,_,h⟩ i hi;exact⟨fun j hj u=>(h i j hi hj).1 u,(h i i hi hi).2.1,fun j hj=>(h i j hi (by omega)).2.2.1 hj,(h i i hi hi).2.2.2⟩
 . intro h;exact⟨h1,h2,h3,h4,fun i j hi hj=>⟨fun u=>(h i hi).1 j hj u,(h i hi).2.1,fun hj=>(h i hi).2.2.1 j hj,(h i hi).2.2.2⟩⟩
theorem F9i {p q:Rat} :F9y p q=0↔p=q:=by
 unfold F9y;by_cases h1:p<q
 . rw[g1c h1];exact⟨fun h=>by omega,fun h=>by subst h;exact absurd h1 (h2n)⟩
 . rw[g0u h1];by_cases u:q<p
   . rw[g1c u];exact⟨fun h=>by omega,fun h=>by subst h;exact absurd u (h2n)⟩
   . rw[g0u u];exact⟨fun _=>Rat.le_antisymm (Rat.not_lt.1 u) (Rat.not_lt.1 h1),fun _=>rfl⟩
theorem D6o {p:Prop} (h:¬p):(false=true↔p):=⟨fun hh=>(by cases hh),fun hp=>absurd hp h⟩
theorem B0c (x:A9 K9.args) (hw:awf K9.args x) (hp:K9.pre x):A4r x:=by
 obtain⟨⟨P,Q,L,U⟩,n,_⟩:=x;change C2p at L;change C2p at U;change Int at n;obtain⟨hn,a6,hL,hU⟩:0<=n/\n<=16384/\okM K1 L/\okM K1 U:=hp;simp only[A4r,M5];refine⟨⟨hn,a6⟩, ?_⟩;rintro⟨r1,_⟩ _ h1;change Bool at r1;simp only at h1⊢;refine⟨fun _=>⟨hn,a6⟩, ?_⟩;rintro⟨r2,_⟩ h2;change Bool at r2;simp only at h2⊢;by_cases p1:L8 P n
 case neg=>
  rw[h1,g1e p1];exact⟨fun _=>D6o fun h=>p1 h.1,fun h=>by simp at h⟩
 have h2:=(h2 (by rw[h1,g0z p1];rfl)).2;by_cases p2:L8 Q n
 case neg=>
  rw[h2,g1e p2];exact⟨fun _=>D6o fun h=>p2 h.2.1,fun h=>by simp at h⟩
 rw[h1,h2,g0z p1,g0z p2];refine⟨fun h=>by simp at h,fun _=>⟨trivial, ?_⟩⟩;rintro⟨r3,_⟩ _ h3;change Bool at r3;simp only at h3⊢;refine⟨fun _=>trivial, ?_⟩;rintro⟨r4,_⟩ h4;change Bool at r4;simp only at h4⊢;by_cases p3:sqr L n
 case neg=>
  rw[h3,g1e p3];exact⟨fun _=>D6o fun h=>p3 h.2.2.1,fun h=>by simp at h⟩
 have h4:=(h4 (by rw[h3,g0z p3];rfl)).2;by_cases p4:sqr U n
 case neg=>
  rw[h4,g1e p4];exact⟨fun _=>D6o fun h=>p4 h.2.2.2.1,fun h=>by simp at h⟩
 rw[h3,h4,g0z p3,g0z p4];refine⟨fun h=>by simp at h,fun _=>⟨trivial, ?_⟩⟩;rintro⟨one,_⟩ _ a2;change D2 at one;simp only at a2⊢;have a5:=F7t p1 p2 p3 p4;obtain⟨l1,l2,l3⟩:=p3;obtain⟨u1,u2,u3⟩:=p4;have ae:(L.2.2.length:Int)=n:=l3.2.2.2.2.1.trans l1;have af:(U.2.2.length:Int)=n:=u3.2.2.2.2.1.trans u1;have a7:rv one=1:=by rw[a2];exact H3h 1
 have ab:sh3 one:=by rw[a2, <-F0v];exact A2v (G5p (by decide)) (by decide)
 refine⟨fun p=>0<=p.1/\p.1<=n/\∀i:Nat,(i:Int)<p.1->G0t L U n i,fun p=>(n-p.1).toNat,⟨g0k _,hn,fun i hi=>by omega⟩, ?_⟩;rintro⟨t,_⟩ _ hI;change Int at t;simp only at hI⊢;obtain⟨t0,t1,hI⟩:=hI;refine⟨fun ht=> ?_,fun ht=> ?_⟩
 . have ht:=g0a ht;have a9:L9 (gx [] L.2.2 t) n:=by have:=l3.2.2.2.2.2 _ (K8 (d:= []) t0 (show t<(L.2.2.length:Int)by omega));rwa[l2]at this
   have ac:L9 (gx [] U.2.2 t) n:=by have:=u3.2.2.2.2.2 _ (K8 (d:= []) t0 (show t<(U.2.2.length:Int)by omega));rwa[u2]at this
   have a8:=hL _ (K8 (d:= []) t0 (show t<(L.2.2.length:Int)by omega));have a1:((t.toNat:Nat):Int)=t:=by omega
   have lr:=F7h a9 (i:=t.toNat) (by omega);have ur:=G4z ac (i:=t.toNat);rw[a1]at lr ur;have a0:G0t L U n t.toNat↔((∀j:Nat,(j:Int)<n->t.toNat<j->C1 (gx [] L.2.2 t) (j:Int)=0)/\C1 (gx [] L.2.2 t) t=1)/\(∀j:Nat,j<t.toNat->C1 (gx [] U.2.2 t) (j:Int)=0)/\C1 (gx [] U.2.2 t) t≠0:=by
    unfold G0t el;rw[a1];exact(and_assoc (a:=∀j:Nat,(j:Int)<n->t.toNat<j->C1 (L.2.2.getD t.toNat []) (j:Int)=0)).symm
   rw[<-lr, <-ur]at a0;have a4:¬G0t L U n t.toNat->¬B4e (P,Q,L,U) n:=fun h hh=>h (a5.1 hh t.toNat (by omega))
   have u:∀ {v:List Ent},((v.length:Int)=0)↔v= []:=fun {v} =>⟨fun h=>g0m (by omega),fun h=>by rw[h];rfl⟩
   have hb:=A7t a9;have a3:(gx [] L.2.2 t)≠ []->i64.wrap (((gx [] L.2.2 t).length:Int)-1)=((gx [] L.2.2 t).length:Int)-1:=fun h=>by
    have:=g4n.2 h;exact wr (by omega) (by omega)
   refine⟨⟨t0,by omega⟩,⟨t0,by omega⟩,fun h=> ?_,fun h=> ?_,fun h=> ?_, ?_⟩
   . have h:=mt u.2 (g0b h);have:=g4n.2 h;rw[a3 h];omega
   . simp only[g1i]at h;have h:=mt u.2 (g0b h.1);have:=g4n.2 h;rw[a3 h];omega
   . simp only[g1i]at h;have h:=mt u.2 (g0b h.1);have ad:=g4n.2 h;rw[a3 h];exact⟨L5 (a8 _ (K8 (by omega) (by omega))) (by decide),ab⟩
   rintro⟨c,_⟩ hc;change Int at c;simp only at hc⊢;refine⟨fun h=>D6o (a4 fun hr=> ?_),fun h=>⟨fun hu=>⟨g0k _, ?_⟩,fun hu=>D6o (a4 fun hr=> ?_),fun hu=> ?_⟩⟩
   . obtain⟨⟨g1,g2,g3⟩,_⟩:=a0.1 hr;rw[a3 g1]at hc h;have e1:decide (((gx [] L.2.2 t).length:Int)=0)=false:=g1e (mt u.1 g1);have e2:decide ((gx dEE (gx [] L.2.2 t) (((gx [] L.2.2 t).length:Int)-1)).1≠t)=false:=g1e (by rw[g5d];exact g2);rw[e1,e2]at hc h;have hc:=(hc rfl).2;rw[a7,g3]at hc;rw[hc,F9i.2 rfl]at h;simp at h
   . have:=mt u.2 (g0b hu);have:=g4n.2 this;omega
   . obtain⟨_,g1,g2⟩:=a0.1 hr;rw[g1e (mt u.1 g1),g1e (by rw[g5d];exact g2)]at hu;simp at hu
   . simp only[g1i]at h hu;have e1:=mt u.2 (g0b h.1.1);rw[a3 e1]at hc h;have e2:=g5d.1 (g0b h.1.2);have e3:=g5d.1 (g0b h.2);have hc:=(hc (by rw[h.1.1,h.1.2];rfl)).2;rw[e3,a7]at hc;have f1:=mt u.2 (g0b hu.1);have f2:=g5d.1 (g0b hu.2);have hr:=a0.2 ⟨⟨e1,e2,F9i.1 hc.symm⟩,f1,f2⟩;rw[wr (by omega) (by omega)];refine⟨⟨by omega,by omega,fun i hi=> ?_⟩,by omega⟩;by_cases aa:i=t.toNat
     . subst aa;exact hr
     . exact hI i (by omega)
 . have ht:=g0b ht;exact⟨fun _=>a5.2 fun i hi=>hI i (by omega),fun _=>trivial⟩
noncomputable def C0i:L3:= [(99,Y4)]
def B9w:An:= {loop:= [(3,⟨[1,3,24],[0,1,2,3,4,5,6,7,8,9,10,13],[(25,false,vI)],[],[(11, .nest (.mp false (.int .i64) false .bool) 159 4),(12, .row (.int .i64) 3)]⟩),(13,⟨[3,5,44,45,46,59,60],[0,1,2,3,4,5,6,7,9,10,12,13],[(61,false,vI)],[],[(11, .nest (.mp false (.int .i64) false .bool) 159 4)]⟩),(9,⟨[3,44,45],[0,1,2,3,4,5,6,7,10,12,13],[(46,false,vI)],[],[(9, .row (.sl tE) 118),(11, .nest (.mp false (.int .i64) false .bool) 159 4)]⟩)],plan:= [(1,[1,4,7,10],[],true,(.p 0 (.q 1 (.p 3 (.q 4 (.p 6 (.q 7 (.p 9 (.q 10 (.al [2,5,8,11] [12] (.e 13 (.p 14 .done)))))))))))),(11,[3],[8],true,(pR 0 3 (.q 3 (.p 4 (.p 5 (.e 6 (.p 7 (.e 8 .done)))))))),(15,[3,5],[9],false,(pR 0 3 (.q 3 (.p 4 (.q 5 (.p 6 (.p 8 (.e 7 (.e 9 .done)))))))))]}
noncomputable def B1v:L3:= []
def B2q:An:= {plan:= [(1,[0,3,4,7,10],[],false,(.q 0 (.p 1 (.p 2 (.q 3 (.q 4 (.p 5 (.p 6 (.q 7 (.p 8 (.p 9 (.q 10 (.p 11 (.e 12 (.e 13 (.p 14 .done))))))))))))))))]}
noncomputable def B2d:L3:= []
def B2h:An:= {plan:= [(1,[0,3,4,7,10],[],false,(.q 0 (.p 1 (.p 2 (.q 3 (.q 4 (.p 5 (.p 6 (.q 7 (.p 8 (.p 9 (.q 10 (.p 11 (.e 12 (.e 13 (.p 14 .done))))))))))))))))]}
noncomputable def B2i:L3:= []
def B2k:An:= {plan:= [(1,[0,3,4,7,10],[],false,(.q 0 (.p 1 (.p 2 (.q 3 (.q 4 (.p 5 (.p 6 (.q 7 (.p 8 (.p 9 (.q 10 (.p 11 (.e 12 (.e 13 (.p 14 .done))))))))))))))))]}
noncomputable def B1x:L3:= []
def B2n:An:= {plan:= [(1,[0,3,4,7,10],[],false,(.q 0 (.p 1 (.p 2 (.q 3 (.q 4 (.p 5 (.p 6 (.q 7 (.p 8 (.p 9 (.q 10 (.p 11 (.e 12 (.e 13 (.p 14 .done))))))))))))))))]}
noncomputable def B9m:L3:= [(133,A6e (E2u ⟨prog,F4k⟩ [(20,B1v,B2q),(23,B2d,B2h),(28,B2i,B2k),(33,B1x,B2n)] f133.results.toList (f133.body.getD .skip) f133.ntmps))]
def C1k:An:= {join:= [(8,⟨[1,6,14,15],[1,2,3,4,5,6,7,9,10,13,14,15],[(5,false,vI)],[],[(11, .nest (.mp false (.int .i64) false .bool) 159 4)]⟩),(10,⟨[1,6],[1,2,3,4,5,6,7,9,10,13,14,15],[(5,false,vI)],[],[(11, .nest (.mp false (.int .i64) false .bool) 159 4)]⟩),(14,⟨[1,3],[1,2,3,4,5,6,7,15],[],[(13,137,[.fix 9, .fix 10, .fix 11, .own (.int .i64) 3])],[(9, .row (.sl tE) 118),(10, .nest (.sl tE) 118 120),(11, .nest (.mp false (.int .i64) false .bool) 159 4)]⟩),(20,⟨[3],[1,2,3,4,5,6,7,9,10,13,17],[(2,false,vI)],[],[(11, .nest (.mp false (.int .i64) false .bool) 159 4)]⟩)],loop:= [(4,⟨[1,6,14],[1,2,3,4,5,6,7,9,10,13,14,15],[(5,false,vI),(15,false,vI)],[],[(11, .nest (.mp false (.int .i64) false .bool) 159 4)]⟩),(16,⟨[1,3,66],[1,2,3,4,5,6,7,9,10,11,13,15,17],[(2,false,vI)],[],[(19, .itM false (.int .i64) false .bool 18)]⟩)],plan:= [(13,[1,4,7,10],[14,17],false,(.q 1 (.p 2 (.p 3 (.q 4 (.p 5 (.p 6 (.q 7 (.p 8 (.p 9 (.q 10 (pR 11 3 (.or 0 (.e 14 (.p 15 (.p 16 (.e 17 .done)))) (.e 14 (.e 0 (.p 15 (.p 16 (.e 17 .done)))))))))))))))))),(18,[3,6,9,11,14,17,22,25,28,30,33,36],[],true,(pR 0 3 (.q 3 (.p 4 (.p 5 (.q 6 (.p 7 (.p 8 (.q 9 (.p 10 (.q 11 (.p 12 (.p 13 (.q 14 (.p 15 (.p 16 (.q 17 (pR 18 4 (.q 22 (.p 23 (.p 24 (.q 25 (.p 26 (.p 27 (.q 28 (.p 29 (.q 30 (.p 31 (.p 32 (.q 33 (.p 34 (.p 35 (.q 36 (pR 37 8 .done))))))))))))))))))))))))))))))))))]}
noncomputable def B2b:L3:= []
def B2p:An:= {loop:= [(1,⟨[0,2,6,7],[1,2,3,4,5,6,7,9,10,13,15,16,17],[(8,false,vI)],[],[(11, .nest (.mp false (.int .i64) false .bool) 159 4)]⟩)],plan:= [(3,[0,3,5],[9],false,(.q 0 (.p 1 (.p 2 (.q 3 (.p 4 (.q 5 (.p 6 (.p 8 (.e 7 (.e 9 .done)))))))))))]}
noncomputable def B0l:L3:= []
def B0r:An:= {loop:= [(1,⟨[0,2,6,7],[1,2,3,4,5,6,7,9,10,13,15,16,17,18,19],[(8,false,vI)],[],[(11, .nest (.mp false (.int .i64) false .bool) 159 4)]⟩)],plan:= [(3,[0,3,5],[9],false,(.q 0 (.p 1 (.p 2 (.q 3 (.p 4 (.q 5 (.p 6 (.p 8 (.e 7 (.e 9 .done)))))))))))]}
noncomputable def C0h:L3:= [(33,U8),(98,U7),(135,U6),(136,A1a),(137,I3),(134,A6e (E2u ⟨prog,F4k⟩ [(29,B2b,B2p),(107,B0l,B0r)] f134.results.toList (f134.body.getD .skip) f134.ntmps))]
def B9u:An:= {join:= [(10,⟨[1,3,4,8,9,10],[1,2,3,4,5,6,7,9,10,13,15,16,17,18],[(12,false,[.own (.int .i64) 3])],[],[(11, .nest (.mp false (.int .i64) false .bool) 159 4)]⟩),(14,⟨[1,3,4,8,9,10,15,53,54,55],[1,2,3,4,5,6,7,9,10,11,13,15,16,17,18,19],[(16,false,[.fixB 20])],[(20,38,[.val .bool, .val (.sl (.int .u32)), .val (.sl (.int .u32))])],[]⟩),(15,⟨[1,3,4,8,9,10,15,16,53,54,55],[1,2,3,4,5,6,7,9,11,13,15,16,17,18,19,20],[],[],[(10, .nest (.sl tE) 118 120)]⟩)],loop:= [(7,⟨[1,3,4,8,9,10,44],[1,2,3,4,5,6,7,9,10,11,13,15,16,17,18],[(12,false,[.own (.int .i64) 3])],[],[(20, .itM false (.int .i64) false .bool 19)]⟩),(18,⟨[1,3,4,8,9,10,15,53,54,55,114,115],[1,2,3,4,5,6,7,9,10,13,15,16,17,18,19],[(116,false,vI)],[],[(11, .nest (.mp false (.int .i64) false .bool) 159 4)]⟩),(11,⟨[1,3,4,8,9,10,53,54],[1,2,3,4,5,6,7,13,15,16,17,18,19],[(55,false,vI)],[],[(9, .row (.sl tE) 118),(10, .nest (.sl tE) 118 120),(11, .nest (.mp false (.int .i64) false .bool) 159 4)]⟩)],plan:= [(13,[0,3,6,9],[12],true,(.q 0 (.p 1 (.p 2 (.q 3 (.p 4 (.p 5 (.q 6 (.p 7 (.q 9 (.or 8 (.or 10 (.e 11 (.e 12 .done)) (.e 11 (.e 10 (.e 12 .done)))) (.e 11 (.e 8 (.e 10 (.e 12 .done))))))))))))))),(14,[5,8,13],[16,18],false,(.p 4 (.q 5 (.p 6 (.p 7 (.q 8 (.p 9 (.p 10 (.p 12 (.q 13 (.p 14 (.or 0 (.p 1 (.p 2 (.or 3 (.or 11 (.e 15 (.e 16 (.p 17 (.e 18 .done)))) (.e 15 (.e 11 (.e 16 (.p 17 (.e 18 .done)))))) (.or 11 (.or 3 (.e 15 (.e 16 (.p 17 (.e 18 .done)))) (.e 15 (.or 3 (.e 16 (.p 17 (.e 18 .done))) (.e 16 (.e 3 (.p 17 (.e 18 .done))))))) (.e 15 (.or 3 (.e 11 (.e 16 (.p 17 (.e 18 .done)))) (.e 11 (.or 3 (.e 16 (.p 17 (.e 18 .done))) (.e 16 (.e 3 (.p 17 (.e 18 .done)))))))))))) (.or 11 (.or 0 (.p 1 (.p 2 (.or 3 (.e 15 (.e 16 (.p 17 (.e 18 .done)))) (.e 15 (.or 3 (.e 16 (.p 17 (.e 18 .done))) (.e 16 (.e 3 (.p 17 (.e 18 .done))))))))) (.e 15 (.or 0 (.p 1 (.p 2 (.or 3 (.e 16 (.p 17 (.e 18 .done))) (.e 16 (.e 3 (.p 17 (.e 18 .done))))))) (.e 16 (.e 0 (.p 1 (.p 2 (.e 3 (.p 17 (.e 18 .done)))))))))) (.e 15 (.or 0 (.p 1 (.p 2 (.or 3 (.e 11 (.e 16 (.p 17 (.e 18 .done)))) (.e 11 (.or 3 (.e 16 (.p 17 (.e 18 .done))) (.e 16 (.e 3 (.p 17 (.e 18 .done))))))))) (.e 11 (.or 0 (.p 1 (.p 2 (.or 3 (.e 16 (.p 17 (.e 18 .done))) (.e 16 (.e 3 (.p 17 (.e 18 .done))))))) (.e 16 (.e 0 (.p 1 (.p 2 (.e 3 (.p 17 (.e 18 .done)))))))))))))))))))))))),(15,[0,3,5,8,11,12,14],[17],true,(.q 0 (.p 1 (.p 2 (.q 3 (.p 4 (.q 5 (.p 6 (.p 7 (.q 8 (.p 9 (.p 10 (.q 11 (.q 12 (.q 14 (.e 13 (.e 15 (.p 16 (.e 17 .done))))))))))))))))))),(20,[0,3,5],[9],false,(.q 0 (.p 1 (.p 2 (.q 3 (.p 4 (.q 5 (.p 6 (.p 8 (.e 7 (.e 9 .done)))))))))))]}
def B1m:An:= {join:= [(13,⟨[2,5,6,7,8,45,46],[1,2,3,4,5,6,7],[(9,false,vI),(10,false,vI),(11,false,[.val .bool])],[(13,137,[.fix 9, .fix 10, .fix 11, .own (.int .i64) 3])],[(9, .row (.sl tE) 118),(10, .nest (.sl tE) 118 120),(11, .nest (.mp false (.int .i64) false .bool) 159 4)]⟩),(16,⟨[2,5,6,7,8,9,10,45,46],[1,4,5,6,9,10,11,13,15],[],[],[(2, .row (.int .i64) 3),(3, .row (.int .i64) 3),(7, .row (.int .i64) 3)]⟩),(22,⟨[2,5,6,7,12,13,79,80,81],[1,2,3,5,6,9,11,13,14],[],[],[(4, .row (.sl tE) 118),(10, .nest (.sl tE) 118 120)]⟩)],loop:= [(10,⟨[2,5,6,7,45],[1,4,5,6],[(46,false,vI)],[(13,137,[.fix 9, .fix 10, .fix 11, .own (.int .i64) 3])],[(2, .row (.int .i64) 3),(3, .row (.int .i64) 3),(7, .row (.int .i64) 3),(9, .row (.sl tE) 118),(10, .nest (.sl tE) 118 120),(11, .nest (.mp false (.int .i64) false .bool) 159 4)]⟩),(19,⟨[2,5,7,79,80],[1,2,3,6,9,11,13,14],[(6,false,[.val (.sl (.int .i64))]),(81,false,vI)],[],[(4, .row (.sl tE) 118),(5, .row (.sl tE) 118),(10, .nest (.sl tE) 118 120)]⟩)],plan:= [(6,[],[16],true,(.p 0 (.p 2 (pR 4 3 (pR 9 3 (.al [1,3,7,12,15] [8,13,14] (.e 16 .done))))))),(15,[1],[12,14,16],false,(.p 0 (.q 1 (.p 2 (.p 3 (pR 5 7 (.or 4 (.e 12 (.p 13 (.e 14 (.p 15 (.e 16 .done))))) (.e 12 (.e 4 (.p 13 (.e 14 (.p 15 (.e 16 .done))))))))))))),(21,[7],[15,17],false,(.p 0 (.p 1 (pR 3 4 (.q 7 (.p 8 (.p 9 (.p 11 (.or 2 (.or 10 (.e 12 (.p 13 (.e 14 (.e 15 (.p 16 (.e 17 .done)))))) (.e 12 (.p 13 (.or 10 (.e 14 (.e 15 (.p 16 (.e 17 .done)))) (.e 14 (.e 10 (.e 15 (.p 16 (.e 17 .done))))))))) (.or 10 (.or 2 (.e 12 (.p 13 (.e 14 (.e 15 (.p 16 (.e 17 .done)))))) (.e 12 (.p 13 (.or 2 (.e 14 (.e 15 (.p 16 (.e 17 .done)))) (.e 14 (.or 2 (.e 15 (.p 16 (.e 17 .done))) (.e 15 (.e 2 (.p 16 (.e 17 .done)))))))))) (.e 12 (.p 13 (.or 2 (.or 10 (.e 14 (.e 15 (.p 16 (.e 17 .done)))) (.e 14 (.e 10 (.e 15 (.p 16 (.e 17 .done)))))) (.or 10 (.or 2 (.e 14 (.e 15 (.p 16 (.e 17 .done)))) (.e 14 (.or 2 (.e 15 (.p 16 (.e 17 .done))) (.e 15 (.e 2 (.p 16 (.e 17 .done))))))) (.e 14 (.or 2 (.e 10 (.e 15 (.p 16 (.e 17 .done)))) (.e 10 (.or 2 (.e 15 (.p 16 (.e 17 .done))) (.e 15 (.e 2 (.p 16 (.e 17 .done)))))))))))))))))))))),(22,[2,7,10],[17],true,(.p 0 (.p 1 (.q 2 (pR 3 4 (.q 7 (.p 8 (.p 9 (.q 10 (.p 11 (.e 12 (pR 13 4 (.e 17 .done)))))))))))))]}
noncomputable def B1e:L3:= [(45,I2),(100,O3),(112,M7),(109,A6e (E2u ⟨prog,F4k⟩ [(44,C0i,B9w)] f109.results.toList (f109.body.getD .skip) f109.ntmps)),(110,A6e (E2u ⟨prog,F4k⟩ [(51,B9m,C1k)] f110.results.toList (f110.body.getD .skip) f110.ntmps)),(111,A6e (E2u ⟨prog,F4k⟩ [(76,C0h,B9u)] f111.results.toList (f111.body.getD .skip) f111.ntmps))]
def A4n:A9 L2.args->Prop:=fun(x:MM×Unit)=>let bg:=(64:Nat);let bd:=(281474976710656:Int);let ba:=x.1.2.1.toNat;let a6:=(6:Int);let a5:=(4:Int);let a4:=(9223372036854775807:Int);let ar:=(x.1.2.2.length:Int);let aa:=x.1.1.toNat;let X:=(140737488355328:Nat);let R:Prop:=(∀(v:List EE),v∈ []->C4u v);let E:=(1:Int);let d:=(0:Int);let V:Prop:=(d<=x.1.2.1/\x.1.2.1<=x.1.2.1/\(↑(8:Nat):Int)*x.1.2.1<=bd/\x.1.2.1<=a4);let G:Prop:=(d<=x.1.1/\x.1.1<=x.1.1/\(↑(8:Nat):Int)*x.1.1<=bd/\x.1.1<=a4);let D:Prop:=(∀(s:Nat),(1:Nat)<=s->okM s x.1->∀(i j:Nat),i<x.1.1.toNat->qs (sK s x.1.1.toNat) (el (d,d,[]) i j)/\qs (sK s i) (el (d,d,[]) i j));let u:Prop:=(d<=x.1.1/\x.1.1<=x.1.1/\(↑(24:Nat):Int)*x.1.1<=bd/\x.1.1<=a4);True/\∀(r:Bool×Unit),True/\True->r.1=decide (F6 x.1)->((!r.1)=true->(¬F6 x.1->([],[],(d,d,[]),d,d,[])=zLU/\E=E)/\(F6 x.1->(x.1.1≠x.1.2.1->([],[],(d,d,[]),d,d,[])=zLU/\E=a5)/\(x.1.1=x.1.2.1->(¬nonsing x.1.1.toNat (el x.1)->([],[],(d,d,[]),d,d,[])=zLU/\E=a6)/\(nonsing x.1.1.toNat (el x.1)->B4e ([],[],(d,d,[]),d,d,[]) x.1.1/\E=d/\R/\R/\D/\∀(i j:Nat),i<x.1.1.toNat->j<x.1.1.toNat->luM ([],[],(d,d,[]),d,d,[]) x.1.1.toNat i j=el x.1 (ix [] i) (ix [] j)))))/\((!r.1)=false->(decide (x.1.1≠x.1.2.1)=true->(¬F6 x.1->([],[],(d,d,[]),d,d,[])=zLU/\a5=E)/\(F6 x.1->(x.1.1≠x.1.2.1->([],[],(d,d,[]),d,d,[])=zLU/\a5=a5)/\(x.1.1=x.1.2.1->(¬nonsing x.1.1.toNat (el x.1)->([],[],(d,d,[]),d,d,[])=zLU/\a5=a6)/\(nonsing x.1.1.toNat (el x.1)->B4e ([],[],(d,d,[]),d,d,[]) x.1.1/\a5=d/\R/\R/\D/\∀(i j:Nat),i<x.1.1.toNat->j<x.1.1.toNat->luM ([],[],(d,d,[]),d,d,[]) x.1.1.toNat i j=el x.1 (ix [] i) (ix [] j)))))/\(decide (x.1.1≠x.1.2.1)=false->G/\G/\u/\u/\G/\u/\u/\V/\V/\∃(I:Int×(List (List (Int×Bool))×List Nat)×List Int×Unit->Prop),∃(μ: _->Nat),I (d,(List.replicate ba [],B8n (Ty.mp false (Ty.int i64) false Ty.bool) ba),List.replicate ba d,())/\∀(p:Int×(List (List (Int×Bool))×List Nat)×List Int×Unit),let ap:=p.1.toNat;(Ty.int i64).wf p.1/\p.2.1.1.length.le 9223372036854775807/\WfI p.2.2.1/\True->I p->(decide (p.1<x.1.2.1)=true->(d<=p.1/\p.1<(↑p.2.1.1.length:Int))/\(d<=p.1/\p.1<(p.2.2.1.length:Int))/\I (i64.wrap (p.1+E),(p.2.1.1.set ap [],D6i ap p.2.1.2),List.set p.2.2.1 ap p.1,())/\μ (i64.wrap (p.1+E),(p.2.1.1.set ap [],D6i ap p.2.1.2),List.set p.2.2.1 ap p.1,())<μ p)/\(decide (p.1<x.1.2.1)=false->∃(I:Int×List (List EE)×(List (List (Int×Bool))×List Nat)×Unit->Prop),∃(μ: _->Nat),I (d,List.replicate aa [],p.2.1,())/\∀(bn:Int×List (List EE)×(List (List (Int×Bool))×List Nat)×Unit),let F:=(gx [] x.1.2.2 bn.1);let bl:=(↑F.length:Int);(Ty.int i64).wf bn.1/\F3k bn.2.1/\bn.2.2.1.1.length.le 9223372036854775807/\True->I bn->(decide (bn.1<ar)=true->(d<=bn.1/\bn.1<ar)/\F7y F/\∀(r:List EE×Unit),D9m r.1/\True->isC (C1 F) r.1->(d<=bn.1/\bn.1<(bn.2.1.length:Int))/\∃(I_1:Int×(List (List (Int×Bool))×List Nat)×Unit->Prop),∃(bt: _->Nat),I_1 (d,bn.2.2.1,())/\∀(p:Int×(List (List (Int×Bool))×List Nat)×Unit),let be:=(gx dEE F p.1);let al:=be.1.toNat;let ak:=(i64.wrap (bn.1+E),List.set bn.2.1 bn.1.toNat r.1,p.2.1,());(Ty.int i64).wf p.1/\p.2.1.1.length.le 9223372036854775807/\True->I_1 p->(decide (p.1<bl)=true->(d<=p.1/\p.1<bl)/\(d<=be.1/\be.1<(↑p.2.1.1.length:Int))/\¬Int.toNat be.1∈p.2.1.2/\I_1 (i64.wrap (p.1+E),(p.2.1.1.set al (B6o (Ty.int i64) bn.1 true (p.2.1.1.getD al [])),p.2.1.2),())/\bt (i64.wrap (p.1+E),(p.2.1.1.set al (B6o (Ty.int i64) bn.1 true (p.2.1.1.getD al [])),p.2.1.2),())<bt p)/\(decide (p.1<bl)=false->I ak/\μ ak<μ bn))/\(decide (bn.1<ar)=false->∃(I:Int×List Int×List Int×List Int×List Int×List (List EE)×(List (List EE)×List Nat)×(List (List (Int×Bool))×List Nat)×Unit->Prop),∃(μ: _->Nat),I (d,p.2.2.1,List.replicate aa d,List.replicate aa d,List.replicate aa d,bn.2.1,(List.replicate aa [],B8n tE.sl aa),bn.2.2.1,())/\∀(b2:Int×List Int×List Int×List Int×List Int×List (List EE)×(List (List EE)×List Nat)×(List (List (Int×Bool))×List Nat)×Unit),let aw:Prop:=(d<=b2.1/\b2.1<(b2.2.2.2.1.length:Int));let ab:=(b2.2.2.1.length:Int);let w:=(↑b2.2.1.length:Int);(Ty.int i64).wf b2.1/\(Ty.int i64).sl.wf b2.2.1/\WfI b2.2.2.1/\WfI b2.2.2.2.1/\WfI b2.2.2.2.2.1/\F3k b2.2.2.2.2.2.1/\b2.2.2.2.2.2.2.1.1.length.le 9223372036854775807/\b2.2.2.2.2.2.2.2.1.1.length.le 9223372036854775807/\True->I b2->(decide (b2.1<x.1.1)=true->∃(J:Int×Int×Bool×List Int×List (List EE)×(List (List EE)×List Nat)×(List (List (Int×Bool))×List Nat)×Unit->Prop),(∃(J_1:Int×(List (List (Int×Bool))×List Nat)×Unit->Prop),(∃(I:Int×Int×(List (List (Int×Bool))×List Nat)×Unit->Prop),∃(μ: _->Nat),I (d,d,b2.2.2.2.2.2.2.2.1,())/\∀(b1:Int×Int×(List (List (Int×Bool))×List Nat)×Unit),let bk:=(↑b1.2.2.1.1.length:Int);let Z:=b1.1.toNat;let z:=b1.2.1.toNat;let K:Prop:=((↑(b1.2.2.1.1.getD (b2.2.1.getD z d).toNat []).length:Int)<(↑((b1.2.2.1.1.set (b2.2.1.getD z d).toNat (b1.2.2.1.1.getD (b2.2.1.getD z d).toNat [])).getD (b2.2.1.getD Z d).toNat []).length:Int));(Ty.int i64).wf b1.1/\(Ty.int i64).wf b1.2.1/\b1.2.2.1.1.length.le 9223372036854775807/\True->I b1->(decide (b1.2.1<w)=true->∃(J:Int×(List (List (Int×Bool))×List Nat)×Unit->Prop),((d<=b1.2.1/\b1.2.1<w)/\(d<=b2.2.1.getD z d/\b2.2.1.getD z d<bk)/\¬(b2.2.1.getD z d).toNat∈b1.2.2.1.2/\(b1.2.2.1.1.getD (b2.2.1.getD z d).toNat []).length<=9223372036854775807/\(d<=b1.1/\b1.1<w)/\(d<=b2.2.1.getD Z d/\b2.2.1.getD Z d<bk)/\¬(b2.2.1.getD Z d).toNat∈b1.2.2.1.2/\((b1.2.2.1.1.set (b2.2.1.getD z d).toNat (b1.2.2.1.1.getD (b2.2.1.getD z d).toNat [])).getD (b2.2.1.getD Z d).toNat []).length<=9223372036854775807/\(decide K=true->J (b1.2.1,((b1.2.2.1.1.set (b2.2.1.getD z d).toNat (b1.2.2.1.1.getD (b2.2.1.getD z d).toNat [])).set (b2.2.1.getD Z d).toNat ((b1.2.2.1.1.set (b2.2.1.getD z d).toNat (b1.2.2.1.1.getD (b2.2.1.getD z d).toNat [])).getD (b2.2.1.getD Z d).toNat []),b1.2.2.1.2),()))/\(decide K=false->J (b1.1,((b1.2.2.1.1.set (b2.2.1.getD z d).toNat (b1.2.2.1.1.getD (b2.2.1.getD z d).toNat [])).set (b2.2.1.getD Z d).toNat ((b1.2.2.1.1.set (b2.2.1.getD z d).toNat (b1.2.2.1.1.getD (b2.2.1.getD z d).toNat [])).getD (b2.2.1.getD Z d).toNat []),b1.2.2.1.2),())))/\∀(b5:Int×(List (List (Int×Bool))×List Nat)×Unit),let Q:=b5.1.toNat;let au:Prop:=((↑(b5.2.1.1.getD (b2.2.1.getD Q d).toNat []).length:Int)<=E);(Ty.int i64).wf b5.1/\b5.2.1.1.length.le 9223372036854775807/\True->J b5->(d<=b5.1/\b5.1<w)/\(d<=b2.2.1.getD Q d/\b2.2.1.getD Q d<(↑b5.2.1.1.length:Int))/\¬(b2.2.1.getD Q d).toNat∈b5.2.1.2/\(b5.2.1.1.getD (b2.2.1.getD Q d).toNat []).length<=9223372036854775807/\(decide au=true->J_1 (b5.1,(b5.2.1.1.set (b2.2.1.getD Q d).toNat (b5.2.1.1.getD (b2.2.1.getD Q d).toNat []),b5.2.1.2),()))/\(decide au=false->I (b5.1,i64.wrap (b1.2.1+E),(b5.2.1.1.set (b2.2.1.getD Q d).toNat (b5.2.1.1.getD (b2.2.1.getD Q d).toNat []),b5.2.1.2),())/\μ (b5.1,i64.wrap (b1.2.1+E),(b5.2.1.1.set (b2.2.1.getD Q d).toNat (b5.2.1.1.getD (b2.2.1.getD Q d).toNat []),b5.2.1.2),())<μ b1))/\(decide (b1.2.1<w)=false->J_1 (b1.1,b1.2.2.1,())))/\∀(b1:Int×(List (List (Int×Bool))×List Nat)×Unit),let am:=(i64.wrap (b1.1+E));let H:Prop:=((Int.toNat b1.1+(List.drop am.toNat (List.take w.toNat b2.2.1)).length)*(8:Nat)<=X/\Int.toNat b1.1+(List.drop am.toNat (List.take w.toNat b2.2.1)).length<=9223372036854775807);let B:=b1.1.toNat;let av:=(↑(b1.2.1.1.getD (b2.2.1.getD B d).toNat []).length:Int);(Ty.int i64).wf b1.1/\b1.2.1.1.length.le 9223372036854775807/\True->J_1 b1->(d<=b1.1/\b1.1<w)/\(d<=b2.2.1.getD B d/\b2.2.1.getD B d<(↑b1.2.1.1.length:Int))/\¬(b2.2.1.getD B d).toNat∈b1.2.1.2/\(b1.2.1.1.getD (b2.2.1.getD B d).toNat []).length<=9223372036854775807/\(decide (av=d)=true->J (d,d,false,b2.2.1,b2.2.2.2.2.2.1,b2.2.2.2.2.2.2.1,(b1.2.1.1.set (b2.2.1.getD B d).toNat (b1.2.1.1.getD (b2.2.1.getD B d).toNat []),b1.2.1.2),()))/\(decide (av=d)=false->(d<=b1.1/\b1.1<w)/\∃(J_2:List Int×List (List EE)×(List (List EE)×List Nat)×(List (List (Int×Bool))×List Nat)×Unit->Prop),((d<=d/\d<=b1.1/\b1.1<=w)/\(d<=i64.wrap (b1.1+E)/\i64.wrap (b1.1+E)<=w/\w<=w)/\(H/\J_2 (List.take B b2.2.1++List.drop am.toNat (List.take w.toNat b2.2.1),b2.2.2.2.2.2.1,b2.2.2.2.2.2.2.1,(b1.2.1.1.set (b2.2.1.getD B d).toNat (b1.2.1.1.getD (b2.2.1.getD B d).toNat []),b1.2.1.2),()))/\H/\J_2 (List.take B b2.2.1++List.drop am.toNat (List.take w.toNat b2.2.1),b2.2.2.2.2.2.1,b2.2.2.2.2.2.2.1,(b1.2.1.1.set (b2.2.1.getD B d).toNat (b1.2.1.1.getD (b2.2.1.getD B d).toNat []),b1.2.1.2),()))/\∀(b5:List Int×List (List EE)×(List (List EE)×List Nat)×(List (List (Int×Bool))×List Nat)×Unit),let ag:=(b5.2.1.length:Int);(Ty.int i64).sl.wf b5.1/\F3k b5.2.1/\b5.2.2.1.1.length.le 9223372036854775807/\b5.2.2.2.1.1.length.le 9223372036854775807/\True->J_2 b5->∃(J_3:Int×(List (List (Int×Bool))×List Nat)×Unit->Prop),((d<=b2.2.1.getD B d/\b2.2.1.getD B d<(↑b5.2.2.2.1.1.length:Int))/\¬(b2.2.1.getD B d).toNat∈b5.2.2.2.1.2/\∃(I:Int×(List (Int×Bool)×List (Int×Bool))×Unit->Prop),∃(μ: _->Nat),I ((-1:Int),(b5.2.2.2.1.1.getD (b2.2.1.getD B d).toNat [],b5.2.2.2.1.1.getD (b2.2.1.getD B d).toNat []),())/\∀(b6:Int×(List (Int×Bool)×List (Int×Bool))×Unit),let a0:=(decide (b6.1<d));let ay:=(↑(List.getD b5.2.1 b6.1.toNat []).length:Int);(Ty.int i64).wf b6.1/\(∀(x:Int×Bool),x∈b6.2.1.2->G1 x.1/\True)/\True->I b6->(b6.2.1.2= []->(false=true->False)/\(false=false->J_3 (b6.1,(b5.2.2.2.1.1.set (b2.2.1.getD B d).toNat b6.2.1.1,b5.2.2.2.1.2),())))/\∀(l1:List (Int×Bool)) (y:Int×Bool) (l2:List (Int×Bool)),let az:=(↑(List.getD b5.2.1 y.1.toNat []).length:Int);let aq:=(b6.2.1.1,l1++l2);let U:=(sel (decide (az=ay)) (decide (y.1<b6.1)) false);let A:=(decide (az<ay));b6.2.1.2=l1++y::l2->(true=true->(decide (b6.1<d)=false->d<=y.1/\y.1<ag)/\(decide (b6.1<d)=false->d<=b6.1/\b6.1<ag)/\(sel a0 true A=false->d<=y.1/\y.1<ag)/\(sel a0 true A=false->d<=b6.1/\b6.1<ag)/\(sel (sel a0 true A) true U=true->I (y.1,aq,())/\μ (y.1,aq,())<μ b6)/\(sel (sel a0 true A) true U=false->I (b6.1,aq,())/\μ (b6.1,aq,())<μ b6))/\(true=false->J_3 (b6.1,(b5.2.2.2.1.1,(b2.2.1.getD B d).toNat::b5.2.2.2.1.2),())))/\∀(p:Int×(List (List (Int×Bool))×List Nat)×Unit),(Ty.int i64).wf p.1/\p.2.1.1.length.le 9223372036854775807/\True->J_3 p->J (p.1,b2.2.1.getD B d,true,b5.1,b5.2.1,b5.2.2.1,p.2.1,())))/\∀(b1:Int×Int×Bool×List Int×List (List EE)×(List (List EE)×List Nat)×(List (List (Int×Bool))×List Nat)×Unit),let ax:=b1.2.1.toNat;let ao:Prop:=(d<=b1.2.1/\b1.2.1<(b2.2.2.2.2.1.length:Int));let S:=(List.set b2.2.2.1 b2.1.toNat b1.1,List.set b2.2.2.2.1 b2.1.toNat b1.2.1,List.set b2.2.2.2.2.1 ax b2.1,());let g:=(List.getD b1.2.2.2.2.1 b1.1.toNat []);let an:=(↑g.length:Int);(Ty.int i64).wf b1.1/\(Ty.int i64).wf b1.2.1/\Ty.bool.wf b1.2.2.1/\(Ty.int i64).sl.wf b1.2.2.2.1/\F3k b1.2.2.2.2.1/\b1.2.2.2.2.2.1.1.length.le 9223372036854775807/\b1.2.2.2.2.2.2.1.1.length.le 9223372036854775807/\True->J b1->((!b1.2.2.1)=true->(¬F6 x.1->([],[],(d,d,[]),d,d,[])=zLU/\a6=E)/\(F6 x.1->(x.1.1≠x.1.2.1->([],[],(d,d,[]),d,d,[])=zLU/\a6=a5)/\(x.1.1=x.1.2.1->(¬nonsing x.1.1.toNat (el x.1)->([],[],(d,d,[]),d,d,[])=zLU/\a6=a6)/\(nonsing x.1.1.toNat (el x.1)->B4e ([],[],(d,d,[]),d,d,[]) x.1.1/\a6=d/\R/\R/\D/\∀(i j:Nat),i<x.1.1.toNat->j<x.1.1.toNat->luM ([],[],(d,d,[]),d,d,[]) x.1.1.toNat i j=el x.1 (ix [] i) (ix [] j)))))/\((!b1.2.2.1)=false->∃(J:List Int×List Int×List Int×Unit->Prop),((d<=b2.1/\b2.1<ab)/\(aw/\ao/\J S)/\aw/\ao/\J S)/\∀(b5:List Int×List Int×List Int×Unit),WfI b5.1/\WfI b5.2.1/\WfI b5.2.2.1/\True->J b5->(d<=b1.1/\b1.1<(b1.2.2.2.2.1.length:Int))/\∃(I_1:Int×(List (List (Int×Bool))×List Nat)×Unit->Prop),∃(bt: _->Nat),I_1 (d,b1.2.2.2.2.2.2.1,())/\∀(b6:Int×(List (List (Int×Bool))×List Nat)×Unit),let bm:=(↑b6.2.1.1.length:Int);let ai:=(gx dEE g b6.1);let a7:=ai.1.toNat;(Ty.int i64).wf b6.1/\b6.2.1.1.length.le 9223372036854775807/\True->I_1 b6->(decide (b6.1<an)=true->(d<=b6.1/\b6.1<an)/\(d<=ai.1/\ai.1<bm)/\¬Int.toNat ai.1∈b6.2.1.2/\I_1 (i64.wrap (b6.1+E),(b6.2.1.1.set a7 (D5s (Ty.int i64) b1.1 (b6.2.1.1.getD a7 [])),b6.2.1.2),())/\bt (i64.wrap (b6.1+E),(b6.2.1.1.set a7 (D5s (Ty.int i64) b1.1 (b6.2.1.1.getD a7 [])),b6.2.1.2),())<bt b6)/\(decide (b6.1<an)=false->okV K1 g/\∀(bp:QQ×Unit),WfQ bp.1/\True->bp.1=rc (C1 g b1.2.1)->sh3 bp.1/\∀(bq:QQ×Bool×Unit),WfQ bq.1/\True/\True->(rv bp.1=(0:Rat)->bq.2.1=false)/\(rv bp.1≠(0:Rat)->bq.1=rc (rv bp.1)⁻¹/\bq.2.1=true)->∃(J:List Int×(List (List (Int×Bool))×List Nat)×Unit->Prop),((d<=b1.2.1/\b1.2.1<bm)/\¬Int.toNat b1.2.1∈b6.2.1.2/\∃(I:List Int×(List (Int×Bool)×List (Int×Bool))×Unit->Prop),∃(μ: _->Nat),I ([],(b6.2.1.1.getD ax [],b6.2.1.1.getD ax []),())/\∀(p:List Int×(List (Int×Bool)×List (Int×Bool))×Unit),(Ty.int i64).sl.wf p.1/\(∀(x:Int×Bool),x∈p.2.1.2->G1 x.1/\True)/\True->I p->(p.2.1.2= []->(false=true->False)/\(false=false->J (p.1,(b6.2.1.1.set ax p.2.1.1,b6.2.1.2),())))/\∀(l1:List (Int×Bool)) (y:Int×Bool) (l2:List (Int×Bool)),let a9:=(p.1++ [y.1],(p.2.1.1,l1++l2),());p.2.1.2=l1++y::l2->(true=true->((p.1.length+ [y.1].length)*(8:Nat)<=X/\p.1.length+ [y.1].length<=9223372036854775807)/\I a9/\μ a9<μ p)/\(true=false->J (p.1,(b6.2.1.1,Int.toNat b1.2.1::b6.2.1.2),())))/\∀(b3:List Int×(List (List (Int×Bool))×List Nat)×Unit),let bb:=(↑b3.1.length:Int);(Ty.int i64).sl.wf b3.1/\b3.2.1.1.length.le 9223372036854775807/\True->J b3->∃(I_2:Int×List (List EE)×(List (List EE)×List Nat)×(List (List (Int×Bool))×List Nat)×Unit->Prop),∃(bv: _->Nat),I_2 (d,b1.2.2.2.2.1,b1.2.2.2.2.2.1,b3.2.1,())/\∀(b4:Int×List (List EE)×(List (List EE)×List Nat)×(List (List (Int×Bool))×List Nat)×Unit),let Y:=(i64.wrap (b2.1+E),b1.2.2.2.1,b5.1,b5.2.1,b5.2.2.1,b4.2.1,b4.2.2.1,b4.2.2.2.1,());let e:=b4.1.toNat;let W:Prop:=(d<=b3.1.getD e d/\b3.1.getD e d<(b4.2.1.length:Int));let L:=(List.getD b4.2.1 (b3.1.getD e d).toNat []);let h:Prop:=(d<=b3.1.getD e d/\b3.1.getD e d<(↑b4.2.2.1.1.length:Int));(Ty.int i64).wf b4.1/\F3k b4.2.1/\b4.2.2.1.1.length.le 9223372036854775807/\b4.2.2.2.1.1.length.le 9223372036854775807/\True->I_2 b4->(decide (b4.1<bb)=true->(d<=b4.1/\b4.1<bb)/\∃(J:Bool×List Int×List Int×Unit->Prop),(W/\(okV K1 L/\∀(r:QQ×Unit),WfQ r.1/\True->r.1=rc (C1 L b1.2.1)->((sh3 r.1/\sh3 bq.1)/\∀(b9:QQ×Unit),WfQ b9.1/\True->b9.1=rc (rv r.1*rv bq.1)->J (b9.1.1.1,b9.1.1.2,b9.1.2,()))/\(sh3 r.1/\sh3 bq.1)/\∀(b9:QQ×Unit),WfQ b9.1/\True->b9.1=rc (rv r.1*rv bq.1)->J (b9.1.1.1,b9.1.1.2,b9.1.2,()))/\okV K1 L/\∀(r:QQ×Unit),WfQ r.1/\True->r.1=rc (C1 L b1.2.1)->(sh3 r.1/\sh3 bq.1)/\∀(b9:QQ×Unit),WfQ b9.1/\True->b9.1=rc (rv r.1*rv bq.1)->J (b9.1.1.1,b9.1.1.2,b9.1.2,()))/\∀(bs:Bool×List Int×List Int×Unit),let bf:=(bs.1,bs.2.1);let l:=(b2.1,bf,bs.2.2.1);let a:Prop:=(((b4.2.2.1.1.getD (b3.1.getD e d).toNat []).length+ [l].length)*bg<=X/\(b4.2.2.1.1.getD (b3.1.getD e d).toNat []).length+ [l].length<=9223372036854775807);Ty.bool.wf bs.1/\(Ty.int u32).sl.wf bs.2.1/\(Ty.int u32).sl.wf bs.2.2.1/\True->J bs->∃(J:(List (List EE)×List Nat)×Unit->Prop),let n:Prop:=(¬(b3.1.getD e d).toNat∈b4.2.2.1.2/\a/\h/\(b3.1.getD e d).toNat=(b3.1.getD e d).toNat/\J ((b4.2.2.1.1.set (b3.1.getD e d).toNat (b4.2.2.1.1.getD (b3.1.getD e d).toNat []++ [l]),b4.2.2.1.2),()));let c:Prop:=(a/\h/\(b3.1.getD e d).toNat=(b3.1.getD e d).toNat/\J ((b4.2.2.1.1.set (b3.1.getD e d).toNat (b4.2.2.1.1.getD (b3.1.getD e d).toNat []++ [l]),b4.2.2.1.2),()));let P:Prop:=(c/\a/\h/\(b3.1.getD e d).toNat=(b3.1.getD e d).toNat/\J ((b4.2.2.1.1.set (b3.1.getD e d).toNat (b4.2.2.1.1.getD (b3.1.getD e d).toNat []++ [l]),b4.2.2.1.2),()));(h/\((n/\¬(b3.1.getD e d).toNat∈b4.2.2.1.2/\a/\h/\(b3.1.getD e d).toNat=(b3.1.getD e d).toNat/\J ((b4.2.2.1.1.set (b3.1.getD e d).toNat (b4.2.2.1.1.getD (b3.1.getD e d).toNat []++ [l]),b4.2.2.1.2),()))/\(¬(b3.1.getD e d).toNat∈b4.2.2.1.2/\c/\c/\a/\h/\(b3.1.getD e d).toNat=(b3.1.getD e d).toNat/\J ((b4.2.2.1.1.set (b3.1.getD e d).toNat (b4.2.2.1.1.getD (b3.1.getD e d).toNat []++ [l]),b4.2.2.1.2),()))/\n/\¬(b3.1.getD e d).toNat∈b4.2.2.1.2/\c/\a/\h/\(b3.1.getD e d).toNat=(b3.1.getD e d).toNat/\J ((b4.2.2.1.1.set (b3.1.getD e d).toNat (b4.2.2.1.1.getD (b3.1.getD e d).toNat []++ [l]),b4.2.2.1.2),()))/\(¬(b3.1.getD e d).toNat∈b4.2.2.1.2/\(c/\c/\a/\h/\(b3.1.getD e d).toNat=(b3.1.getD e d).toNat/\J ((b4.2.2.1.1.set (b3.1.getD e d).toNat (b4.2.2.1.1.getD (b3.1.getD e d).toNat []++ [l]),b4.2.2.1.2),()))/\P/\a/\h/\(b3.1.getD e d).toNat=(b3.1.getD e d).toNat/\J ((b4.2.2.1.1.set (b3.1.getD e d).toNat (b4.2.2.1.1.getD (b3.1.getD e d).toNat []++ [l]),b4.2.2.1.2),()))/\(n/\¬(b3.1.getD e d).toNat∈b4.2.2.1.2/\c/\a/\h/\(b3.1.getD e d).toNat=(b3.1.getD e d).toNat/\J ((b4.2.2.1.1.set (b3.1.getD e d).toNat (b4.2.2.1.1.getD (b3.1.getD e d).toNat []++ [l]),b4.2.2.1.2),()))/\¬(b3.1.getD e d).toNat∈b4.2.2.1.2/\P/\a/\h/\(b3.1.getD e d).toNat=(b3.1.getD e d).toNat/\J ((b4.2.2.1.1.set (b3.1.getD e d).toNat (b4.2.2.1.1.getD (b3.1.getD e d).toNat []++ [l]),b4.2.2.1.2),()))/\∀(bw:(List (List EE)×List Nat)×Unit),bw.1.1.length.le 9223372036854775807/\True->J bw->W/\sh3 (bf,bs.2.2.1)/\∀(b9:QQ×Unit),WfQ b9.1/\True->b9.1=rc (-rv (bf,bs.2.2.1))->(okV K1 L/\sz K1 b9.1/\okV K1 g)/\∀(bu:List EE×Unit),let O:=(List.set b4.2.1 (b3.1.getD e d).toNat bu.1);let af:=(↑(O.getD (b3.1.getD e d).toNat []).length:Int);D9m bu.1/\True->isC (fun(i:Int)=>C1 L i+rv b9.1*C1 g i) bu.1->W/\∃(I:Int×(List (List (Int×Bool))×List Nat)×Unit->Prop),∃(μ: _->Nat),I (d,b4.2.2.2.1,())/\∀(b7:Int×(List (List (Int×Bool))×List Nat)×Unit),let ah:=(gx dEE g b7.1);let a8:=ah.1.toNat;(Ty.int i64).wf b7.1/\b7.2.1.1.length.le 9223372036854775807/\True->I b7->(decide (b7.1<an)=true->(d<=b7.1/\b7.1<an)/\(d<=ah.1/\ah.1<(↑b7.2.1.1.length:Int))/\¬Int.toNat ah.1∈b7.2.1.2/\I (i64.wrap (b7.1+E),(b7.2.1.1.set a8 (D5s (Ty.int i64) (b3.1.getD e d) (b7.2.1.1.getD a8 [])),b7.2.1.2),())/\μ (i64.wrap (b7.1+E),(b7.2.1.1.set a8 (D5s (Ty.int i64) (b3.1.getD e d) (b7.2.1.1.getD a8 [])),b7.2.1.2),())<μ b7)/\(decide (b7.1<an)=false->(d<=b3.1.getD e d/\b3.1.getD e d<(↑O.length:Int))/\∃(I:Int×(List (List (Int×Bool))×List Nat)×Unit->Prop),∃(μ: _->Nat),I (d,b7.2.1,())/\∀(b8:Int×(List (List (Int×Bool))×List Nat)×Unit),let ac:=(i64.wrap (b4.1+E),List.set b4.2.1 (b3.1.getD e d).toNat bu.1,bw.1,b8.2.1,());let m:=(gx dEE (O.getD (b3.1.getD e d).toNat []) b8.1);let bc:=m.1.toNat;(Ty.int i64).wf b8.1/\b8.2.1.1.length.le 9223372036854775807/\True->I b8->(decide (b8.1<af)=true->(d<=b8.1/\b8.1<af)/\(d<=m.1/\m.1<(↑b8.2.1.1.length:Int))/\¬Int.toNat m.1∈b8.2.1.2/\I (i64.wrap (b8.1+E),(b8.2.1.1.set bc (B6o (Ty.int i64) (b3.1.getD e d) true (b8.2.1.1.getD bc [])),b8.2.1.2),())/\μ (i64.wrap (b8.1+E),(b8.2.1.1.set bc (B6o (Ty.int i64) (b3.1.getD e d) true (b8.2.1.1.getD bc [])),b8.2.1.2),())<μ b8)/\(decide (b8.1<af)=false->I_2 ac/\bv ac<bv b4)))/\(decide (b4.1<bb)=false->I Y/\μ Y<μ b2))))/\(decide (b2.1<x.1.1)=false->∃(I:List Int×Int×List (List EE)×List (List EE)×(List (List EE)×List Nat)×Unit->Prop),∃(μ: _->Nat),I (b2.2.2.2.2.1,d,List.replicate aa [],List.replicate aa [],b2.2.2.2.2.2.2.1,())/\∀(b1:List Int×Int×List (List EE)×List (List EE)×(List (List EE)×List Nat)×Unit),let bh:=(x.1.1,x.1.1,b1.2.2.1);let a1:=(b1.1.length:Int);let t:=b1.2.1.toNat;let o:=(b2.2.2.1,b2.2.2.2.1,bh,x.1.1,x.1.1,b1.2.2.2.1);let k:Prop:=(d<=b1.2.1/\b1.2.1<(b1.2.2.1.length:Int));let b:=(List.getD b2.2.2.1 t d);let aj:=(List.getD b2.2.2.2.2.2.1 b.toNat []);(Ty.int i64).sl.wf b1.1/\(Ty.int i64).wf b1.2.1/\F3k b1.2.2.1/\F3k b1.2.2.2.1/\b1.2.2.2.2.1.1.length.le 9223372036854775807/\True->I b1->(decide (b1.2.1<ab)=true->(d<=b1.2.1/\b1.2.1<ab)/\∃(J:List (List EE)×(List (List EE)×List Nat)×Unit->Prop),((d<=List.getD b2.2.2.1 t d/\List.getD b2.2.2.1 t d<(↑b1.2.2.2.2.1.1.length:Int))/\((¬b.toNat∈b1.2.2.2.2.1.2/\True/\∀(r:QQ×Unit),let bi:=(b1.2.1,r.1);WfQ r.1/\True->r.1=ri E->(((b1.2.2.2.2.1.1.getD b.toNat []).length+ [bi].length)*bg<=X/\(b1.2.2.2.2.1.1.getD b.toNat []).length+ [bi].length<=9223372036854775807)/\k/\J (List.set b1.2.2.1 t (b1.2.2.2.2.1.1.getD b.toNat []++ [bi]),(b1.2.2.2.2.1.1,b.toNat::b1.2.2.2.2.1.2),()))/\True/\∀(r:QQ×Unit),let a2:=(b1.2.1,r.1);let M:Prop:=(((b1.2.2.2.2.1.1.getD b.toNat []).length+ [a2].length)*bg<=X/\(b1.2.2.2.2.1.1.getD b.toNat []).length+ [a2].length<=9223372036854775807);WfQ r.1/\True->r.1=ri E->(¬b.toNat∈b1.2.2.2.2.1.2/\M/\k/\J (List.set b1.2.2.1 t (b1.2.2.2.2.1.1.getD b.toNat []++ [a2]),(b1.2.2.2.2.1.1,b.toNat::b1.2.2.2.2.1.2),()))/\¬b.toNat∈b1.2.2.2.2.1.2/\M/\k/\J (List.set b1.2.2.1 t (b1.2.2.2.2.1.1.getD b.toNat []++ [a2]),(b1.2.2.2.2.1.1,b.toNat::b1.2.2.2.2.1.2),()))/\(¬b.toNat∈b1.2.2.2.2.1.2/\(True/\∀(r:QQ×Unit),let bj:=(b1.2.1,r.1);WfQ r.1/\True->r.1=ri E->(((b1.2.2.2.2.1.1.getD b.toNat []).length+ [bj].length)*bg<=X/\(b1.2.2.2.2.1.1.getD b.toNat []).length+ [bj].length<=9223372036854775807)/\k/\J (List.set b1.2.2.1 t (b1.2.2.2.2.1.1.getD b.toNat []++ [bj]),(b1.2.2.2.2.1.1,b.toNat::b1.2.2.2.2.1.2),()))/\True/\∀(r:QQ×Unit),let a3:=(b1.2.1,r.1);let q:Prop:=(((b1.2.2.2.2.1.1.getD b.toNat []).length+ [a3].length)*bg<=X/\(b1.2.2.2.2.1.1.getD b.toNat []).length+ [a3].length<=9223372036854775807);let T:Prop:=(q/\k/\J (List.set b1.2.2.1 t (b1.2.2.2.2.1.1.getD b.toNat []++ [a3]),(b1.2.2.2.2.1.1,b.toNat::b1.2.2.2.2.1.2),()));WfQ r.1/\True->r.1=ri E->T/\T/\q/\k/\J (List.set b1.2.2.1 t (b1.2.2.2.2.1.1.getD b.toNat []++ [a3]),(b1.2.2.2.2.1.1,b.toNat::b1.2.2.2.2.1.2),()))/\True/\∀(r:QQ×Unit),let ae:=(b1.2.1,r.1);let f:Prop:=(((b1.2.2.2.2.1.1.getD b.toNat []).length+ [ae].length)*bg<=X/\(b1.2.2.2.2.1.1.getD b.toNat []).length+ [ae].length<=9223372036854775807);let N:Prop:=(¬b.toNat∈b1.2.2.2.2.1.2/\f/\k/\J (List.set b1.2.2.1 t (b1.2.2.2.2.1.1.getD b.toNat []++ [ae]),(b1.2.2.2.2.1.1,b.toNat::b1.2.2.2.2.1.2),()));let C:Prop:=(f/\k/\J (List.set b1.2.2.1 t (b1.2.2.2.2.1.1.getD b.toNat []++ [ae]),(b1.2.2.2.2.1.1,b.toNat::b1.2.2.2.2.1.2),()));WfQ r.1/\True->r.1=ri E->(N/\¬b.toNat∈b1.2.2.2.2.1.2/\f/\k/\J (List.set b1.2.2.1 t (b1.2.2.2.2.1.1.getD b.toNat []++ [ae]),(b1.2.2.2.2.1.1,b.toNat::b1.2.2.2.2.1.2),()))/\(¬b.toNat∈b1.2.2.2.2.1.2/\C/\C/\f/\k/\J (List.set b1.2.2.1 t (b1.2.2.2.2.1.1.getD b.toNat []++ [ae]),(b1.2.2.2.2.1.1,b.toNat::b1.2.2.2.2.1.2),()))/\N/\¬b.toNat∈b1.2.2.2.2.1.2/\C/\f/\k/\J (List.set b1.2.2.1 t (b1.2.2.2.2.1.1.getD b.toNat []++ [ae]),(b1.2.2.2.2.1.1,b.toNat::b1.2.2.2.2.1.2),()))/\∀(b5:List (List EE)×(List (List EE)×List Nat)×Unit),F3k b5.1/\b5.2.1.1.length.le 9223372036854775807/\True->J b5->(d<=List.getD b2.2.2.1 t d/\List.getD b2.2.2.1 t d<(b2.2.2.2.2.2.1.length:Int))/\(okV K1 aj/\List.length b1.1<=100000)/\∀(bp:List EE×Bool×Unit),let ad:=(b1.1,i64.wrap (b1.2.1+E),b5.1,List.set b1.2.2.2.1 t bp.1,b5.2.1,());D9m bp.1/\True/\True->(L8 b1.1 a1->(∀(j:Int),C1 aj j≠(0:Rat)->d<=j/\j<a1)->isC (fun(i:Int)=>if d<=i/\i<a1 then C1 aj (↑(List.idxOf i b1.1):Int)else(0:Rat)) bp.1/\bp.2.1=true)->(d<=b1.2.1/\b1.2.1<(b1.2.2.2.1.length:Int))/\I ad/\μ ad<μ b1)/\(decide (b1.2.1<ab)=false->(¬F6 x.1->o=zLU/\d=E)/\(F6 x.1->(x.1.1≠x.1.2.1->o=zLU/\d=a5)/\(x.1.1=x.1.2.1->(¬nonsing x.1.1.toNat (el x.1)->o=zLU/\d=a6)/\(nonsing x.1.1.toNat (el x.1)->B4e o x.1.1/\d=d/\(∀(v:List EE),v∈b1.2.2.1->C4u v)/\(∀(v:List EE),v∈b1.2.2.2.1->C4u v)/\(∀(s:Nat),(1:Nat)<=s->okM s x.1->∀(i j:Nat),i<x.1.1.toNat->qs (sK s x.1.1.toNat) (el bh i j)/\qs (sK s i) (el (x.1.1,x.1.1,b1.2.2.2.1) i j))/\∀(i j:Nat),i<x.1.1.toNat->j<x.1.1.toNat->luM o x.1.1.toNat i j=el x.1 (ix b2.2.2.1 i) (ix b2.2.2.2.1 j))))))))))
theorem C0s (x:A9 L2.args):H3w prog F4k B1e B1m L2 f72 x=A4n x:=by kernel_rfl
def H5l (n:Nat) (M:C2p) (rest:List Int) (rows lower:List (List Ent)) (cols:List A4x) (q:Int×Int×Bool×List Int×List (List Ent)×NR×NB×Unit):Prop:=q.2.2.2.2.1=rows/\q.2.2.2.2.2.1.1=lower/\fre n q.2.2.2.2.2.1.2/\q.2.2.2.2.2.2.1.1=cols/\fre n q.2.2.2.2.2.2.1.2/\(q.2.2.1=false->¬nonsing n (el M))/\(q.2.2.1=true->q.2.1∈rest/\q.1∈A4m (cols.getD q.2.1.toNat [])/\q.2.2.2.1.Nodup/\∀x,x∈q.2.2.2.1↔x∈rest/\x≠q.2.1)
def H0w (n:Nat) (rest:List Int) (cols:List A4x) (q:Int×NB×Unit):Prop:=0<=q.1/\q.1<(rest.length:Int)/\q.2.1.1=cols/\fre n q.2.1.2
def H3j (n:Nat) (rest:List Int) (cols:List A4x) (q:Int×Int×NB×Unit):Prop:=0<=q.1/\q.1<(rest.length:Int)/\0<=q.2.1/\q.2.1<=(rest.length:Int)/\q.2.2.1.1=cols/\fre n q.2.2.1.2
def H5r (n:Nat) (rest:List Int) (b:Nat) (rows lower:List (List Ent)) (cols:List A4x) (q:List Int×List (List Ent)×NR×NB×Unit):Prop:=q.1=rest.take b++rest.drop (b+1)/\q.2.1=rows/\q.2.2.1.1=lower/\fre n q.2.2.1.2/\q.2.2.2.1.1=cols/\fre n q.2.2.2.1.2
def H5s (es:A4x) (q:Int×(A4x×A4x)×Unit):Prop:=q.2.1.1=es/\(∀y∈q.2.1.2,y∈es)/\((q.1<0/\q.2.1.2.length=es.length)\/q.1∈A4m es)
def H5f (n:Nat) (cols:List A4x) (c:Int) (q:Int×NB×Unit):Prop:=q.1∈A4m (cols.getD c.toNat [])/\q.2.1.1=cols/\fre n q.2.1.2
def H5p (es:A4x) (q:List Int×(A4x×A4x)×Unit):Prop:=q.2.1.1=es/\(q.1++A4m q.2.1.2).Perm (A4m es)
def H5h (n:Nat) (cols:List A4x) (c:Int) (q:List Int×NB×Unit):Prop:=q.1.Perm (A4m (cols.getD c.toNat []))/\q.2.1.1=cols/\fre n q.2.1.2
def R3 (n:Nat) (M:C2p) (k:Nat) (rest P:List Int) (rows lower:List (List Ent)) (r c:Int) (u:List Int) (q:Int×List (List Ent)×NR×NB×Unit):Prop:=0<=q.1/\q.1<=(u.length:Int)/\(∀s,1<=s->okM s M->CI n k (sK s k) rest P rows lower r c (u.take q.1.toNat) q.2.1 q.2.2.1.1 q.2.2.2.1.1)/\fre n q.2.2.1.2/\fre n q.2.2.2.1.2
def H4z (x:Rat) (q:Bool×List Int×List Int×Unit):Prop:=((q.1,q.2.1),q.2.2.1)=rc x
def H5j (n:Nat) (P place:List Int) (rows lower:List (List Ent)) (q:List Int×Int×List (List Ent)×List (List Ent)×NR×Unit):Prop:=q.1=place/\0<=q.2.1/\q.2.1<=(n:Int)/\q.2.2.1.length=n/\q.2.2.2.1.length=n/\q.2.2.2.2.1.1=lower/\(∀m∈q.2.2.2.2.1.2,n<=m\/∃a:Nat,(a:Int)<q.2.1/\m=ix P a)/\(∀a:Nat,(a:Int)<q.2.1->q.2.2.1.getD a []=lower.getD (ix P a) []++ [((a:Int),rc 1)])/\∀a:Nat,(a:Int)<q.2.1->isC (fun i=>if 0<=i/\i<(n:Int)then C1 (rows.getD (ix P a) []) ((List.idxOf i place:Nat):Int)else 0) (q.2.2.2.1.getD a [])
theorem EI.okFin {n k:Nat} {S:Nat->Nat} {A:Nat->Nat->Rat} {rest P Q place:List Int} {rows lower:List (List Ent)} {cols:List A4x} (h:EI n k S A rest P Q place rows lower cols) (hn:n<=16384) {a:Nat} (ha:a<k) (hS:S a<=K1):okV K1 (rows.getD (ix P a) []):=by
 obtain⟨u,g2,_⟩:=h.can _ (h.elim.plt a ha);have:=A7t (n:=(n:Int)) (v:=rows.getD (ix P a) []) ⟨u.1,fun e he=>⟨(g2 e he).1,(g2 e he).2,(u.2 e he).1⟩⟩;exact⟨u.1,E0m u fun j=>G7 (h.fin a ha j) hS,by omega⟩
theorem EI.cnt {n k:Nat} {S:Nat->Nat} {A:Nat->Nat->Rat} {rest P Q place:List Int} {rows lower:List (List Ent)} {cols:List A4x} (h:EI n k S A rest P Q place rows lower cols) (hn:n<=16384) {i:Int} (i0:0<=i) (i1:i<(rest.length:Int)):(0<=rest.getD i.toNat 0/\rest.getD i.toNat 0<((cols.length:Nat):Int))/\(rest.getD i.toNat 0).toNat<n/\(cols.getD (rest.getD i.toNat 0).toNat []).length<=9223372036854775807/\rest.getD i.toNat 0∈rest:=by
 have u:rest.getD i.toNat 0∈rest:=B7 (by omega);obtain⟨c0,c1⟩:=h.crange u;have:=h.colLen u;rw[h.lcols];exact⟨⟨c0,c1⟩,by omega,by omega,u⟩
set_option maxHeartbeats 4000000
theorem C0z (x:A9 L2.args) (hw:awf L2.args x) (hp:L2.pre x):A4n x:=by
 obtain⟨⟨R,C,D⟩,_⟩:=x;have dx:G9r (R,C,D):=E0y hw.1.2.2.2;change Int at R C;change List (List Ent)at D;obtain⟨s0,cb,hs,eh,ac⟩:=hp;simp only[A4n];refine⟨trivial, ?_⟩;rintro⟨r,_⟩ _ hr;simp only at hr⊢;by_cases hv:F6 (R,C,D)
 case neg=>
  have hr:r=false:=by rw[hr];exact g1e hv
  rw[hr];exact⟨fun _=>⟨fun _=>⟨rfl,trivial⟩,fun h=>absurd h hv⟩,fun h=>(by cases h)⟩
 have hr:r=true:=by rw[hr];exact g0z hv
 rw[hr];obtain⟨v1,v2,v3,v4,v5,v6⟩:=id hv;simp only at v1 v2 v3 v4 v5 v6;refine⟨fun h=>(by cases h),fun _=>⟨fun bm=> ?_,fun c2=> ?_⟩⟩
 . have bm:=g0a bm;exact⟨fun h=>absurd hv h,fun _=>⟨fun _=>⟨rfl,trivial⟩,fun h=>absurd h bm⟩⟩
 have c2:R=C:=g0v (g0b c2);subst c2;obtain⟨n,rfl⟩:∃n:Nat,R=(n:Int):=⟨R.toNat,by omega⟩;have ac:sK s0 (n-1)<=K1:=ac hv rfl;simp only[g0i];have c8:0<=(n:Int)/\(n:Int)<=(n:Int)/\8*(n:Int)<=281474976710656/\(n:Int)<=9223372036854775807:=⟨by omega,g0k _,by omega,by omega⟩;have bf:0<=(n:Int)/\(n:Int)<=(n:Int)/\24*(n:Int)<=281474976710656/\(n:Int)<=9223372036854775807:=⟨by omega,g0k _,by omega,by omega⟩;refine⟨c8,c8,bf,bf,c8,bf,bf,c8,c8,D8r n,fun p=>((n:Int)-p.1).toNat,D8r.init, ?_⟩;rintro⟨t,⟨cols,dd⟩,left,_⟩ _ hm;change Int at t;change List A4x at cols;simp only;have bk:=hm.1;have cy:=hm.2.1;have dy:cols.length=n:=hm.2.2.1;have dz:left.length=n:=hm.2.2.2.2.2.1;simp only at bk cy;refine⟨fun ht=> ?_,fun ht=> ?_⟩
 . have ht:=g0a ht;rw[wr (by omega) (by omega)];exact⟨⟨bk,by omega⟩,⟨bk,by omega⟩,hm.next ht,by omega⟩
 have ht:=g0b ht;have c9:(n:Int)<=t:=by omega
 have fh:(D.length:Int)=(n:Int):=v5;refine⟨D4g n D,fun p=>((n:Int)-p.1).toNat,D4g.init hm c9, ?_⟩;rintro⟨u,rs,⟨cols1,cj⟩,_⟩ _ ar;change Int at u;change List (List Ent)at rs;change List A4x at cols1;simp only;have ag:=ar.1;have bu:=ar.2.1;have da:rs.length=n:=ar.2.2.1;simp only at ag bu;refine⟨fun hu=> ?_,fun hu=> ?_⟩
 . have hu:=g0a hu;have ei:u<(n:Int):=by omega
   have c7:=K8 (d:=([]:List Ent)) ag hu;rw[F0g ag hu]at c7⊢;have ce:=v6 _ c7;have ae:=F7x hv hs c7;refine⟨⟨ag,hu⟩, .inl ⟨ae.1,fun e he=>F2 (ae.2.1 e he) eh,ae.2.2⟩, ?_⟩;rintro⟨w,_⟩ _ hw;change List Ent at w;simp only at hw⊢;refine⟨⟨ag,by omega⟩,E2k n (fun i=>C1 (D.getD i [])) u (D.getD u.toNat []),fun p=>(((D.getD u.toNat []).length:Int)-p.1).toNat,ar.row, ?_⟩;rintro⟨t2,⟨cols2,ck⟩,_⟩ _ hf;change Int at t2;change List A4x at cols2;simp only;have dt:=hf.1;have du:=hf.2.1;simp only at dt du;have dc:∀e∈D.getD u.toNat [],0<=e.1/\e.1<(n:Int):=fun e he=>⟨(ce.2 e he).1,(ce.2 e he).2.1⟩
   have e7:=ae.2.2;refine⟨fun h2=> ?_,fun h2=> ?_⟩
   . have h2:=g0a h2;rw[wr (by omega) (by omega)];obtain⟨q1,q2,q3⟩:=hf.rng dc h2;exact⟨q1,q2,q3,hf.next dc h2,by omega⟩
   . have h2:=g0b h2;rw[wr (by omega) (by omega)];exact⟨ar.next ei ce hw hf (by omega),by omega⟩
 have hu:=g0b hu;have cz:(n:Int)<=u:=by omega
 refine⟨H2m n ((n:Int),(n:Int),D),fun p=>((n:Int)-p.1).toNat,H2m.init hv dx rfl rfl hm c9 ar cz, ?_⟩;clear hm bk cy dy dz ar ag bu da ht c9 hu cz;rintro⟨k,rest,P,Q,place,rows,⟨lower,ff⟩,⟨cols,dd⟩,_⟩ _ ⟨k0,k1,hE,f1,f2⟩;change Int at k;change List Int at rest P Q place;change List (List Ent)at rows lower;change List A4x at cols;simp only at k0 k1 hE f1 f2⊢;have a5:=hE s0 cb hs;refine⟨fun hk=> ?_,fun hk=> ?_⟩
 . have hk:=g0a hk;have c6:k.toNat<n:=by omega
   have b7:sK s0 k.toNat<=K1:=g0t (C8a (by omega)) ac;have ee:=a5.more c6;have a9:=a5.lrows;have bb:=a5.llow;have ax:=a5.lcols;have fo:rest.length<=n:=C4n a5.rnd fun x hx=>a5.crange hx
   refine⟨H5l n ((n:Int),(n:Int),D) rest rows lower cols,⟨H0w n rest cols,⟨H3j n rest cols,fun q=>((rest.length:Int)-q.2.1).toNat,⟨g0k _,by simp only;omega,g0k _,by simp only;omega,rfl,f2⟩, ?_⟩, ?_⟩, ?_⟩
   . rintro⟨b,j,⟨ab,dd'⟩,_⟩ _ ⟨b0,b1,j0,j1,rfl,f3⟩;change Int at b j;simp only at b0 b1 j0 j1 f3⊢;refine⟨fun hj=> ?_,fun hj=>⟨b0,b1,rfl,f3⟩⟩;have hj:=g0a hj;obtain⟨a1,a2,a3,a4⟩:=a5.cnt (by omega) j0 hj;obtain⟨d1,d2,d3,d4⟩:=a5.cnt (by omega) b0 b1;simp only[D0a];refine⟨H0w n rest ab,⟨⟨j0,hj⟩,a1,f3 _ a2,a3,⟨b0,b1⟩,d1,f3 _ d2,d3,fun _=>⟨j0,hj,rfl,f3⟩,fun _=>⟨b0,b1,rfl,f3⟩⟩, ?_⟩;rintro⟨b',⟨cols2,ck⟩,_⟩ _ ⟨b2,b3,rfl,f4⟩;change Int at b';simp only at b2 b3 f4⊢;obtain⟨e1,e2,e3,e4⟩:=a5.cnt (by omega) b2 b3;rw[wr (by omega) (by omega)];exact⟨⟨b2,b3⟩,e1,f4 _ e2,e3,fun _=>⟨b2,b3,rfl,f4⟩,fun _=>⟨⟨b2,b3,by simp only;omega,by simp only;omega,rfl,f4⟩,by omega⟩⟩
   . rintro⟨b,⟨ab,dd'⟩,_⟩ _ ⟨b0,b1,rfl,f3⟩;change Int at b;simp only at b0 b1 f3⊢;obtain⟨a1,a2,a3,a4⟩:=a5.cnt (by omega) b0 b1;simp only[D0a];refine⟨⟨b0,b1⟩,a1,f3 _ a2,a3,fun h0=> ?_,fun h0=> ?_⟩
     . have h0:=g0a h0;exact⟨rfl,rfl,f1,rfl,f3,fun _=>a5.stuck a4 (g0m (Int.natCast_eq_zero.1 h0)),fun h=>(by cases h)⟩
     have h0:=g0b h0;rw[wr (by omega) (by omega)];simp only[g0i,g4y];rw[show(b+1).toNat=b.toNat+1 from by omega];have ba:b.toNat+(List.drop (b.toNat+1) rest).length<=n:=by rw[g2l];omega
     generalize hc:rest.getD b.toNat 0=c at*;obtain⟨c0,c1⟩:=a5.crange a4;have aq:=a5.pick (b:=b.toNat) (by omega);rw[hc]at aq;refine⟨⟨b0,b1⟩,H5r n rest b.toNat rows lower ab,⟨⟨g0k _,b0,by omega⟩,⟨by omega,by omega,g0k _⟩,⟨⟨by omega,by omega⟩,rfl,rfl,rfl,f1,rfl,f3⟩,⟨by omega,by omega⟩,rfl,rfl,rfl,f1,rfl,f3⟩, ?_⟩;rintro⟨ci,be,⟨df,et⟩,⟨cols2,ck⟩,_⟩ _ ⟨g1,rfl,rfl,g2,rfl,g3⟩;change List Int at ci;simp only at g1 g2 g3⊢;obtain⟨fk,co⟩:=a5.col c a4;have ef:∀y:Int×Bool,y∈cols2.getD c.toNat []->0<=y.1/\y.1<(be.length:Int):=fun y hy=>by
      obtain⟨x0,x1,_⟩:=(co y.1).1 (F0e hy);rw[a9];exact⟨x0,x1⟩
     have bm:0<(cols2.getD c.toNat []).length:=by
      rcases g4t (cols2.getD c.toNat []).length with hz|hz
      . exact absurd (Int.natCast_eq_zero.2 hz) h0
      . exact hz
     have bx:c<(cols2.length:Int):=by rw[ax];exact c1
     refine⟨H5f n cols2 c,⟨⟨c0,bx⟩,g3 _ a2,H5s (cols2.getD c.toNat []),fun q=>q.2.1.2.length,⟨rfl,fun y hy=>hy, .inl ⟨by show(-1:Int)<0;decide,rfl⟩⟩, ?_⟩, ?_⟩
     . rintro⟨i,⟨es,left⟩,_⟩ _ ⟨rfl,i1,i2⟩;change Int at i;change A4x at left;simp only at i1 i2⊢;refine⟨fun hl=>⟨fun h=>(by cases h),fun _=>⟨?_,D0a _ _ _,g3⟩⟩,fun l1 y l2 hl=>⟨fun _=> ?_,fun h=>(by cases h)⟩⟩
       . rcases i2 with⟨_,i2⟩ |i2
         . rw[hl]at i2;simp only[g6u]at i2;omega
         . exact i2
       have hy:=ef y (i1 y (by rw[hl];simp));have ej:y.1∈A4m (cols2.getD c.toNat []):=F0e (i1 y (by rw[hl];simp));have bv:∀z∈l1++l2,z∈cols2.getD c.toNat []:=fun z hz=>i1 z (by
        rw[hl];rcases g1b.1 hz with hz|hz
        . exact g2f _ hz
        . exact g3b _ (g0n _ hz))
       have ay:(l1++l2).length<left.length:=by rw[hl,g1o,g1o,g1h];omega
       have aj:¬i<0->i∈A4m (cols2.getD c.toNat [])/\0<=i/\i<(be.length:Int):=fun h=>by
        rcases i2 with⟨h2,_⟩ |h2
        . exact absurd h2 h
        . obtain⟨x0,x1,_⟩:=(co i).1 h2;rw[a9];exact⟨h2,x0,x1⟩
       have e0:∀ {q:Bool},sel (decide (i<0)) true q=false->¬i<0:=fun {q} h h2=>by
        rw[g0z h2]at h;cases h
       refine⟨fun _=>hy,fun h=>(aj (g0b h)).2,fun _=>hy,fun h=>(aj (e0 h)).2,fun _=>⟨⟨rfl,bv, .inr ej⟩,ay⟩,fun h=>⟨⟨rfl,bv, .inr (aj ?_).1⟩,ay⟩⟩;intro h2;rw[g0z h2]at h;cases h
     . rintro⟨i,⟨dj,f0⟩,_⟩ _ ⟨i1,rfl,i3⟩;exact⟨rfl,rfl,g2,rfl,i3,fun h=>(by cases h),fun _=>⟨a4,i1,g1▸aq.1,g1▸aq.2⟩⟩
   . rintro⟨r,c,ok,ch,a0,⟨a6,b6⟩,⟨ab,dd'⟩,_⟩ _ ⟨rfl,rfl,f3,rfl,f4,n1,n2⟩;change Int at r c;change Bool at ok;change List Int at ch;simp only at f3 f4 n1 n2⊢;cases ok with
     |false=>exact⟨fun _=>⟨fun h=>absurd hv h,fun _=>⟨fun h=>absurd rfl h,fun _=>⟨fun _=>⟨rfl,trivial⟩,fun h=>absurd h (n1 rfl)⟩⟩⟩,fun h=>(by cases h)⟩
     |true=>
     obtain⟨hc,hr,ec,ed⟩:=n2 rfl;obtain⟨c0,c1⟩:=a5.crange hc;obtain⟨r0,r1,r2,r3⟩:=a5.row hc hr;have dn:=a5.lP;have fi:=a5.lQ;have bq:=a5.lpl;refine⟨fun h=>(by cases h),fun _=> ?_⟩;have p1:0<=k/\k<(P.length:Int):=⟨k0,by omega⟩;have p2:0<=k/\k<(Q.length:Int):=⟨k0,by omega⟩;have p3:0<=c/\c<(place.length:Int):=⟨c0,by omega⟩;refine⟨fun q=>q.1=P.set k.toNat r/\q.2.1=Q.set k.toNat c/\q.2.2.1=place.set c.toNat k,⟨p1,⟨p2,p3,rfl,rfl,rfl⟩,p2,p3,rfl,rfl,rfl⟩, ?_⟩;rintro⟨P',Q',az,_⟩ _ ⟨e1,e2,e3⟩;simp only at e1 e2 e3⊢;have bd:okV K1 (a0.getD r.toNat []):=a5.okRow b7 (by omega) (by omega);have ak:∀e∈a0.getD r.toNat [],0<=e.1/\e.1<(n:Int):=(a5.can r.toNat (by omega)).2.1;have d7:=(a5.can r.toNat (by omega)).2.2;have d6:A7v a0 r.toNat c.toNat=C1 (a0.getD r.toNat []) c:=by unfold A7v;rw[show((c.toNat:Nat):Int)=c from by omega]
     rw[d6]at r3;generalize ca:a0.getD r.toNat []=pv at*;have ez:=bd.2.2;refine⟨⟨r0,by rw[a9];exact r1⟩,D3f n rest (inC ab) r pv,fun p=>((pv.length:Int)-p.1).toNat,⟨g0k _,g0d _,ax,f4,fun j hj=>⟨a5.crange hj,F0f ⟨(a5.col j hj).1,fun x=>g8w⟩⟩⟩, ?_⟩;rintro⟨t,⟨cols1,cj⟩,_⟩ _ a7;change Int at t;change List A4x at cols1;simp only;have t0:=a7.1;have t1:=a7.2.1;simp only at t0 t1;refine⟨fun ht=> ?_,fun ht=> ?_⟩
     . have ht:=g0a ht;rw[wr (by omega) (by omega)];obtain⟨q1,q2,q3⟩:=a7.rng ak ht;exact⟨q1,q2,q3,a7.next ak ht,by omega⟩
     have ht:=g0b ht;have c3:∀s,1<=s->okM s ((n:Int),(n:Int),D)->CI n k.toNat (sK s k.toNat) rest P a0 a6 r c [] a0 a6 cols1:=fun s q1 q2=>CI.init (hE s q1 q2) hc hr a7.2.2.1 fun j hj=>by
      have h5:=(a7.2.2.2.2 j hj).2;simp only at h5;rw[D9 (show(pv.length:Int)<=t by omega)]at h5;rw[ca];exact h5
     have f5:fre n cj:=a7.2.2.2.1;have dw:cols1.length=n:=a7.2.2.1;clear a7;obtain⟨c5,bi⟩:=(c3 s0 cb hs).col c hc;have cu:∀x∈A4m (cols1.getD c.toNat []),0<=x/\x<(n:Int):=fun x hx=>⟨((bi x).1 hx).2.1,((bi x).1 hx).2.2.1⟩
     have cr:(A4m (cols1.getD c.toNat [])).length<=n:=C4n c5 cu;refine⟨bd, ?_⟩;rintro⟨v,_⟩ _ cc;change D2 at v;simp only at cc⊢;have cd:qs (sK s0 k.toNat) (C1 pv c):=d7 c;refine⟨by rw[cc];exact A2v (G7 cd b7) (by decide), ?_⟩;rintro⟨cg,fp,_⟩ _ af;change D2 at cg;simp only at af⊢;rw[cc,H6]at af;obtain⟨af,_⟩:=af.2 r3;have bx:c<(cols1.length:Int):=by rw[dw];exact c1
     refine⟨H5h n cols1 c,⟨⟨c0,bx⟩,f5 _ (by omega),H5p (cols1.getD c.toNat []),fun q=>q.2.1.2.length,⟨rfl,g5y _⟩, ?_⟩, ?_⟩
     . rintro⟨bw,⟨es,left⟩,_⟩ _ ⟨rfl,i2⟩;change List Int at bw;change A4x at left;simp only at i2⊢;refine⟨fun hl=>⟨fun h=>(by cases h),fun _=>⟨?_,D0a _ _ _,f5⟩⟩,fun l1 y l2 hl=>⟨fun _=> ?_,fun h=>(by cases h)⟩⟩
       . subst hl;rw[show A4m []= []from rfl,g5h]at i2;exact i2
       subst hl;have d5:(bw++ [y.1]++A4m (l1++l2)).Perm (A4m (cols1.getD c.toNat [])):=by
        refine List.Perm.trans ?_ i2;rw[g3p];refine h1n bw ?_;unfold A4m;rw[g4h,g4h,g1x,List.singleton_append];exact List.perm_middle.symm
       have dp:=d5.length_eq;rw[g1o,g1o,g1l]at dp;have ay:(l1++l2).length<(l1++y::l2).length:=by rw[g1o,g1o,g1h];omega
       exact⟨⟨by rw[g1l];omega,by rw[g1l];omega⟩,⟨rfl,d5⟩,ay⟩
     rintro⟨aa,⟨dk,fd⟩,_⟩ _ ⟨h6,rfl,f6⟩;change List Int at aa;simp only at h6 f6⊢;have e8:aa.Nodup:=h6.nodup_iff.2 c5;have d0:∀x,x∈aa↔x≠r/\0<=x/\x<(n:Int)/\(∀a,a<k.toNat->x.toNat≠ix P a)/\A7v a0 x.toNat c.toNat≠0:=fun x=>by rw[h6.mem_iff];exact bi x
     have e7:aa.length<=n:=by
      rw[h6.length_eq];exact cr
     refine⟨R3 n ((n:Int),(n:Int),D) k.toNat rest P a0 a6 r c aa,fun q=>((aa.length:Int)-q.1).toNat,⟨g0k _,g0d _,c3,f3,f6⟩, ?_⟩;clear c3 c5 bi cu cr h6;rintro⟨u,au,⟨ai,cn⟩,⟨ao,fe⟩,_⟩ _ ⟨u0,u1,hG,f7,f8⟩;change Int at u;simp only at u0 u1 hG f7 f8⊢;have ap:=hG s0 cb hs;refine⟨fun hu=> ?_,fun hu=> ?_⟩
     . have hu:=g0a hu;have dv:aa.getD u.toNat 0∈aa:=B7 (by omega);have c4:aa.getD u.toNat 0∉aa.take u.toNat:=fun hh=>by
        obtain⟨a,ha,b4⟩:=g3s.1 hh;rw[g0q]at ha;rw[h0v,G2 _ _ (show u.toNat<aa.length by omega)]at b4;have:=(g5u e8).1 b4;omega
       have db:=A3v (d:=(0:Int)) u0 hu;rw[F3 u0 hu]at db;obtain⟨i1,i2,i3,i4,i5⟩:=(d0 _).1 dv;generalize aa.getD u.toNat 0=i at*;have ah:i.toNat<n:=by omega
       have cp:((i.toNat:Nat):Int)=i:=by omega
       have eg:au.getD i.toNat []=a0.getD i.toNat []:=ap.ru _ ah (by rw[cp];exact c4);have cw:ai.getD i.toNat []=a6.getD i.toNat []:=by rw[ap.lo _ ah,g0u (by rw[cp];exact c4)]
       have ba:=a5.lowLen ah;have fg:=a5.two (i:=r.toNat) (j:=i.toNat) (by omega) ah (by omega) r2 i4;have ae:=a5.okRow b7 (by omega) ah;have d9:=(a5.can _ ah).2.2;have aj:0<=i/\i<(au.length:Int):=⟨i2,by rw[ap.lrows];exact i3⟩;have cq:0<=i/\i<(ai.length:Int):=⟨i2,by rw[ap.llow];exact i3⟩;have dr:i.toNat∉cn:=f7 _ ah;rw[eg,cw];have dq:A7v a0 i.toNat c.toNat=C1 (a0.getD i.toNat []) c:=by unfold A7v;rw[show((c.toNat:Nat):Int)=c from by omega]
       have fj:4*sK s0 k.toNat+1<=K1:=g0t (show sK s0 (k.toNat+1)<=sK s0 (n-1)from C8a (by omega)) ac;have e9:qs (sK s0 k.toNat+sK s0 k.toNat) (C1 (a0.getD i.toNat []) c/C1 pv c):=F1j (d9 c) cd;have F:∀(am:QQ×Unit),WfQ am.1/\True->am.1=rc (C1 (a0.getD i.toNat []) c)->(sh3 am.1/\sh3 cg)/\∀(b5:QQ×Unit),WfQ b5.1/\True->b5.1=rc (rv am.1*rv cg)->H4z (C1 (a0.getD i.toNat []) c/C1 pv c) (b5.1.1.1,b5.1.1.2,b5.1.2,()):=fun am _ h1=>by
        refine⟨⟨by rw[h1];exact A2v (G7 (d9 c) b7) (by decide),by rw[af];exact A2v (G7 (G5b cd) b7) (by decide)⟩,fun b5 _ h3=> ?_⟩;rw[h1,af,H6,H6, <-g6r]at h3;exact h3
       refine⟨⟨u0,hu⟩,H4z (C1 (a0.getD i.toNat []) c/C1 pv c),⟨aj,⟨ae,fun am w h=>⟨F am w h,F am w h⟩⟩,ae,F⟩, ?_⟩;rintro⟨fa,fb,fc,_⟩ _ b9;change Bool at fa;change List Int at fb fc;have b9:((fa,fb),fc)=rc (C1 (a0.getD i.toNat []) c/C1 pv c):=b9;simp only;rw[b9];refine⟨fun q=>q.1.1=ai.set i.toNat (a6.getD i.toNat []++ [(k,rc (C1 (a0.getD i.toNat []) c/C1 pv c))])/\fre n q.1.2, ?_, ?_⟩
       . have L1:((a6.getD i.toNat []).length+ [(k,rc (C1 (a0.getD i.toNat []) c/C1 pv c))].length)*64<=140737488355328/\(a6.getD i.toNat []).length+ [(k,rc (C1 (a0.getD i.toNat []) c/C1 pv c))].length<=9223372036854775807:=by
          have hz:∀z:Nat,z<=n->(z+1)*64<=140737488355328/\z+1<=9223372036854775807:=fun z hz=>⟨by omega,by omega⟩
          exact hz _ (g0t ba (by omega))
         repeat' apply And.intro
         all_goals first
          |exact cq.1
          |exact cq.2
          |exact dr
          |exact L1.1
          |exact L1.2
          |exact rfl
          |exact f7
          |exact True.intro
       rintro⟨⟨di,ew⟩,_⟩ _ ⟨cv,f9⟩;simp only at cv f9⊢;have d8:qs K1 (C1 (a0.getD i.toNat []) c/C1 pv c):=G7 e9 (by omega);refine⟨aj,A2v d8 (by decide), ?_⟩;rintro⟨ng,_⟩ _ bn;change D2 at ng;simp only at bn⊢;rw[H6]at bn;refine⟨⟨ae,by rw[bn];exact E0v (D8b d8),bd⟩, ?_⟩;rintro⟨nw,_⟩ _ ad;change List Ent at nw;simp only at ad⊢;have ad:isC (fun j=>C1 (a0.getD i.toNat []) j-C1 (a0.getD i.toNat []) c/C1 pv c*C1 pv j) nw:=⟨ad.1,fun j=>(ad.2 j).trans (by dsimp only;rw[bn,H6,Rat.neg_mul, <-g2z])⟩;have bp:∀e∈nw,0<=e.1/\e.1<(n:Int):=fun e he=>g0v fun hh=>by
        refine(ad.1.2 e he).1 ?_;rw[<-S4 ad.1.1 he];refine(ad.2 e.1).trans ?_;dsimp only;rw[E4 (v:=a0.getD i.toNat []) (i:=e.1) fun y hy cf=>hh (by rw[<-cf];exact(a5.can _ ah).2.1 y hy),E4 (v:=pv) (i:=e.1) fun y hy cf=>hh (by rw[<-cf];exact ak y hy),g4o,g2z,g6a,g1p]
       have fl:nw.length<=n:=by
        have:=A7t (n:=(n:Int)) (v:=nw) ⟨ad.1.1,fun e he=>⟨(bp e he).1,(bp e he).2,(ad.1.2 e he).1⟩⟩;omega
       refine⟨aj,D3f n rest (inC ao) i pv,fun p=>((pv.length:Int)-p.1).toNat,⟨g0k _,g0d _,ap.lcols,f8,fun j hj=>⟨a5.crange hj,F0f ⟨(ap.col j hj).1,fun x=>g8w⟩⟩⟩, ?_⟩;rintro⟨t2,⟨av,ep⟩,_⟩ _ a7;change Int at t2;change List A4x at av;simp only;have ek:=a7.1;have em:=a7.2.1;simp only at ek em;refine⟨fun ht=> ?_,fun ht=> ?_⟩
       . have ht:=g0a ht;rw[wr (by omega) (by omega)];obtain⟨q1,q2,q3⟩:=a7.rng ak ht;exact⟨q1,q2,q3,a7.next ak ht,by omega⟩
       have ht:=g0b ht;have bt:∀j:Int,j∈rest->G5f (inC ao) i pv j (av.getD j.toNat []):=fun j hj=>by
        have h5:=(a7.2.2.2.2 j hj).2;simp only at h5;rwa[D9 (show(pv.length:Int)<=t2 by omega)]at h5
       rw[show(au.set i.toNat nw).getD i.toNat []=nw from A4 (by rw[ap.lrows];exact ah)];refine⟨by rw[g0j];exact aj,F2m n rest (fun j x=>inC ao j x/\¬(x=i/\∃e∈pv,e.1=j)) i nw,fun p=>((nw.length:Int)-p.1).toNat,⟨g0k _,g0d _,a7.2.2.1,a7.2.2.2.1,fun j hj=>⟨a5.crange hj,G3g ⟨(bt j hj).1,(bt j hj).2⟩⟩⟩, ?_⟩;rintro⟨t3,⟨aw,er⟩,_⟩ _ a8;change Int at t3;change List A4x at aw;simp only;have en:=a8.1;have eo:=a8.2.1;simp only at en eo;refine⟨fun ht=> ?_,fun ht=> ?_⟩
       . have ht:=g0a ht;rw[wr (by omega) (by omega)];obtain⟨q1,q2,q3⟩:=a8.rng bp ht;exact⟨q1,q2,q3,a8.next bp ht,by omega⟩
       have ht:=g0b ht;rw[wr (by omega) (by omega)];refine⟨⟨by simp only;omega,by simp only;omega,fun s q1 q2=> ?_,f9,a8.2.2.2.1⟩,by omega⟩;have e6:=CI.next (hE s q1 q2) hc hr (hG s q1 q2) i2 i3 i1 i4 c4 (q:=C1 (a0.getD i.toNat []) c/C1 pv c) (by rw[dq,d6]) (nw:=nw) (by rw[ca];exact ad) (cols2:=aw) a8.2.2.1 fun j hj=>by
        have h5:=(a8.2.2.2.2 j hj).2;simp only at h5;rw[D9 (show(nw.length:Int)<=t3 by omega)]at h5;rw[ca];exact h5
       simp only;rw[db,cv, <-cw];rwa[show((k.toNat:Nat):Int)=k from by omega]at e6
     . have hu:=g0b hu;rw[wr (by omega) (by omega)];refine⟨⟨by simp only;omega,by simp only;omega,fun s q1 q2=> ?_,f7,f8⟩,by omega⟩;have hg:=hG s q1 q2;rw[D9 (by omega)]at hg;have ds:=CI.done (hE s q1 q2) hc hr hg rfl d0 ec ed;simp only;rw[show(k+1).toNat=k.toNat+1 from by omega,e1,e2,e3];rwa[show((k.toNat:Nat):Int)=k from by omega]at ds
 . have hk:=g0b hk;have c6:k=(n:Int):=by omega
   subst c6;simp only[g0i]at hE a5;have a9:=a5.lrows;have bb:=a5.llow;have dn:=a5.lP;have bs:=a5.places;refine⟨H5j n P place rows lower,fun q=>((n:Int)-q.2.1).toNat,⟨rfl,g0k _,g0d _,g1a,g1a,rfl,fun m hm=> .inl (Nat.le_of_not_lt fun h=>f1 m h hm),fun a ha=>by simp only at ha;omega,fun a ha=>by simp only at ha;omega⟩, ?_⟩;rintro⟨az,j,L,U,⟨a6,b6⟩,_⟩ _ ⟨rfl,j0,j1,lL,lU,rfl,bz,hL,hU⟩;change Int at j;change List (List Ent)at L U;simp only at j0 j1 lL lU bz hL hU⊢;refine⟨fun hj=> ?_,fun hj=> ?_⟩
   . have hj:=g0a hj;have a8:j.toNat<n:=by omega
     have dm:P.getD j.toNat 0=(ix P j.toNat:Int):=a5.P0 _ a8;have bj:=a5.elim.plt _ a8;have ba:=a5.lowLen bj;have e5:ix P j.toNat∉b6:=fun hm=>by
      rcases bz _ hm with h| ⟨a,ha,b4⟩
      . omega
      . have:=a5.elim.pinj _ _ a8 (show a<n by omega) b4;omega
     have ae:=a5.okFin (by omega) a8 (g0t (C8a (by omega)) ac);rw[dm];simp only[g0i];have q1:0<=j/\j<(P.length:Int):=⟨j0,hj⟩;have q2:0<=(ix P j.toNat:Int)/\(ix P j.toNat:Int)<(a6.length:Int):=⟨g0d _,by rw[bb];exact g2e.2 bj⟩;have q3:0<=j/\j<(L.length:Int):=⟨j0,by rw[lL];omega⟩;have hz:∀z:Nat,z<=n->(z+1)*64<=140737488355328/\z+1<=9223372036854775807:=fun z hz=>⟨by omega,by omega⟩
     refine⟨q1,fun q=>q.1=L.set j.toNat (a6.getD (ix P j.toNat) []++ [(j,rc 1)])/\q.2.1.1=a6/\q.2.1.2=ix P j.toNat::b6, ?_, ?_⟩
     . repeat' first
        |exact e5
        |exact True.intro
        |exact q1.1
        |exact q1.2
        |exact q2.1
        |exact q2.2
        |exact q3.1
        |exact q3.2
        |exact rfl
        |exact(hz _ (g0t ba (g0w _))).1
        |exact(hz _ (g0t ba (g0w _))).2
        |apply And.intro
        | (rintro⟨r,_⟩ _ hr
           have hr:r=rc 1:=hr.trans (C1c 1);subst hr)
     rintro⟨L4,⟨dh,eu⟩,_⟩ _ ⟨g1,g2,g3⟩;simp only at g1 g2 g3⊢;refine⟨⟨q2.1,by rw[a9];exact g2e.2 bj⟩,⟨ae,by rw[a5.lpl];omega⟩, ?_⟩;rintro⟨w,fq,_⟩ _ bc;change List Ent at w;simp only at bc⊢;have bq:=a5.lpl;obtain⟨de,_⟩:=bc (by rw[bq];exact bs.1) fun i hi=>by
      rw[bq];obtain⟨e,he,rfl⟩:=C7h hi;exact(a5.can _ bj).2.1 e he
     rw[bq]at de;rw[wr (by omega) (by omega)];refine⟨⟨j0,by rw[lU];omega⟩,⟨rfl,by simp only;omega,by simp only;omega,by simp only;rw[g1,g0j];exact lL,by simp only;rw[g0j];exact lU,g2,fun m hm=> ?_,fun a ha=> ?_,fun a ha=> ?_⟩,by omega⟩
     . simp only at hm⊢;rw[g3]at hm;rcases g0s.1 hm with h|h
       . exact .inr ⟨j.toNat,by omega,h⟩
       . rcases bz m h with h| ⟨a,ha,b4⟩
         . exact .inl h
         . exact .inr ⟨a,by omega,b4⟩
     . simp only at ha⊢;rw[g1];by_cases b8:a=j.toNat
       . subst b8;rw[A4 (by rw[lL];exact a8),show((j.toNat:Nat):Int)=j from by omega]
       . rw[C3 b8];exact hL a (by omega)
     . simp only at ha⊢;by_cases b8:a=j.toNat
       . subst b8;rw[A4 (by rw[lU];exact a8)];exact de
       . rw[C3 b8];exact hU a (by omega)
   . have hj:=g0b hj;have a8:j=(n:Int):=by omega
     subst a8;have bg:∀a,a<n->L.getD a []=a6.getD (ix P a) []++ [((a:Int),rc 1)]:=fun a ha=>hL a (by omega)
     have bh:∀a,a<n->isC (fun i=>if 0<=i/\i<(n:Int)then C1 (rows.getD (ix P a) []) ((List.idxOf i az:Nat):Int)else 0) (U.getD a []):=fun a ha=>hU a (by omega)
     have hd:=a5.done (by omega) lL lU bg bh;exact⟨fun h=>absurd hv h,fun _=>⟨fun h=>absurd rfl h,fun _=>⟨fun h=>absurd a5.elim.nonsing h,fun _=>⟨hd.1,trivial,(a5.cans lL lU bg bh).1,(a5.cans lL lU bg bh).2,fun s q1 q2 a b ha=>(hE s q1 q2).sizes (fun a=>g0t q1 (H5n a)) bg bh ha b,hd.2⟩⟩⟩⟩
def C5p:An:= {}
def A9p:A9 U5.args->Prop:=fun(x:(List Int×List Int×MM×Int×Int×List (List EE))×List QQ×Unit)=>let e:=(4:Int);let d:=(1:Int);let c:=(0:Int);let b:=(↑x.1.1.length:Int);let a:=(x.1.1.length:Int);let f:Prop:=((x.2.1.length:Int)≠a);(c<=a/\a<=(16384:Int)/\okM K1 x.1.2.2.1/\okM K1 x.1.2.2.2)/\∀(r:Bool×Unit),True/\True->(r.1=true↔B4e x.1 a)->((!r.1)=true->(¬B4e x.1 b->d=d)/\(B4e x.1 b->(x.2.1.length≠x.1.1.length->d=e)/\(x.2.1.length=x.1.1.length->d=c)))/\((!r.1)=false->(decide f=true->(¬B4e x.1 b->e=d)/\(B4e x.1 b->(x.2.1.length≠x.1.1.length->e=e)/\(x.2.1.length=x.1.1.length->e=c)))/\(decide f=false->(¬B4e x.1 b->c=d)/\(B4e x.1 b->(x.2.1.length≠x.1.1.length->c=e)/\(x.2.1.length=x.1.1.length->c=c))))
def D1o:An:= {loop:= [(12,⟨[1,2,7,8,9,30,31,55,56],[0],[(57,false,vI)],[],[(1, .row tQ 38)]⟩),(7,⟨[1,2,7,8,30],[0],[(31,false,vI)],[],[(1, .row tQ 38)]⟩),(24,⟨[2,7,8,13,15,16,80,81,95,96],[0,2],[(97,false,vI)],[],[(1, .row tQ 38)]⟩),(19,⟨[2,7,8,13,80],[0],[(81,false,vI)],[],[(1, .row tQ 38),(2, .row tQ 38)]⟩)],plan:= [(14,[5,7,10,12],[15],true,(pR 0 5 (.q 5 (.p 6 (.q 7 (.p 8 (.p 9 (.q 10 (.p 11 (.q 12 (.e 13 (.p 14 (.e 15 .done))))))))))))),(26,[5,7,10,12],[15],true,(pR 0 5 (.q 5 (.p 6 (.q 7 (.p 8 (.p 9 (.q 10 (.p 11 (.q 12 (.e 13 (.p 14 (.e 15 .done))))))))))))),(28,[5,9],[15],true,(pR 0 5 (.q 5 (pR 6 3 (.q 9 (.e 10 (pR 11 4 (.e 15 .done)))))))),(29,[2,5,9],[11],true,(.p 0 (.p 1 (.q 2 (.p 3 (.p 4 (.q 5 (pR 6 3 (.q 9 (.p 10 (.e 11 .done)))))))))))]}
def B3a:A9 A0k.args->Prop:=fun(x:(List Int×List Int×MM×Int×Int×List (List EE))×List QQ×Unit)=>let M:=(1:Nat);let A:=(↑x.1.1.length:Int);let q:=(1:Int);let g:=(0:Int);let d:=(x.1.1.length:Int);let v:Prop:=(g<=d/\d<=d/\(↑(56:Nat):Int)*d<=(281474976710656:Int)/\d<=(9223372036854775807:Int));(List.length x.1.1<=16384/\okM K1 x.1.2.2.1/\okM K1 x.1.2.2.2)/\∀(r:Int×Unit),G1 r.1/\True->(¬B4e x.1 d->r.1=q)/\(B4e x.1 d->(List.length x.2.1≠List.length x.1.1->r.1=4)/\(List.length x.2.1=List.length x.1.1->r.1=g))->(decide (r.1≠g)=true->(¬B4e x.1 A->B2r QQ= []/\r.1=q)/\(B4e x.1 A->(x.2.1.length≠x.1.1.length->B2r QQ= []/\r.1=4)/\(x.2.1.length=x.1.1.length->r.1=g/\0=x.1.1.length/\(∀(e:QQ),e∈ []->e=rc (rv e))/\(∀(s T:Nat),M<=s->M<=T->okM s x.1.2.2.1->okM s x.1.2.2.2->szL T x.2.1->szL (hK s (gK s T x.1.1.length) x.1.1.length+s) [])/\∀(i:Nat),i<x.1.1.length->(E2 x.1.1.length fun(j:Nat)=>luM x.1 x.1.1.length i j*rv ([].getD (ix x.1.2.1 j) zr))=rv (x.2.1.getD (ix x.1.1 i) zr))))/\(decide (r.1≠g)=false->v/\∃(I:Int×List QQ×Unit->Prop),∃(μ: _->Nat),I (g,List.replicate d.toNat dQ,())/\∀(p:Int×List QQ×Unit),let E:=p.1.toNat;let m:=(gx [] x.1.2.2.1.2.2 p.1);let B:=(↑m.length:Int);let L:=(i64.wrap (B-q));let h:=(↑(List.drop g.toNat (List.take L.toNat m)).length:Int);(Ty.int i64).wf p.1/\WfL p.2.1/\True->I p->(decide (p.1<d)=true->(g<=p.1/\p.1<d)/\(g<=gx g x.1.1 p.1/\gx g x.1.1 p.1<(x.2.1.length:Int))/\(g<=p.1/\p.1<(p.2.1.length:Int))/\(g<=p.1/\p.1<(x.1.2.2.1.2.2.length:Int))/\(g<=g/\g<=i64.wrap (B-q)/\i64.wrap (B-q)<=B)/\∃(I_1:Int×List QQ×Unit->Prop),∃(a0: _->Nat),I_1 (g,List.set p.2.1 E (gx dQ x.2.1 (gx g x.1.1 p.1)),())/\∀(N:Int×List QQ×Unit),let K:=(List.getD N.2.1 E dQ);let F:=(i64.wrap (p.1+q),N.2.1,());let D:=(N.2.1.length:Int);let c:=(gx dEE (List.drop g.toNat (List.take L.toNat m)) N.1);let t:=(List.getD N.2.1 c.1.toNat dQ);(Ty.int i64).wf N.1/\WfL N.2.1/\True->I_1 N->(decide (N.1<h)=true->(g<=N.1/\N.1<h)/\(g<=p.1/\p.1<D)/\(g<=c.1/\c.1<D)/\(sz K1 K/\sz K1 c.2/\sz K1 t)/\∀(r:QQ×Unit),let z:=(i64.wrap (N.1+q),List.set N.2.1 E r.1,());WfQ r.1/\True->(rv t=(0:Rat)->r.1=List.getD N.2.1 E dQ)/\(rv t≠(0:Rat)->r.1=rc (rv K-rv c.2*rv t))->(g<=p.1/\p.1<D)/\I_1 z/\a0 z<a0 N)/\(decide (N.1<h)=false->I F/\μ F<μ p))/\(decide (p.1<d)=false->v/\∃(I:Int×List QQ×List QQ×Unit->Prop),∃(μ: _->Nat),I (g,p.2.1,List.replicate d.toNat dQ,())/\∀(p:Int×List QQ×List QQ×Unit),let a:=(i64.wrap (d-q)-p.1);let k:=(i64.wrap a);let b:=(gx [] x.1.2.2.2.2.2 k);let J:=(gx dEE b g);let y:=(↑b.length:Int);let o:=(↑(List.drop q.toNat (List.take y.toNat b)).length:Int);(Ty.int i64).wf p.1/\WfL p.2.1/\WfL p.2.2.1/\True->I p->(decide (p.1<d)=true->(g<=i64.wrap a/\i64.wrap a<(x.1.2.2.2.2.2.length:Int))/\(g<=q/\q<=y/\y<=y)/\∃(I_1:Int×List QQ×Unit->Prop),∃(a0: _->Nat),I_1 (g,p.2.1,())/\∀(N:Int×List QQ×Unit),let G:=(N.2.1.length:Int);let w:=(List.getD N.2.1 k.toNat dQ);let l:Prop:=(g<=i64.wrap a/\i64.wrap a<G);let f:=(gx dEE (List.drop q.toNat (List.take y.toNat b)) N.1);let u:=(List.getD N.2.1 f.1.toNat dQ);(Ty.int i64).wf N.1/\WfL N.2.1/\True->I_1 N->(decide (N.1<o)=true->(g<=N.1/\N.1<o)/\l/\(g<=f.1/\f.1<G)/\(sz K1 w/\sz K1 f.2/\sz K1 u)/\∀(r:QQ×Unit),let C:=(i64.wrap (N.1+q),List.set N.2.1 k.toNat r.1,());WfQ r.1/\True->(rv u=(0:Rat)->r.1=List.getD N.2.1 k.toNat dQ)/\(rv u≠(0:Rat)->r.1=rc (rv w-rv f.2*rv u))->l/\I_1 C/\a0 C<a0 N)/\(decide (N.1<o)=false->l/\(g<=g/\g<y)/\(sh3 w/\sh3 J.2)/\∀(r:QQ×Bool×Unit),let H:=(List.set N.2.1 k.toNat r.1);let n:=(i64.wrap (p.1+q),List.set N.2.1 k.toNat r.1,List.set p.2.2.1 (gx g x.1.2.1 k).toNat (H.getD k.toNat dQ),());WfQ r.1/\True/\True->(rv J.2=(0:Rat)->r.2.1=false)/\(rv J.2≠(0:Rat)->r.1=rc (rv w/rv J.2)/\r.2.1=true)->l/\(g<=i64.wrap a/\i64.wrap a<(x.1.2.1.length:Int))/\(g<=i64.wrap a/\i64.wrap a<(↑H.length:Int))/\(g<=gx g x.1.2.1 k/\gx g x.1.2.1 k<(p.2.2.1.length:Int))/\I n/\μ n<μ p))/\(decide (p.1<d)=false->(¬B4e x.1 A->p.2.2.1= []/\g=q)/\(B4e x.1 A->(x.2.1.length≠x.1.1.length->p.2.2.1= []/\g=(4:Int))/\(x.2.1.length=x.1.1.length->g=g/\List.length p.2.2.1=x.1.1.length/\(∀(e:QQ),e∈p.2.2.1->e=rc (rv e))/\(∀(s T:Nat),M<=s->M<=T->okM s x.1.2.2.1->okM s x.1.2.2.2->szL T x.2.1->szL (hK s (gK s T x.1.1.length) x.1.1.length+s) p.2.2.1)/\∀(i:Nat),i<x.1.1.length->(E2 x.1.1.length fun(j:Nat)=>luM x.1 x.1.1.length i j*rv (List.getD p.2.2.1 (ix x.1.2.1 j) zr))=rv (x.2.1.getD (ix x.1.1 i) zr))))))
def zok (k:Nat) (q:Rat) (x:D2):Prop:=sz k x/\C0v x/\rv x=q
theorem F6t {k:Nat} {q:Rat} (h:qs k q):zok k q (rc q):=⟨E0v h,F5c q,H6 q⟩
theorem E1v {j k:Nat} {q:Rat} {x:D2} (h:zok j q x) (u:j<=k):zok k q x:=⟨F2 h.1 u,h.2⟩
theorem H1y {k:Nat} {q:Rat} {x:D2} (h:zok k q x) (u:1<=k):qs k q:=h.2.2▸A6p h.2.1 h.1 u
theorem A7r {s T:Nat} :∀ {a b:Nat},a<=b->gK s T a<=gK s T b
 |a,0,h=>by have:a=0:=by omega
            subst this;exact g0w _
 |a,b+1,h=>by
  by_cases u:a=b+1
  . subst u;exact g0w _
  . have:=A7r (s:=s) (T:=T) (a:=a) (b:=b) (by omega);simp only[gK];omega
theorem B0v {s T:Nat} :∀ {a b:Nat},a<=b->hK s T a<=hK s T b
 |a,0,h=>by have:a=0:=by omega
            subst this;exact g0w _
 |a,b+1,h=>by
  by_cases u:a=b+1
  . subst u;exact g0w _
  . have:=B0v (s:=s) (T:=T) (a:=a) (b:=b) (by omega);simp only[hK];omega
theorem G8e {v:List Ent} {i:Nat} (u:∀e∈v,0<=e.1/\e.1<(i:Int)) (h:Nat->Rat):E1p v (fun j=>h j.toNat)=E2 i fun j=>C1 v (j:Int)*h j:=by
 rw[F8s u];exact B6 fun j _=>by rw[g0i]
theorem E9x {s j k:Nat} {a f b r:D2} {x y:Rat} (ha:zok j x a) (hf:C0v f) (u:sz s f) (hs:1<=s) (hb:zok k y b) (hj:1<=j) (hk:1<=k) (h1:rv b=0->r=a) (h2:rv b≠0->r=rc (rv a-rv f*rv b)):zok (j+(s+k)+1) (x-rv f*y) r:=by
 obtain⟨a1,a2,a3⟩:=id ha;obtain⟨b1,b2,b3⟩:=id hb;subst a3 b3;by_cases hz:rv b=0
 . rw[h1 hz,hz,g4o,g2z,g6a,g1p];exact E1v ha (by omega)
 . rw[h2 hz];exact F6t (D7i (A6p a2 a1 hj) (D2y (A6p hf u hs) (A6p b2 b1 hk)))
def FW (s T n i:Nat) (Lm:Nat->Nat->Rat) (b:Nat->Rat) (z:List D2):Prop:=z.length=n/\∀j,j<i->zok (gK s T j) (rv (z.getD j zr)) (z.getD j zr)/\rv (z.getD j zr)+E2 j (fun m=>Lm j m*rv (z.getD m zr))=b j
def FI (s T i:Nat) (c:Rat) (w:List Ent) (z0:List D2) (t:Nat) (z:List D2):Prop:=∃cur,z=z0.set i cur/\C0v cur/\rv cur=c-E1p (w.take t) (fun j=>rv (z0.getD j.toNat zr))/\∀m:Nat,(∀e∈w.take t,e.1<(m:Int))->sz (gK s T m) cur
variable {s T n i:Nat} {c:Rat} {w:List Ent} {z0 z:List D2} {Lm:Nat->Nat->Rat} {b:Nat->Rat}
theorem FI.init {x:D2} (hx:zok T c x):FI s T i c w z0 0 (z0.set i x):=
 ⟨x,rfl,hx.2.1,by rw[hx.2.2];simp only[h0n,E1p];rw[g2z,g6a,g1p],fun m _=>F2 hx.1 (A7r (g1n m))⟩
theorem FI.next (hF:FW s T n i Lm b z0) (hT:1<=T) (hs:1<=s) (hi:i<n) (hasc:asc w) (hw:∀e∈w,0<=e.1/\e.1<(i:Int)/\sz s e.2/\C0v e.2) {t:Int} (t0:0<=t) (t1:t<(w.length:Int)) (h:FI s T i c w z0 t.toNat z):
 (z.length=n/\sz (gK s T i) (z.getD i zr)/\sz (gK s T i) (z.getD (gx dEE w t).1.toNat zr))/\∀r,(rv (z.getD (gx dEE w t).1.toNat zr)=0->r=z.getD i zr)->(rv (z.getD (gx dEE w t).1.toNat zr)≠0->r=rc (rv (z.getD i zr)-rv (gx dEE w t).2*rv (z.getD (gx dEE w t).1.toNat zr)))->FI s T i c w z0 (t+1).toNat (z.set i r):=by
 obtain⟨cur,rfl,hl,hr,a4⟩:=h;have a2:=K8 (d:=dEE) t0 t1;obtain⟨e0,e1,e2,e3⟩:=hw _ a2;have u:∀y∈w.take t.toNat,y.1<(gx dEE w t).1:=fun y hy=>by
  have h1:(w.take (t+1).toNat).Pairwise (fun a b=>a.1<b.1):=h0m hasc;rw[show(t+1).toNat=t.toNat+1 from by omega,g1z,J9 (d:=dEE) t0 t1,g4s]at h1;exact h1.2.2 y hy (gx dEE w t) (by simp)
 have a1:=E5a (d:=dEE) t0 t1 (fun j=>rv (z0.getD j.toNat zr));have a5:∀m:Nat,(∀e∈w.take (t+1).toNat,e.1<(m:Int))->(gx dEE w t).1<(m:Int):=fun m hm=>hm _ (by
  rw[show(t+1).toNat=t.toNat+1 from by omega,g1z,J9 (d:=dEE) t0 t1];simp)
 generalize gx dEE w t=e at*;have a3:e.1.toNat≠i:=by omega
 have a0:=hF.1;rw[C3 a3,A4 (by omega)];obtain⟨hz,_⟩:=hF.2 e.1.toNat (by omega);have h1:=a4 e.1.toNat fun y hy=>by have:=u y hy;omega
 have hg:∀m,1<=gK s T m:=fun m=>g0t hT (A7r (g1n m))
 refine⟨⟨by rw[g0j];exact a0,F2 h1 (A7r (by omega)),F2 hz.1 (A7r (by omega))⟩,fun r r1 r2=> ?_⟩;have hk:=E9x (x:=rv cur) ⟨h1,hl,rfl⟩ e3 e2 hs hz (hg _) (hg _) r1 r2;refine⟨r,by rw[h2x],hk.2.1, ?_,fun m hm=> ?_⟩
 . rw[hk.2.2,a1,hr];grind
 . refine F2 hk.1 (g0t ?_ (A7r (show e.1.toNat+1<=m by have:=a5 m hm;omega)));simp only[gK];omega
theorem FI.done (hF:FW s T n i Lm b z0) (hi:i<n) (hw:∀e∈w,0<=e.1/\e.1<(i:Int)) (hL:∀j,j<i->C1 w (j:Int)=Lm i j) {t:Nat} (ht:w.length<=t) (h:FI s T i (b i) w z0 t z):FW s T n (i+1) Lm b z:=by
 obtain⟨cur,rfl,hl,hr,a1⟩:=h;have a0:=hF.1;rw[g0o ht]at hr a1;have u:∀j,j<i->(z0.set i cur).getD j zr=z0.getD j zr:=fun j hj=>C3 (by omega)
 refine⟨by rw[g0j];exact a0,fun j hj=> ?_⟩;by_cases a2:j=i
 . subst a2;rw[A4 (by omega)];refine⟨⟨a1 j fun e he=>(hw e he).2,hl,rfl⟩, ?_⟩;rw[hr,G8e hw (fun m=>rv (z0.getD m zr)),B6 (f:=fun m=>Lm j m*rv ((z0.set j cur).getD m zr)) (g:=fun m=>C1 w (m:Int)*rv (z0.getD m zr)) fun m hm=>by rw[u m hm,hL m hm]];grind
 . rw[u j (by omega)];obtain⟨h1,h2⟩:=hF.2 j (by omega);refine⟨h1, ?_⟩;rw[<-h2];congr 1;exact B6 fun m hm=>by rw[u m (by omega)]
def BW (s Y n i:Nat) (U:Nat->Nat->Rat) (y:Nat->Rat) (z:List D2):Prop:=z.length=n/\(∀j,j<i->zok Y (y j) (z.getD j zr))/\∀j,i<=j->j<n->(∃q,z.getD j zr=rc q/\qs (hK s Y (n-1-j)+s) q)/\E2 n (fun m=>U j m*rv (z.getD m zr))=y j
def BI (s Y n i:Nat) (c:Rat) (w:List Ent) (z0:List D2) (t:Nat) (z:List D2):Prop:=∃cur,z=z0.set i cur/\C0v cur/\rv cur=c-E1p (w.take t) (fun j=>rv (z0.getD j.toNat zr))/\∀m:Nat,i+1<=m->m<=n->(∀e∈w.take t,e.1<(m:Int))->∃k,1<=k/\sz k cur/\k+hK s Y (n-m)<=hK s Y (n-1-i)+Y
variable {s Y n i:Nat} {c:Rat} {w:List Ent} {z0 z:List D2} {U:Nat->Nat->Rat} {y:Nat->Rat}
theorem BI.init (hB:BW s Y n (i+1) U y z0) (hY:1<=Y) (hi:i<n):BI s Y n i (y i) w z0 0 z0:=by
 obtain⟨h1,h2,h3⟩:=hB.2.1 i (g1s _);refine⟨z0.getD i zr, ?_,h2, ?_,fun m hm a1 _=>⟨Y,hY,h1, ?_⟩⟩
 . refine g9t (by rw[g0j]) fun j u a0=> ?_
   rw[h1g];split
   . rename_i e;subst e;rw[G2 _ _ u]
   . rfl
 . rw[h3];simp only[h0n,E1p];rw[g2z,g6a,g1p]
 . have:=B0v (s:=s) (T:=Y) (a:=n-m) (b:=n-1-i) (by omega);omega
theorem BI.next (hB:BW s Y n (i+1) U y z0) (hs:1<=s) (hY:1<=Y) (hi:i<n) (hasc:asc w) (hw:∀e∈w,(i:Int)<e.1/\e.1<(n:Int)/\sz s e.2/\C0v e.2) {t:Int} (t0:0<=t) (t1:t<(w.length:Int)) (h:BI s Y n i c w z0 t.toNat z):
 (z.length=n/\sz (hK s Y n) (z.getD i zr)/\sz (hK s Y n+s) (z.getD (gx dEE w t).1.toNat zr))/\∀r,(rv (z.getD (gx dEE w t).1.toNat zr)=0->r=z.getD i zr)->(rv (z.getD (gx dEE w t).1.toNat zr)≠0->r=rc (rv (z.getD i zr)-rv (gx dEE w t).2*rv (z.getD (gx dEE w t).1.toNat zr)))->BI s Y n i c w z0 (t+1).toNat (z.set i r):=by
 obtain⟨cur,rfl,hl,hr,a6⟩:=h;have a2:=K8 (d:=dEE) t0 t1;obtain⟨e0,e1,e2,e3⟩:=hw _ a2;have u:∀y∈w.take t.toNat,y.1<(gx dEE w t).1:=fun y hy=>by
  have h1:(w.take (t+1).toNat).Pairwise (fun a b=>a.1<b.1):=h0m hasc;rw[show(t+1).toNat=t.toNat+1 from by omega,g1z,J9 (d:=dEE) t0 t1,g4s]at h1;exact h1.2.2 y hy (gx dEE w t) (by simp)
 have a1:=E5a (d:=dEE) t0 t1 (fun j=>rv (z0.getD j.toNat zr));have a7:∀m:Nat,(∀e∈w.take (t+1).toNat,e.1<(m:Int))->(gx dEE w t).1<(m:Int):=fun m hm=>hm _ (by
  rw[show(t+1).toNat=t.toNat+1 from by omega,g1z,J9 (d:=dEE) t0 t1];simp)
 generalize gx dEE w t=e at*;have a4:e.1.toNat≠i:=by omega
 have a0:=hB.1;rw[C3 a4,A4 (by omega)];obtain⟨⟨q,hq,a5⟩,_⟩:=hB.2.2 e.1.toNat (by omega) (by omega);obtain⟨k,k1,k2,k3⟩:=a6 e.1.toNat (by omega) (by omega) fun y hy=>by have:=u y hy;omega
 have hz:zok (hK s Y (n-1-e.1.toNat)+s) (rv (z0.getD e.1.toNat zr)) (z0.getD e.1.toNat zr):=by
  rw[hq,H6];exact F6t a5
 have m1:=B0v (s:=s) (T:=Y) (a:=n-1-i) (b:=n) (by omega);have m2:=B0v (s:=s) (T:=Y) (a:=n-1-e.1.toNat) (b:=n) (by omega);have m3:=B0v (s:=s) (T:=Y) (a:=0) (b:=n-e.1.toNat) (by omega);have m0:hK s Y 0=Y:=rfl;refine⟨⟨by rw[g0j];exact a0,F2 k2 (by omega),F2 hz.1 (by omega)⟩,fun r r1 r2=> ?_⟩;have hk:=E9x (x:=rv cur) ⟨k2,hl,rfl⟩ e3 e2 hs hz k1 (by omega) r1 r2;refine⟨r,by rw[h2x],hk.2.1, ?_,fun m hm a8 a3=>⟨_,by omega,hk.1, ?_⟩⟩
 . rw[hk.2.2,a1,hr];grind
 . have h1:=a7 m a3;have h2:=B0v (s:=s) (T:=Y) (a:=n-m) (b:=n-1-e.1.toNat) (by omega);have h3:hK s Y (n-e.1.toNat)=2*hK s Y (n-1-e.1.toNat)+2*s+1:=by
    rw[show n-e.1.toNat=(n-1-e.1.toNat)+1 from by omega];rfl
   omega
theorem BI.done (hB:BW s Y n (i+1) U y z0) (hs:1<=s) (hY:1<=Y) (hi:i<n) (hw:∀e∈w,(i:Int)<e.1/\e.1<(n:Int)) (hU:∀j,i<j->C1 w (j:Int)=U i j) (a2:∀k m,m<k->k<n->U k m=0) (hp:U i i≠0) (a7:qs s (U i i)) {t:Nat} (ht:w.length<=t) (h:BI s Y n i (y i) w z0 t z):
 sz (hK s Y n) (z.getD i zr)/\qs (hK s Y (n-1-i)+s) (rv (z.getD i zr)/U i i)/\BW s Y n i U y (z.set i (rc (rv (z.getD i zr)/U i i))):=by
 obtain⟨cur,rfl,hl,hr,a5⟩:=h;have a4:=hB.1;rw[g0o ht]at hr a5;rw[A4 (by omega),h2x];obtain⟨k,k1,k2,k3⟩:=a5 n (by omega) (g0w _) fun e he=>(hw e he).2
 rw[g7m]at k3;have m0:hK s Y 0=Y:=rfl;have m1:=B0v (s:=s) (T:=Y) (a:=n-1-i) (b:=n) (by omega);have hq:qs (hK s Y (n-1-i)+s) (rv cur/U i i):=G7 (F1j (A6p hl k2 k1) a7) (by omega);refine⟨F2 k2 (by omega),hq,by rw[g0j];exact a4,fun j hj=> ?_,fun j hj u=> ?_⟩
 . rw[C3 (by omega)];exact hB.2.1 j (by omega)
 . have a0:E2 n (fun m=>U j m*rv ((z0.set i (rc (rv cur/U i i))).getD m zr))=E2 n (fun m=>if m=i then U j i*(rv cur/U i i)else U j m*rv (z0.getD m zr)):=B6 fun m _=>by
    by_cases hm:m=i
    . subst hm;rw[g1c rfl,A4 (by omega),H6]
    . rw[g0u hm,C3 hm]
   by_cases a3:j=i
   . subst a3;refine⟨⟨_,A4 (by omega),hq⟩, ?_⟩;rw[a0];have h1:E1p w (fun m=>rv (z0.getD m.toNat zr))=E2 n (fun m=>if m=j then 0 else U j m*rv (z0.getD m zr)):=by
      rw[F8s (n:=n) fun e he=>⟨by have:=(hw e he).1;omega,(hw e he).2⟩];refine B6 fun m hm=> ?_
      rw[g0i];rcases Nat.lt_trichotomy m j with hmj|hmj|hmj
      . rw[g0u (by omega),E4 fun e he a6=>by have:=(hw e he).1;omega,a2 j m hmj u]
      . rw[g1c hmj,E4 fun e he a6=>by have:=(hw e he).1;omega,g2y]
      . rw[g0u (by omega),hU m hmj]
     have h2:E2 n (fun m=>if m=j then U j j*(rv cur/U j j)else U j m*rv (z0.getD m zr))=E2 n (fun m=>(if m=j then U j j*(rv cur/U j j)else 0)+if m=j then 0 else U j m*rv (z0.getD m zr)):=B6 fun m _=>by
      split
      . rw[g1p]
      . rw[g3o]
     rw[h2,A6u, <-h1,I6 u fun m _ hm=>g0u hm,g1c rfl,hr,g6r,h2r,g5w,h0h _ hp,h2j];grind
   . obtain⟨⟨q,g1,g2⟩,g3⟩:=hB.2.2 j (by omega) u;refine⟨⟨q,by rw[C3 a3];exact g1,g2⟩, ?_⟩;rw[a0, <-g3];refine B6 fun m hm=> ?_
     by_cases a1:m=i
     . rw[g1c a1,a1,a2 j i (by omega) u,g2y,g2y]
     . rw[g0u a1]
theorem H1z {T n:Nat} {L U:Nat->Nat->Rat} {b:Nat->Rat} {v:Nat->Rat} {y:Nat->Rat} (h1:∀j,j<n->y j+E2 j (fun m=>L j m*y m)=b j) (h2:∀j,j<n->E2 n (fun m=>U j m*v m)=y j) (hL:∀i,i<n->L i i=1) (u:∀i j,i<j->j<n->L i j=0) {i:Nat} (hi:i<n):
 E2 n (fun j=>E2 n (fun k=>L i k*U k j)*v j)=b i:=by
 have e1:E2 n (fun j=>E2 n (fun k=>L i k*U k j)*v j)=E2 n fun k=>L i k*y k:=by
  rw[B6 (g:=fun j=>E2 n fun k=>L i k*(U k j*v j)) fun j _=>by rw[<-D3q];exact B6 fun k _=>g5w _ _ _,A7y];exact B6 fun k hk=>by rw[B0j,h2 k hk]
 rw[e1, <-h1 i hi];have e2:∀t,i+1+t<=n->E2 (i+1+t) (fun k=>L i k*y k)=y i+E2 i (fun m=>L i m*y m):=by
  intro t
  induction t with
  |zero=>intro _;rw[g2x,E2,hL i hi,g7o,h2w]
  |succ t ih=>intro ht;rw[<-g3z,E2,ih (by omega),u i (i+1+t) (by omega) (by omega),g2y,g1p]
 have:=e2 (n-(i+1)) (by omega);rwa[show i+1+(n-(i+1))=n from by omega]at this
end Go.Proofs.YthiimnbdinlfeaaGreat
