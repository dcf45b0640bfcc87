/- Part. -/
import Derived.Shelf.SlSortCmp.NoneTotal
import Derived.Lib.QuietBelow
import Derived.Shelf.SlGeneric
import Derived.Shelf.SlIterI.Sorted
import Derived.Shelf.SortM.Plain
import Derived.Shelf.SortM.SortNone
import Derived.Shelf.SlicesG.Cmp
import Derived.Ground.GgzProg
import Derived.Ground.SlsfProg
import Derived.Ground.SlgmProg
import Derived.Ground.SlgcProg
import Derived.Test.YtkdmjgcjpmcjjaaGreatProg
import Derived.Test.YtkdmjgcjpmcjjaaGreatK40G
namespace Go.Proofs.YtkdmjgcjpmcjjaaGreat
open Go.Vc Go.Gw
theorem D4l (x:A6 A0q.args) (_:awf A0q.args x) (_:A0q.pre x):D3u x:=rfl
theorem B5u (x:A6 F9.args) (hw:awf F9.args x) (hp:F9.pre x):A2q x:=by
 obtain⟨⟨l,i⟩,n,_⟩:=x;have hl:l.length<=9223372036854775807:=hw.1.1.1;change Int at i n;change List Int at l;obtain⟨p0,p1,p2⟩:0<n/\0<=i/\i<=(l.length:Int):=hp;simp only[A2q];refine⟨fun h=>⟨⟨by omega,p0⟩,by trivial,p1,p2⟩,fun h=> ?_⟩;have h:=of_decide_eq_false h;rw[wr (a:=i+1) (by omega) (by omega),wr (a:=i+1-1) (by omega) (by omega)];refine⟨⟨by omega,by omega⟩,p0, ?_⟩;rintro⟨r,_⟩ _ hr;exact⟨⟨(hr p0).1,(hr p0).2.1⟩,by trivial,by omega,by omega⟩
theorem D6j (x:A6 X5.args) (hw:awf X5.args x) (hp:X5.pre x):B7r x:=by
 obtain⟨a,b,_⟩:=x;change Int at a b;have hb:0<b:=hp;have h1:inR .i64 b:=hw.2.1;unfold inR at h1;rw[show IntKind.i64.min= -9223372036854775808 from by decide,show IntKind.i64.max=9223372036854775807 from by decide]at h1;simp only[B7r];have e:IntKind.u64.wrap b=b:=by simp[IntKind.wrap,IntKind.bits,IntKind.signed];omega
 have h2:0<=IntKind.u64.wrap a:=by simp[IntKind.wrap,IntKind.bits,IntKind.signed];omega
 rw[e];have h3:0<=(IntKind.u64.wrap a).tmod b:=Int.tmod_nonneg _ h2;have h4:(IntKind.u64.wrap a).tmod b<b:=Int.tmod_lt_of_pos _ hb;rw[wr (by omega) (by omega)];exact⟨by omega,fun _=>⟨h3,h4,rfl⟩⟩
theorem G0u {α:Type} (l:List α) (n:Int) (h0:0<=n):(decide (n<(l.length:Int))=true->((0:Int)<=0/\0<=n/\n<=(l.length:Int))/\List.drop (Int.toNat 0) (List.take n.toNat l)=List.take n.toNat l)/\(decide (n<(l.length:Int))=false->l=List.take n.toNat l):=by
 refine⟨fun h=>⟨⟨Int.le_refl _,h0,Int.le_of_lt (of_decide_eq_true h)⟩,rfl⟩,fun h=> ?_⟩;have h:=of_decide_eq_false h;exact(E2 (Int.not_lt.1 h)).symm
theorem B3a (x:A6 I7.args) (_:awf I7.args x) (hp:I7.pre x):A6e x:=G0u (α:=List N8) x.1 x.2.1 hp
theorem E7z {a b:Int} (ha:a.natAbs<4294967296) (h0:0<b) (hb:b.natAbs<4294967296):F9v (rc (Rat.divInt a b)):=by
 refine⟨_, ?_,rfl⟩;rw[D8m h0];exact E1c (by omega) (A6i (by simpa using ha)) (A6i (by simpa using hb))
theorem B9b (x:A6 M9.args) (hw:awf M9.args x) (hp:M9.pre x):A4a x:=by
 obtain⟨⟨l,i⟩,_⟩:=x;change Int at i;change List Int at l;obtain⟨p1,p2⟩:0<=i/\i<=(l.length:Int):=hp;simp only[A4a];refine⟨⟨by omega,p1,p2⟩, ?_⟩;rintro⟨a,_⟩ ⟨⟨l1,i1⟩,_⟩ _ _ ha ho;change Int at i1 a;change List Int at l1;simp only at ha ho⊢;obtain⟨rfl,h1,h2⟩:=ho;refine⟨⟨by omega,h1,h2⟩, ?_⟩;rintro⟨b,_⟩ ⟨⟨l2,i2⟩,_⟩ _ _ hb ho;change Int at i2 b;change List Int at l2;simp only at hb ho⊢;obtain⟨rfl,h1,h2⟩:=ho;refine⟨trivial, ?_⟩;rintro⟨q,_⟩ _ hq;simp only at hq⊢;rw[wr (by omega) (by omega),wr (by omega) (by omega)]at hq;exact⟨by rw[hq];exact E7z (by omega) (by omega) (by omega),by trivial,h1,h2⟩
theorem G4f {x:N8} (h:F9v x):qs 1 (rv x):=by
 obtain⟨q,hq,rfl⟩:=h;rw[A0t];exact hq
theorem F3r {x:N8} (h:F9v x) {k:Nat} (hk:1<=k):sz k x:=by
 obtain⟨q,hq,rfl⟩:=h;exact⟨Nat.le_trans hq.1 hk,Nat.le_trans hq.2 hk⟩
theorem B1n (x:A6 G6.args) (hw:awf G6.args x) (hp:G6.pre x):A0g x:=by
 obtain⟨⟨l,i⟩,R,C,_⟩:=x;change Int at i R C;change List Int at l;obtain⟨r0,r1,c0,c1,p1,p2⟩:0<=R/\R<=20/\0<=C/\C<=20/\0<=i/\i<=(l.length:Int):=hp;simp only[A0g];refine⟨fun p=>0<=p.2.1/\p.2.1<=R/\(p.1.length:Int)=p.2.1/\(∀v∈p.1,(v.length:Int)=C/\∀e∈v,F9v e)/\p.2.2.1=l/\0<=p.2.2.2.1/\p.2.2.2.1<=(l.length:Int),fun p=>(R-p.2.1).toNat,⟨Int.le_refl _,r0,rfl,fun e he=>(by cases he),rfl,p1,p2⟩, ?_⟩;rintro⟨o,k,l1,i1,_⟩ _ ⟨h0,h1,h2,h3,h4,h5,h6⟩;change Int at k i1;change List Int at l1;change List (List N8)at o;simp only at h0 h1 h2 h3 h4 h5 h6⊢;subst h4;refine⟨fun h=> ?_,fun h=> ?_⟩
 . have h:=of_decide_eq_true h;refine⟨fun p=>0<=p.2.1/\p.2.1<=C/\(p.1.length:Int)=p.2.1/\(∀e∈p.1,F9v e)/\p.2.2.1=l1/\0<=p.2.2.2.1/\p.2.2.2.1<=(l1.length:Int),fun p=>(C-p.2.1).toNat,⟨Int.le_refl _,c0,rfl,fun e he=>(by cases he),rfl,h5,h6⟩, ?_⟩;rintro⟨u,j,l2,i2,_⟩ _ ⟨g0,g1,g2,g3,g4,g5,g6⟩;change Int at j i2;change List Int at l2;change List N8 at u;simp only at g0 g1 g2 g3 g4 g5 g6⊢;subst g4;refine⟨fun h=> ?_,fun h=> ?_⟩
   . have h:=of_decide_eq_true h;refine⟨trivial, ?_⟩;rintro⟨z,_⟩ _ hz;simp only at hz⊢;refine⟨fun p=>p.1=l2/\0<=p.2.1/\p.2.1<=(l2.length:Int)/\F9v ((p.2.2.1,p.2.2.2.1),p.2.2.2.2.1),⟨⟨by omega,g5,g6⟩, ?_⟩, ?_⟩
     . rintro⟨a,_⟩ ⟨⟨l3,i3⟩,_⟩ _ _ ha ho;change Int at i3 a;change List Int at l3;simp only at ha ho⊢;obtain⟨rfl,f1,f2⟩:=ho;refine⟨fun _=>⟨⟨f1,f2⟩, ?_⟩,fun _=> ?_⟩
       . rintro⟨q,_⟩ ⟨⟨l4,i4⟩,_⟩ _ _ hq ho;change Int at i4;change List Int at l4;simp only at hq ho⊢;obtain⟨rfl,e1,e2⟩:=ho;exact⟨by trivial,e1,e2,hq⟩
       . exact⟨by trivial,f1,f2,⟨0,A7f (by decide),hz⟩⟩
     . rintro⟨l3,i3,b,m,d,_⟩ _ ⟨f1,f2,f3,f4⟩;change Int at i3;change List Int at l3;simp only at f1 f2 f3 f4⊢;subst f1;rw[wr (by omega) (by omega)];refine⟨⟨by rw[List.length_singleton];omega,by rw[List.length_singleton];omega⟩,⟨by omega,by omega,by rw[List.length_append,List.length_singleton];omega,fun e he=> ?_,by trivial,f2,f3⟩,by omega⟩;rcases List.mem_append.1 he with he|he
       . exact g3 e he
       . rw[List.mem_singleton.1 he];exact f4
   . have h:=of_decide_eq_false h;rw[wr (by omega) (by omega)];refine⟨⟨by rw[List.length_singleton];omega,by rw[List.length_singleton];omega⟩,⟨by omega,by omega,by rw[List.length_append,List.length_singleton];omega,fun e he=> ?_,by trivial,g5,g6⟩,by omega⟩;rcases List.mem_append.1 he with he|he
     . exact h3 e he
     . rw[List.mem_singleton.1 he];exact⟨by omega,g3⟩
 . have h:=of_decide_eq_false h;refine⟨⟨fun v hv=>⟨fun e he=>F3r ((h3 v hv).2 e he) (by decide),(h3 v hv).1⟩,c0,by omega,by omega⟩, ?_⟩;rintro⟨m,_⟩ _ hm;simp only at hm⊢;refine⟨⟨_,fun a b=> ?_,by rw[show R.toNat=o.length from by omega];exact hm⟩,by trivial,h5,h6⟩;by_cases ha:a<o.length
   . by_cases hb:b<(o.getD a []).length
     . exact G4f ((h3 _ (K6 ha)).2 _ (K6 hb))
     . rw[List.getD_eq_getElem?_getD (l:=o.getD a []),List.getElem?_eq_none (by omega)];exact A7f (by decide)
   . rw[List.getD_eq_getElem?_getD (l:=o),List.getElem?_eq_none (by omega)];exact A7f (by decide)
def E0p:An:= {loop:= [(7,⟨[0,2,3,9,10,11,15,16],[0,1],[(6,false,[.own tQ 31]),(17,false,[.val (.int .i64)])],[],[]⟩),(3,⟨[0,2,9,10],[0],[(3,false,[.own (.sl tQ) 56]),(11,false,[.val (.int .i64)])],[],[]⟩)]}
def C0h:B4:= [(68,O2),(78,T0)]
def D5h:An:= {plan:= [(4,[11,18,25],[],false,(.p 0 (.p 1 (.p 2 (.p 3 (.p 4 (.p 5 (.p 6 (.p 7 (.p 8 (.p 9 (.p 10 (.q 11 (.e 12 (.e 13 (.e 14 (.e 15 (.p 16 (.p 17 (.q 18 (.e 19 (.e 20 (.e 21 (.e 22 (.p 23 (.p 24 (.q 25 (.or 26 (.e 27 (.e 28 (.e 29 (.e 30 (.p 31 (.p 32 .done)))))) (.e 27 (.e 26 (.e 28 (.e 29 (.e 30 (.p 31 (.p 32 .done)))))))))))))))))))))))))))))))))))]}
def B6y:B4:= [(45,N2),(50,P3),(55,T6),(58,H6),(116,U2)]
def E1x:An:= {}
def C0u:B4:= [(58,H6)]
def B0d:A6 U2.args->Prop:=fun(x:List (List Int)×Unit)=>∃(I:List (List QQ)×Int×Unit->Prop),∃(μ:List (List QQ)×Int×Unit->Nat),I ([],(0:Int),())/\∀(p:List (List QQ)×Int×Unit),E4c p.1/\E5 p.2.1/\True->I p->(decide (p.2.1<(x.1.length:Int))=true->(0<=p.2.1/\p.2.1<(x.1.length:Int))/\∃(I_1:List QQ×Int×Unit->Prop),∃(μ_1:List QQ×Int×Unit->Nat),I_1 ([],(0:Int),())/\∀(a:List QQ×Int×Unit),WfL a.1/\E5 a.2.1/\True->I_1 a->(decide (a.2.1<(↑(gx [] x.1 p.2.1).length:Int))=true->(0<=a.2.1/\a.2.1<(↑(gx [] x.1 p.2.1).length:Int))/\True/\∀(r:QQ×Unit),WfQ r.1/\True->r.1=ri (gx (0:Int) (gx [] x.1 p.2.1) a.2.1)->((List.length a.1+ [r.1].length)*(56:Nat)<=(140737488355328:Nat)/\List.length a.1+ [r.1].length<=9223372036854775807)/\I_1 (a.1++ [r.1],IntKind.i64.wrap (a.2.1+1),())/\μ_1 (a.1++ [r.1],IntKind.i64.wrap (a.2.1+1),())<μ_1 a)/\(decide (a.2.1<(↑(gx [] x.1 p.2.1).length:Int))=false->((List.length p.1+ [a.1].length)*(24:Nat)<=(140737488355328:Nat)/\List.length p.1+ [a.1].length<=9223372036854775807)/\I (p.1++ [a.1],IntKind.i64.wrap (p.2.1+1),())/\μ (p.1++ [a.1],IntKind.i64.wrap (p.2.1+1),())<μ p))/\(decide (p.2.1<(x.1.length:Int))=false->((0:Int)<=(0:Int)/\(0:Int)<(x.1.length:Int))/\((∀(l:List QQ),l∈p.1->szL K1 l/\(↑l.length:Int)=(↑(gx [] x.1 (0:Int)).length:Int))/\(0:Int)<=(↑(gx [] x.1 (0:Int)).length:Int)/\(↑(gx [] x.1 (0:Int)).length:Int)<=(16384:Int)/\List.length p.1<=16384)/\∀(r:MM×Unit),WfM r.1/\True->isM (List.length p.1) (↑(gx [] x.1 (0:Int)).length:Int).toNat (fun(i j:Nat)=>rv ((List.getD p.1 i []).getD j zr)) r.1->r.1.1=(↑x.1.length:Int)/\r.1.2.1=(↑(x.1.getD (0:Nat) []).length:Int)/\List.length r.1.2.2=x.1.length/\∀(i:Nat),i<x.1.length->B5p (List.getD r.1.2.2 i [])/\(∀(e:Ent),e∈List.getD r.1.2.2 i []->0<=e.1/\e.1<(↑(x.1.getD (0:Nat) []).length:Int))/\∀(j:Nat),j<(x.1.getD (0:Nat) []).length->D5 (List.getD r.1.2.2 i []) (↑j:Int)=(↑((x.1.getD i []).getD j (0:Int)):Rat))
theorem C8s (x:A6 U2.args):I2 Tryz.prog tys C0h E0p U2 Tryz.f116 x=B0d x:=by kernel_rfl
def qc (r:MM×Unit) (b:MM×Int×Unit) (c:MM×Int×Unit) (a:MM×Int×Unit) (d:Bool×Unit) (f:Bool×Unit):Prop:=∀(r:MM×Unit),(sel (sel (sel (sel (decide (b.2.1=0)) (decide (c.2.1=0)) false) (decide (a.2.1=0)) false) d.1 false) f.1 false=true->(WfM r.1/\True)/\isM [[(3:Int)],[(3:Int)]].length ([[(3:Int)],[(3:Int)]].getD (0:Nat) []).length (fun(i j:Nat)=>(↑(([[(3:Int)],[(3:Int)]].getD i []).getD j (0:Int)):Rat)) r.1)->(sel (sel (sel (sel (decide (b.2.1=0)) (decide (c.2.1=0)) false) (decide (a.2.1=0)) false) d.1 false) f.1 false=true->okM K1 a.1)/\∀(h:Bool×Unit),(sel (sel (sel (sel (decide (b.2.1=0)) (decide (c.2.1=0)) false) (decide (a.2.1=0)) false) d.1 false) f.1 false=true->(True/\True)/\(h.1=true↔a.1=r.1/\∀(v:List EE),v∈a.1.2.2->∀(e:EE),e∈v->e.2=rc (rv e.2)))->sel (sel (sel (sel (sel (decide (b.2.1=0)) (decide (c.2.1=0)) false) (decide (a.2.1=0)) false) d.1 false) f.1 false) h.1 false=true
def qd:Prop:= [[(3:Int)],[(3:Int)]]≠ []/\ [[(3:Int)],[(3:Int)]].length<=(10:Nat)/\∀(l:List Int),l∈ [[(3:Int)],[(3:Int)]]->l.length=([[(3:Int)],[(3:Int)]].getD (0:Nat) []).length/\l.length<=(10:Nat)/\∀(v:Int),v∈l->v.natAbs<(4294967296:Nat)
def A7d:A6 R4.args->Prop:=fun(x:Unit)=>([[(2:Int),(1:Int)],[(4:Int),(5:Int)]]≠ []/\ [[(2:Int),(1:Int)],[(4:Int),(5:Int)]].length<=(10:Nat)/\∀(l:List Int),l∈ [[(2:Int),(1:Int)],[(4:Int),(5:Int)]]->l.length=([[(2:Int),(1:Int)],[(4:Int),(5:Int)]].getD (0:Nat) []).length/\l.length<=(10:Nat)/\∀(v:Int),v∈l->v.natAbs<(4294967296:Nat))/\∀(r:MM×Unit),WfM r.1/\True->isM [[(2:Int),(1:Int)],[(4:Int),(5:Int)]].length ([[(2:Int),(1:Int)],[(4:Int),(5:Int)]].getD (0:Nat) []).length (fun(i j:Nat)=>(↑(([[(2:Int),(1:Int)],[(4:Int),(5:Int)]].getD i []).getD j (0:Int)):Rat)) r.1->okM K0 r.1/\∀(b:MM×Int×Unit),WfM b.1/\E5 b.2.1/\True->(¬A7 r.1->b.1=zm/\b.2.1=1)/\(A7 r.1->(¬((0:Int)<=(0:Int)/\0<r.1.1/\(0:Int)<=(0:Int)/\0<r.1.2.1)->b.1=zm/\b.2.1=3)/\((0:Int)<=(0:Int)/\0<r.1.1/\(0:Int)<=(0:Int)/\0<r.1.2.1->(el r.1 (Int.toNat (0:Int)) (Int.toNat (0:Int))=(0:Rat)->b.1=zm/\b.2.1=5)/\(el r.1 (Int.toNat (0:Int)) (Int.toNat (0:Int))≠(0:Rat)->isM (r.1.1-1).toNat (r.1.2.1-1).toNat (F8l r.1 (Int.toNat (0:Int)) (Int.toNat (0:Int))) b.1/\b.2.1=0)))->([[(1:Int),(2:Int)]]≠ []/\ [[(1:Int),(2:Int)]].length<=(10:Nat)/\∀(l:List Int),l∈ [[(1:Int),(2:Int)]]->l.length=([[(1:Int),(2:Int)]].getD (0:Nat) []).length/\l.length<=(10:Nat)/\∀(v:Int),v∈l->v.natAbs<(4294967296:Nat))/\∀(r:MM×Unit),WfM r.1/\True->isM [[(1:Int),(2:Int)]].length ([[(1:Int),(2:Int)]].getD (0:Nat) []).length (fun(i j:Nat)=>(↑(([[(1:Int),(2:Int)]].getD i []).getD j (0:Int)):Rat)) r.1->([[(3:Int)],[(4:Int)]]≠ []/\ [[(3:Int)],[(4:Int)]].length<=(10:Nat)/\∀(l:List Int),l∈ [[(3:Int)],[(4:Int)]]->l.length=([[(3:Int)],[(4:Int)]].getD (0:Nat) []).length/\l.length<=(10:Nat)/\∀(v:Int),v∈l->v.natAbs<(4294967296:Nat))/\∀(g:MM×Unit),WfM g.1/\True->isM [[(3:Int)],[(4:Int)]].length ([[(3:Int)],[(4:Int)]].getD (0:Nat) []).length (fun(i j:Nat)=>(↑(([[(3:Int)],[(4:Int)]].getD i []).getD j (0:Int)):Rat)) g.1->(okM K0 r.1/\okM K0 g.1/\r.1.2.1<=1000)/\∀(c:MM×Int×Unit),WfM c.1/\E5 c.2.1/\True->(¬(A7 r.1/\A7 g.1)->c.1=zm/\c.2.1=1)/\(A7 r.1/\A7 g.1->(r.1.2.1≠g.1.1->c.1=zm/\c.2.1=4)/\(r.1.2.1=g.1.1->isM (Int.toNat r.1.1) (Int.toNat g.1.2.1) (fun(i j:Nat)=>A5y (Int.toNat r.1.2.1) fun(k:Nat)=>el r.1 i k*el g.1 k j) c.1/\c.2.1=0))->([[(1:Int),(2:Int)],[(3:Int),(4:Int)]]≠ []/\ [[(1:Int),(2:Int)],[(3:Int),(4:Int)]].length<=(10:Nat)/\∀(l:List Int),l∈ [[(1:Int),(2:Int)],[(3:Int),(4:Int)]]->l.length=([[(1:Int),(2:Int)],[(3:Int),(4:Int)]].getD (0:Nat) []).length/\l.length<=(10:Nat)/\∀(v:Int),v∈l->v.natAbs<(4294967296:Nat))/\∀(r:MM×Unit),WfM r.1/\True->isM [[(1:Int),(2:Int)],[(3:Int),(4:Int)]].length ([[(1:Int),(2:Int)],[(3:Int),(4:Int)]].getD (0:Nat) []).length (fun(i j:Nat)=>(↑(([[(1:Int),(2:Int)],[(3:Int),(4:Int)]].getD i []).getD j (0:Int)):Rat)) r.1->(okM K1 r.1/\ [(1:Int),(1:Int)].length<=(1000:Nat)/\ [(0:Int)].length<=(1000:Nat)/\ [(0:Int)].Nodup)/\∀(a:MM×Int×Unit),WfM a.1/\E5 a.2.1/\True->(¬A7 r.1->a.1=zm/\a.2.1=1)/\(A7 r.1->(((∃(i:Int),i∈ [(1:Int),(1:Int)]/\(i<(0:Int)\/r.1.1<=i))\/∃(i:Int),i∈ [(0:Int)]/\(i<(0:Int)\/r.1.2.1<=i))->a.1=zm/\a.2.1=3)/\(¬((∃(i:Int),i∈ [(1:Int),(1:Int)]/\(i<(0:Int)\/r.1.1<=i))\/∃(i:Int),i∈ [(0:Int)]/\(i<(0:Int)\/r.1.2.1<=i))->((16384:Nat)< [(1:Int),(1:Int)].length\/(16384:Nat)< [(0:Int)].length->a.1=zm/\a.2.1=8)/\([(1:Int),(1:Int)].length<=(16384:Nat)/\ [(0:Int)].length<=(16384:Nat)->isM [(1:Int),(1:Int)].length [(0:Int)].length (fun(i j:Nat)=>el r.1 ([(1:Int),(1:Int)].getD i (0:Int)).toNat ([(0:Int)].getD j (0:Int)).toNat) a.1/\a.2.1=0)))->(sel (sel (decide (b.2.1=0)) (decide (c.2.1=0)) false) (decide (a.2.1=0)) false=true-> [[(3:Int)]]≠ []/\ [[(3:Int)]].length<=(10:Nat)/\∀(l:List Int),l∈ [[(3:Int)]]->l.length=([[(3:Int)]].getD (0:Nat) []).length/\l.length<=(10:Nat)/\∀(v:Int),v∈l->v.natAbs<(4294967296:Nat))/\∀(r:MM×Unit),(sel (sel (decide (b.2.1=0)) (decide (c.2.1=0)) false) (decide (a.2.1=0)) false=true->(WfM r.1/\True)/\isM [[(3:Int)]].length ([[(3:Int)]].getD (0:Nat) []).length (fun(i j:Nat)=>(↑(([[(3:Int)]].getD i []).getD j (0:Int)):Rat)) r.1)->(sel (sel (decide (b.2.1=0)) (decide (c.2.1=0)) false) (decide (a.2.1=0)) false=true->okM K1 b.1)/\∀(d:Bool×Unit),(sel (sel (decide (b.2.1=0)) (decide (c.2.1=0)) false) (decide (a.2.1=0)) false=true->(True/\True)/\(d.1=true↔b.1=r.1/\∀(v:List EE),v∈b.1.2.2->∀(e:EE),e∈v->e.2=rc (rv e.2)))->(sel (sel (sel (decide (b.2.1=0)) (decide (c.2.1=0)) false) (decide (a.2.1=0)) false) d.1 false=true-> [[(11:Int)]]≠ []/\ [[(11:Int)]].length<=(10:Nat)/\∀(l:List Int),l∈ [[(11:Int)]]->l.length=([[(11:Int)]].getD (0:Nat) []).length/\l.length<=(10:Nat)/\∀(v:Int),v∈l->v.natAbs<(4294967296:Nat))/\∀(r:MM×Unit),(sel (sel (sel (decide (b.2.1=0)) (decide (c.2.1=0)) false) (decide (a.2.1=0)) false) d.1 false=true->(WfM r.1/\True)/\isM [[(11:Int)]].length ([[(11:Int)]].getD (0:Nat) []).length (fun(i j:Nat)=>(↑(([[(11:Int)]].getD i []).getD j (0:Int)):Rat)) r.1)->(sel (sel (sel (decide (b.2.1=0)) (decide (c.2.1=0)) false) (decide (a.2.1=0)) false) d.1 false=true->okM K1 c.1)/\∀(f:Bool×Unit),(sel (sel (sel (decide (b.2.1=0)) (decide (c.2.1=0)) false) (decide (a.2.1=0)) false) d.1 false=true->(True/\True)/\(f.1=true↔c.1=r.1/\∀(v:List EE),v∈c.1.2.2->∀(e:EE),e∈v->e.2=rc (rv e.2)))->((sel (sel (sel (sel (decide (b.2.1=0)) (decide (c.2.1=0)) false) (decide (a.2.1=0)) false) d.1 false) f.1 false=true->qd)/\qc r b c a d f)/\(sel (sel (sel (sel (decide (b.2.1=0)) (decide (c.2.1=0)) false) (decide (a.2.1=0)) false) d.1 false) f.1 false=true->qd)/\qc r b c a d f
theorem C5j (x:A6 R4.args):I2 Tryz.prog tys B6y D5h R4 Tryz.f47 x=A7d x:=by kernel_rfl
def B0i:A6 T9.args->Prop:=fun(x:MM×Int×MM×Int×Unit)=>(decide (x.2.1=x.2.2.2.1)=true->okM K1 x.1)/\∀(r:Bool×Unit),(decide (x.2.1=x.2.2.2.1)=true->(True/\True)/\(r.1=true↔x.1=x.2.2.1/\∀(v:List EE),v∈x.1.2.2->∀(e:EE),e∈v->e.2=rc (rv e.2)))->(sel (decide (x.2.1=x.2.2.2.1)) r.1 false=true↔x.2.1=x.2.2.2.1/\x.1=x.2.2.1/\∀(v:List EE),v∈x.1.2.2->∀(e:EE),e∈v->e.2=rc (rv e.2))
theorem C8e (x:A6 T9.args):I2 Tryz.prog tys C0u E1x T9 Tryz.f48 x=B0i x:=by kernel_rfl
theorem G6o (k:Int):ri k=rc (k:Rat):=by
 unfold ri rc;rw[Rat.num_intCast,Rat.den_intCast,C1e]
theorem C8r (x:A6 U2.args) (hw:awf U2.args x) (hp:U2.pre x):B0d x:=by
 obtain⟨L,_⟩:=x;change List (List Int)at L;obtain⟨hne,hl,hr⟩:L≠ []/\L.length<=10/\∀l∈L,l.length=(L.getD 0 []).length/\l.length<=10/\∀v∈l,v.natAbs<4294967296:=hp;have hpos:0<L.length:=List.length_pos_iff.2 hne;have h0:gx [] L 0=L.getD 0 []:=V5 (Int.le_refl _) (by omega)
 let G:Nat->List N8:=fun i=>(L.getD i []).map ri
 simp only[B0d];refine⟨fun p=>0<=p.2.1/\p.2.1<=(L.length:Int)/\p.1=(List.range p.2.1.toNat).map G,fun p=>((L.length:Int)-p.2.1).toNat,⟨Int.le_refl _,by show(0:Int)<= _;omega,rfl⟩, ?_⟩;rintro⟨o,k,_⟩ _ ⟨k0,k1,ho⟩;change Int at k;change List (List N8)at o;simp only at k0 k1 ho⊢;refine⟨fun h=> ?_,fun h=> ?_⟩
 . have h:=of_decide_eq_true h;have hm:=hr _ (N0 (d:=([]:List Int)) k0 h);have hG:G k.toNat=(gx [] L k).map ri:=by show(L.getD k.toNat []).map ri= _;rw[V5 k0 h]
   refine⟨⟨k0,h⟩, ?_⟩;generalize gx [] L k=l at hm hG⊢;refine⟨fun p=>0<=p.2.1/\p.2.1<=(l.length:Int)/\p.1=(l.take p.2.1.toNat).map ri,fun p=>((l.length:Int)-p.2.1).toNat,⟨Int.le_refl _,by simp,rfl⟩, ?_⟩;rintro⟨u,j,_⟩ _ ⟨j0,j1,hu⟩;change Int at j;change List N8 at u;simp only at j0 j1 hu⊢;refine⟨fun h2=> ?_,fun h2=> ?_⟩
   . have h2:=of_decide_eq_true h2;refine⟨⟨j0,h2⟩,trivial, ?_⟩;rintro⟨q,_⟩ _ hq;simp only at hq⊢;have hul:u.length=j.toNat:=by rw[hu];simp;omega
     rw[wr (by omega) (by omega)];refine⟨⟨by rw[List.length_singleton];omega,by rw[List.length_singleton];omega⟩,⟨by omega,by omega, ?_⟩,by omega⟩;rw[show(j+1).toNat=j.toNat+1 from by omega,List.take_add_one,K9 (d:=(0:Int)) j0 h2,List.map_append,hu,hq];rfl
   . have h2:=of_decide_eq_false h2;rw[E2 (by omega)]at hu;have hol:o.length=k.toNat:=by rw[ho];simp
     rw[wr (by omega) (by omega)];refine⟨⟨by rw[List.length_singleton];omega,by rw[List.length_singleton];omega⟩,⟨by omega,by omega, ?_⟩,by omega⟩;rw[F0e G k0, <-ho,hG,hu]
 . have h:=of_decide_eq_false h;have hol:o.length=L.length:=by rw[ho];simp;omega
   have hat:∀i,i<L.length->o.getD i []=G i:=fun i hi=>by
    rw[ho,List.getD_eq_getElem?_getD,List.getElem?_map,List.getElem?_range (by omega)];rfl
   have hc:=hr _ (K6 (d:=([]:List Int)) hpos);have hval:∀i j,i<L.length->j<(L.getD 0 []).length->rv ((o.getD i []).getD j zr)=(((L.getD i []).getD j 0:Int):Rat):=fun i j hi hj=>by
    have h5:=(hr _ (K6 (d:=([]:List Int)) hi)).1;rw[hat i hi];show rv (List.getD (List.map ri _) j zr)= _;have e1:=List.getElem?_eq_getElem (l:=L.getD i []) (i:=j) (by omega);rw[List.getD_eq_getElem?_getD,List.getElem?_map,List.getD_eq_getElem?_getD (l:=L.getD i []),e1];show rv (ri _)= _;rw[G6o,A0t];rfl
   refine⟨⟨Int.le_refl _,by omega⟩,⟨fun v hv=> ?_,by omega,by rw[h0];omega,by omega⟩, ?_⟩
   . rw[ho]at hv;obtain⟨i,hi,rfl⟩:=List.mem_map.1 hv;rw[List.mem_range]at hi;have h5:=hr _ (K6 (d:=([]:List Int)) (i:=i) (l:=L) (by omega));refine⟨fun e he=> ?_,by rw[h0];show((List.map ri _).length:Int)= _;rw[List.length_map,h5.1]⟩;obtain⟨v,hv,rfl⟩:=List.mem_map.1 he;rw[G6o];exact F3r ⟨_,G1p (h5.2.2 v hv),rfl⟩ (by decide)
   . rintro⟨m,_⟩ _ hm;simp only at hm⊢;rw[hol,h0,Int.toNat_natCast]at hm;exact B2w hm hval
theorem C8k (x:A6 T9.args) (hw:awf T9.args x) (hp:T9.pre x):B0i x:=by
 obtain⟨m,c,m',c',_⟩:=x;change Int at c c';simp only[B0i];refine⟨fun _=>hp, ?_⟩;rintro⟨r,_⟩ hr;simp only at hr⊢;rw[O1];by_cases h:c=c'
 . rw[decide_eq_true h];have hr:=(hr (decide_eq_true h)).2;rw[Bool.true_and,hr];exact⟨fun h2=>⟨h,h2⟩,fun h2=>h2.2⟩
 . rw[decide_eq_false h];exact⟨fun h2=>(by cases h2),fun h2=>absurd h2.1 h⟩
theorem A8p {R C:Nat} {f:Nat->Nat->Rat} {m:B1t} (h:isM R C f m):∀v∈m.2.2,∀e∈v,e.2=rc (rv e.2):=fun v hv e he=>by
 obtain⟨i,hi,rfl⟩:=B4t [] hv;exact((h.2.2.2 i (by rw[<-h.2.2.1];exact hi)).1.2 e he).2
theorem B8b {R C k:Nat} {f:Nat->Nat->Rat} {m:B1t} (h:isM R C f m) (hk:1<=k) (hf:∀i j,i<R->j<C->∃v:Int,f i j=(v:Rat)/\v.natAbs<4294967296):okM k m:=E9a h hk fun i j hi hj=>by
 obtain⟨v,e,hv⟩:=hf i j hi hj;rw[e];exact C6y (G1p hv) hk
theorem B7x {L:List (List Int)} (h:∀l∈L,∀v∈l,v.natAbs<4294967296) (i j:Nat):∃v:Int,(((L.getD i []).getD j 0:Int):Rat)=(v:Rat)/\v.natAbs<4294967296:=by
 refine⟨_,rfl, ?_⟩;by_cases hi:i<L.length
 . by_cases hj:j<(L.getD i []).length
   . exact h _ (K6 hi) _ (K6 hj)
   . rw[List.getD_eq_getElem?_getD (l:=L.getD i []),List.getElem?_eq_none (by omega)];decide
 . rw[List.getD_eq_getElem?_getD (l:=L),List.getElem?_eq_none (by omega)];simp
theorem F7p:(5:Rat)-4*1/2=3:=by decide+kernel
theorem F1o:(0:Rat)+1*3+2*4=11:=by decide+kernel
theorem C5k (x:A6 R4.args) (hw:awf R4.args x) (hp:R4.pre x):A7d x:=by
 simp only[A7d,qc,qd];refine⟨by decide, ?_⟩;rintro⟨A,_⟩ _ hA;simp only at hA⊢;have vA:=A8z hA (by decide) (by decide);refine⟨B8b hA (by decide) fun i j _ _=>B7x (by decide) i j, ?_⟩;rintro⟨P,c1,_⟩ _ ⟨_,hP⟩;change Int at c1;simp only at hP⊢;have A1:A.1=2:=hA.1;have A2:A.2.1=2:=hA.2.1;have hP:=(hP vA).2 (by rw[A1,A2];decide);have el00:el A 0 0=2:=A7x hA (by decide) (by decide);have el01:el A 0 1=1:=A7x hA (by decide) (by decide);have el10:el A 1 0=4:=A7x hA (by decide) (by decide);have el11:el A 1 1=5:=A7x hA (by decide) (by decide);obtain⟨hP2,rfl⟩:=hP.2 (by show el A 0 0≠0;rw[el00];decide);clear hP;rw[A1,A2]at hP2;have hP:isM 1 1 (fun i j=>(((([[3]]:List (List Int)).getD i []).getD j 0:Int):Rat)) P:=B2w hP2 fun i j hi hj=>by
  have:i=0:=by omega
  subst this;have:j=0:=by have:j<1:=hj;omega
  subst this;show el A 1 1-el A 1 0*el A 0 1/el A 0 0=3;rw[el00,el01,el10,el11];exact F7p
 refine⟨by decide, ?_⟩;rintro⟨B,_⟩ _ hB;simp only at hB⊢;have vB:=A8z hB (by decide) (by decide);refine⟨by decide, ?_⟩;rintro⟨C,_⟩ _ hC;simp only at hC⊢;have vC:=A8z hC (by decide) (by decide);have B1:B.1=1:=hB.1;have B2:B.2.1=2:=hB.2.1;have C1:C.1=2:=hC.1;have C2:C.2.1=1:=hC.2.1;refine⟨⟨B8b hB (by decide) fun i j _ _=>B7x (by decide) i j,B8b hC (by decide) fun i j _ _=>B7x (by decide) i j,by rw[B2];decide⟩, ?_⟩;rintro⟨Q,c2,_⟩ _ ⟨_,hQ⟩;change Int at c2;simp only at hQ⊢;obtain⟨hQ2,rfl⟩:=(hQ ⟨vB,vC⟩).2 (by rw[B2,C1]);clear hQ;rw[B1,B2,C2]at hQ2;have hQ:isM 1 1 (fun i j=>(((([[11]]:List (List Int)).getD i []).getD j 0:Int):Rat)) Q:=B2w hQ2 fun i j hi hj=>by
  have:i=0:=by have:i<1:=hi;omega
  subst this;have:j=0:=by have:j<1:=hj;omega
  subst this;have b0:el B 0 0=1:=A7x hB (by decide) (by decide);have b1:el B 0 1=2:=A7x hB (by decide) (by decide);have d0:el C 0 0=3:=A7x hC (by decide) (by decide);have d1:el C 1 0=4:=A7x hC (by decide) (by decide);show(0:Rat)+el B 0 0*el C 0 0+el B 0 1*el C 1 0=11;rw[b0,b1,d0,d1];exact F1o
 refine⟨by decide, ?_⟩;rintro⟨D,_⟩ _ hD;simp only at hD⊢;have vD:=A8z hD (by decide) (by decide);have D1:D.1=2:=hD.1;have D2:D.2.1=2:=hD.2.1;refine⟨⟨B8b hD (by decide) fun i j _ _=>B7x (by decide) i j,by decide,by decide,by decide⟩, ?_⟩;rintro⟨S,c3,_⟩ _ ⟨_,hS⟩;change Int at c3;simp only at hS⊢;have hS:=(hS vD).2 (by rw[D1,D2];decide);obtain⟨hS2,rfl⟩:=hS.2 (by decide);clear hS;have hS:isM 2 1 (fun i j=>(((([[3],[3]]:List (List Int)).getD i []).getD j 0:Int):Rat)) S:=B2w hS2 fun i j hi hj=>by
  have:j=0:=by have:j<1:=hj;omega
  subst this;have d0:el D 1 0=3:=A7x hD (by decide) (by decide);have hi:i<2:=hi;rcases(by omega:i=0\/i=1)with rfl|rfl
  . exact d0
  . exact d0
 refine⟨fun _=>by decide, ?_⟩;rintro⟨P',_⟩ hP';simp only at hP'⊢;have hP':=(hP' rfl).2;refine⟨fun _=>B8b hP (by decide) fun i j _ _=>B7x (by decide) i j, ?_⟩;rintro⟨b1,_⟩ hb1;simp only at hb1⊢;have hb1:b1=true:=(hb1 rfl).2.2 ⟨C4o hP hP' fun _ _ _ _=>rfl,A8p hP⟩;subst hb1;refine⟨fun _=>by decide, ?_⟩;rintro⟨Q',_⟩ hQ';simp only at hQ'⊢;have hQ':=(hQ' rfl).2;refine⟨fun _=>B8b hQ (by decide) fun i j _ _=>B7x (by decide) i j, ?_⟩;rintro⟨b2,_⟩ hb2;simp only at hb2⊢;have hb2:b2=true:=(hb2 rfl).2.2 ⟨C4o hQ hQ' fun _ _ _ _=>rfl,A8p hQ⟩;subst hb2;have key:∀(S':B1t),isM 2 1 (fun i j=>(((([[3],[3]]:List (List Int)).getD i []).getD j 0:Int):Rat)) S'->∀b3:Bool,(b3=true↔S=S'/\∀v∈S.2.2,∀e∈v,e.2=rc (rv e.2))->b3=true:=fun S' hS' b3 hb=>hb.2 ⟨C4o hS hS' fun _ _ _ _=>rfl,A8p hS⟩
 have kS:okM K1 S:=B8b hS (by decide) fun i j _ _=>B7x (by decide) i j
 refine⟨⟨fun _=>by decide, ?_⟩,fun _=>by decide, ?_⟩
 . rintro⟨S',_⟩ hS';simp only at hS'⊢;refine⟨fun _=>kS, ?_⟩;rintro⟨b3,_⟩ hb3;simp only at hb3⊢;rw[key S' (hS' rfl).2 b3 (hb3 rfl).2];rfl
 . rintro⟨S',_⟩ hS';simp only at hS'⊢;refine⟨fun _=>kS, ?_⟩;rintro⟨b3,_⟩ hb3;simp only at hb3⊢;rw[key S' (hS' rfl).2 b3 (hb3 rfl).2];rfl
def G7e (k:Nat) (a b:B1t) (c d:Int):Prop:=a=b/\c=d/\(∀v∈a.2.2,∀e∈v,e.2=rc (rv e.2))/\okM k a
theorem F5q {k:Nat} {a b:B1t} {c d e:Int} (h1:a=zm/\c=e) (h2:b=zm/\d=e):G7e k a b c d:=by
 obtain⟨rfl,rfl⟩:=h1;obtain⟨rfl,rfl⟩:=h2;exact⟨rfl,rfl,fun _ h=>(by cases h),fun _ h=>(by cases h)⟩
theorem G0r {k R C:Nat} {f g:Nat->Nat->Rat} {a b:B1t} {c d e:Int} (h1:isM R C f a/\c=e) (h2:isM R C g b/\d=e) (hfg:∀i j,i<R->j<C->f i j=g i j) (hk:1<=k) (hf:∀i j,i<R->j<C->qs k (f i j)):G7e k a b c d:=
 ⟨C4o h1.1 h2.1 hfg,h1.2.trans h2.2.symm,A8p h1.1,E9a h1.1 hk hf⟩
end Go.Proofs.YtkdmjgcjpmcjjaaGreat
namespace Go.Vc
open Go Go.RowKit Go.Gw Go.Shelf
structure El (t:Ty) (w:World) (Z:Nat->Prop) where
 c:List Value
 v:t.den
 h:Rep t w Z c v
theorem F0j {t:Ty} {w:World} {Z:Nat->Prop} :∀ {l:List t.den} {xs:List Value},R8 (Rep t w Z) xs l->∃L:List (El t w Z),L.flatMap El.c=xs/\L.map El.v=l
 | [],_,h=>⟨[],h.symm,rfl⟩
 |x::l,_,⟨c1,c2,e,h1,h2⟩=>by
  obtain⟨L,i1,i2⟩:=F0j h2;exact⟨⟨c1,x,h1⟩::L,by rw[List.flatMap_cons,i1,e],by rw[List.map_cons,i2]⟩
theorem F0h {t:Ty} {w w':World} {Z Z':Nat->Prop} (hm:∀c x,Rep t w Z c x->Rep t w' Z' c x):∀L:List (El t w Z),R8 (Rep t w' Z') (L.flatMap El.c) (L.map El.v)
 | []=>rfl
 |p::L=>⟨p.c,L.flatMap El.c,rfl,hm _ _ p.h,F0h hm L⟩
theorem F0i {α:Type} {enc:α->List Value} {k:Nat} (hk:∀x,(enc x).length=k):∀(L:List α) (i r:Nat) {x:α},L[i]? =some x->r<k->(L.flatMap enc)[i*k+r]? =(enc x)[r]?
 | [],_,_,_,h,_=>by cases h
 |y::L,0,r,x,h,hr=>by
  simp only[List.getElem?_cons_zero,Option.some.injEq]at h;subst h;rw[List.flatMap_cons,Nat.zero_mul,Nat.zero_add,List.getElem?_append_left (by rw[hk];exact hr)]
 |y::L,i+1,r,x,h,hr=>by
  rw[List.getElem?_cons_succ]at h;have e:(i+1)*k+r-k=i*k+r:=by rw[Nat.succ_mul];omega
  rw[List.flatMap_cons,List.getElem?_append_right (by rw[hk,Nat.succ_mul];omega),hk,e];exact F0i hk L i r h hr
theorem E8v {α:Type} {enc:α->List Value} {k:Nat} (hk:∀x,(enc x).length=k):∀L:List α,(L.flatMap enc).length=L.length*k
 | []=>by simp
 |x::L=>by rw[List.flatMap_cons,List.length_append,E8v hk L,hk,List.length_cons,Nat.succ_mul];omega
theorem F0l {α:Type} [Inhabited α] {enc:α->List Value} {k:Nat} (hk:∀x,(enc x).length=k) (d:Array α) {j:Nat} (hj:j<d.size*k):(d.toList.flatMap enc)[j]? =some (Go.Sort.flatK enc k d)[j]!:=by
 have hk0:0<k:=by
  rcases Nat.eq_zero_or_pos k with h|h
  . rw[h,Nat.mul_zero]at hj;omega
  . exact h
 have hi:j/k<d.size:=(Nat.div_lt_iff_lt_mul hk0).2 hj;have hr:j%k<k:=Nat.mod_lt _ hk0;have e:j=j/k*k+j%k:=by rw[Nat.mul_comm];exact(Nat.div_add_mod j k).symm
 rw[Go.Sort.get_flatK enc k d j hj];have hx:d.toList[j/k]? =some d[j/k]!:=by
  rw[Array.getElem?_toList,Array.getElem?_eq_getElem hi,getElem!_pos d _ hi]
 have:=F0i hk d.toList (j/k) (j%k) hx hr;rw[<-e]at this;have hl:j%k<(enc d[j/k]!).length:=by rw[hk];exact hr
 rw[this,List.getElem?_eq_getElem hl,getElem!_pos (enc d[j/k]!) (j%k) hl]
theorem F7c {F cur:Array Value} {n:Nat} {xs:List Value} (hx:xs.length=n) (hF:F.size=n) (hn:n<=cur.size) (h:∀j,j<n->xs[j]? =some F[j]!):(Go.Sort.putCells id 0 F cur).size=cur.size/\(Go.Sort.putCells id 0 F cur).toList.take n=xs:=by
 refine⟨by simp[Go.Sort.putCells], ?_⟩;apply List.ext_getElem?;intro j;by_cases hj:j<n
 . rw[List.getElem?_take_of_lt hj,h j hj,Array.getElem?_toList];unfold Go.Sort.putCells;rw[Array.getElem?_mapIdx,Array.getElem?_eq_getElem (by omega)];simp only[Option.map_some];rw[if_pos ⟨Nat.zero_le _,by omega⟩];rfl
 . rw[List.getElem?_eq_none (by simp;omega),List.getElem?_eq_none (by omega)]
theorem G0x {α:Type} [Inhabited α] {d d':Array α} (h:Go.Sort.PermIn 0 d.size d d'):d'.toList.Perm d.toList:=by
 obtain⟨h1,_,h3⟩:=h;rw[Array.toList_extract,Array.toList_extract]at h3;simpa[List.extract_eq_take_drop,List.take_of_length_le,h1]using h3
theorem F3d {α:Type} [Inhabited α] {lt:α->α->Bool} {d':Array α} {n:Nat} (hn:d'.size=n) (h:Go.Sort.SortedIn lt 0 n d'):d'.toList.Pairwise fun a b=>lt b a=false:=by
 rw[List.pairwise_iff_getElem];intro i j hi hj hij;have hi':i<d'.size:=by simpa using hi
 have hj':j<d'.size:=by simpa using hj
 have:=h i j (Nat.zero_le _) hij (by omega);rw[getElem!_pos d' i hi',getElem!_pos d' j hj']at this;simpa using this
theorem G2m {w:World} {b m:Nat} {f:Array Value->Array Value} {os:Array Obj} :w.heap.size<=(Go.Sort.grow (Go.Sort.mapBlock (Go.Sort.ahead w m) b f) os).heap.size:=by
 simp[Go.Sort.grow,Go.Sort.mapBlock,Go.Sort.ahead]
theorem E9q {w:World} {b m j:Nat} {f:Array Value->Array Value} {os:Array Obj} (hj:j<w.heap.size) (hne:j≠b):(Go.Sort.grow (Go.Sort.mapBlock (Go.Sort.ahead w m) b f) os).heap[j]? =w.heap[j]?:=by
 rw[Go.Sort.heap_grow_old _ _ (by simpa[Go.Sort.mapBlock,Go.Sort.ahead]using hj)];unfold Go.Sort.mapBlock;simp only;rw[Array.getElem?_modify,if_neg (Ne.symm hne)];rfl
theorem G2z {w:World} {b m:Nat} {f:Array Value->Array Value} {os:Array Obj} {cur:Array Value} {e:TypeId} (hh:w.heap[b]? =some (.cells cur e (0,0))):(Go.Sort.grow (Go.Sort.mapBlock (Go.Sort.ahead w m) b f) os).heap[b]? =some (.cells (f cur) e (0,0)):=by
 have hj:b<w.heap.size:=(Array.getElem?_eq_some_iff.1 hh).1;rw[Go.Sort.heap_grow_old _ _ (by simpa[Go.Sort.mapBlock,Go.Sort.ahead]using hj)];unfold Go.Sort.mapBlock;simp only;rw[Array.getElem?_modify,if_pos rfl];have:(Go.Sort.ahead w m).heap[b]? =some (.cells cur e (0,0)):=hh;rw[this];rfl
theorem B4u {P:Program} {f:FuncId} (he:A6t P f=true) (args:Array Value) (w:World):(callFunc f args).run P w= .ok (.enter f args) w:=by
 unfold A6t at he;split at he
 . rename_i fn hfn;simp only[Bool.and_eq_true,Bool.not_eq_true']at he;have h2:¬fn.body=none:=by intro hb;rw[hb]at he;simp at he
   have h1:¬fn.name= "runtime.NumGoroutine" :=by simpa using he.1
   simp[callFunc,hfn,h1,h2,go_sem]
 . cases he
theorem G2o {α β:Type} {φ:α->α->Int} (v:β->α) (h1:∀a,¬φ a a<0) (h2:∀a b c,φ a b<0->φ b c<0->φ a c<0) (h3:∀a b c,¬φ a b<0->¬φ b c<0->¬φ a c<0):
 Go.Sort.SWO (Go.Proofs.ltOf fun x y:β=>φ (v x) (v y)):=by
 refine⟨fun x=> ?_,fun x y z h h'=> ?_,fun x y z h h'=> ?_⟩
 . exact decide_eq_false (h1 _)
 . exact decide_eq_true (h2 _ _ _ (of_decide_eq_true h) (of_decide_eq_true h'))
 . exact decide_eq_false (h3 _ _ _ (of_decide_eq_false h) (of_decide_eq_false h'))
theorem F4m {t:Ty} {φ:t.den->t.den->Int} {e:TypeId} {w w':World} {Z:Nat->Prop} {fv:Value} {g cap:Nat} {cur F:Array Value} {k:Nat} {x:List t.den} {L L':List (El t w Z)}
 (hZ:∀b,Z b->b<w.heap.size) (hgZ:¬Z g) (hk:t.size=k)
 (hheap:w.heap[g]? =some (.cells cur e (0,0))) (hcap:L.length<=cap) (hmax:cap<=maxLen) (hcs:cur.size=cap*k) (hLx:L.map El.v=x)
 (hp:L'.Perm L) (hs:L'.Pairwise fun a b=>¬φ b.v a.v<0)
 (hF:F.size=L.length*k) (hFx:∀j,j<L.length*k->(L'.flatMap El.c)[j]? =some F[j]!)
 (hos:w'.os=w.os) (htape:w'.tape=w.tape) (hout:w'.output=w.output) (hsz:w.heap.size<=w'.heap.size)
 (hblk:∀j,j<w.heap.size->j≠g->w'.heap[j]? =w.heap[j]?) (hg:w'.heap[g]? =some (.cells (Go.Sort.putCells id 0 F cur) e (0,0))):
 C3p (G1k w (A0b t e φ).args [.slice (some ⟨g,0,none⟩) L.length cap,fv]) w w'/\∃(r:A6b (A0b t e φ).res) (o:D6o (A0b t e φ).args) (us:List Value) (Zn:Nat->Prop),(A0b t e φ).post (x,()) r/\(U4 (A0b t e φ).args=true->(A0b t e φ).mpost (x,()) r o)/\Value.tuple #[]=D4c us/\(∀b,Zn b->(w.heap.size<=b/\b<w'.heap.size)\/((A0b t e φ).shared=true/\Z b))/\C4z w.heap.size w' Zn (A0b t e φ).res us r/\E2p w w' Zn (A0b t e φ).args [.slice (some ⟨g,0,none⟩) L.length cap,fv] o:=by
 have hlen:L'.length=L.length:=hp.length_eq;have hc:∀p:El t w Z,p.c.length=k:=fun p=>by rw[<-hk];exact Rep.length p.h
 have hxl:(L'.flatMap El.c).length=L.length*k:=by rw[E8v hc,hlen]
 obtain⟨p1,p2⟩:=F7c hxl hF (by rw[hcs];exact Nat.mul_le_mul_right _ hcap) hFx;have hsame:X6 Z w w':=fun b hb=>hblk b (hZ b hb) (fun e=>hgZ (e▸hb))
 refine⟨⟨hos,htape,hout,hsz,fun j hj hm=>hblk j hj (fun ej=>hm ?_),trivial⟩,(),(L'.map El.v,()),[],Z,trivial,fun _=>⟨?_, ?_⟩,rfl,fun b hb=> .inr ⟨rfl,hb⟩,rfl, ?_⟩
 . subst ej;refine⟨(.row t e, .slice (some ⟨j,0,none⟩) L.length cap),List.mem_cons_self, ?_⟩;rfl
 . rw[<-hLx];exact hp.map _
 . exact List.pairwise_map.2 hs
 . refine⟨⟨L'.flatMap El.c,⟨?_, .inr ⟨g,cap,Go.Sort.putCells id 0 F cur, ?_,Nat.zero_le _,hg, ?_,hmax, ?_, ?_⟩⟩, ?_⟩,trivial⟩
   . simp only[List.length_map];rw[hxl,hlen,hk]
   . simp only[List.length_map,hlen]
   . simp only[List.length_map,hlen];exact hcap
   . rw[p1,hcs,hk]
   . simp only[List.length_map,hlen,hk];exact p2
   . refine F0h (fun c y hy=> ?_) L';exact Rep.mono (fun b hb=>hb) hsame hy
def G5z (P:Program) (g:FuncId) (t:Ty) (φ:t.den->t.den->Int):Prop:=
 ∀(w:World) (Z:Nat->Prop) (c1 c2:List Value) (x y:t.den),Rep t w Z c1 x->Rep t w Z c2 y->Calls P g #[.agg c1.toArray, .agg c2.toArray] w fun e w'=>e= .returned (.int .i64 (φ x y))/\∃q os,w'=Go.Sort.grow (w.drewN q) os
theorem F8k {P:Program} {ρ:Ren} (LL:Go.Proofs.SlLaysF0.n6 P ρ) {t:Ty} {e:TypeId} {g:FuncId} {φ:t.den->t.den->Int} (aE:∀w,(isAgg (ρ.t 24)).run P w= .ok true w) (zE:∀w,(Go.sizeOf (ρ.t 24)).run P w= .ok t.size w)
 (h1:∀a,¬φ a a<0) (h2:∀a b c,φ a b<0->φ b c<0->φ a c<0) (h3:∀a b c,¬φ a b<0->¬φ b c<0->¬φ a c<0) (hen:A6t P g=true) (hcm:G5z P g t φ):F5z P (ρ.f 6) g t e φ:=by
 rintro w Z v l hZ ⟨xs,hown,hea,hZv⟩ hlen;obtain⟨L,rfl,rfl⟩:=F0j hea;have hL:(L.map El.v).length=L.length:=List.length_map ..;rw[hL]at hown hlen;obtain⟨hxs,hv⟩:=hown;have hnone:∀(p:Option Addr) (cap:Nat),L= []->Gw.Ret P (ρ.f 6) [.slice p 0 cap, .func (.func g) #[] #[]] w fun u w'=>u= .tuple #[]/\w'=w:=fun p cap _=>
  Calls.mono (Go.Proofs.AnyF.slices_SortFunc_none LL p cap (.func (.func g) #[] #[]) w) fun _ _ ⟨he,hw⟩=>⟨_,he,rfl,hw⟩
 rcases hv with⟨rfl,hn⟩ | ⟨b,cap,cur,rfl,_,hheap,hcap,hmax,hcs,htake⟩
 . have hL0:L= []:=List.eq_nil_of_length_eq_zero hn;subst hL0;refine(hnone none 0 rfl).mono ?_;rintro _ _ ⟨rfl,rfl⟩;refine⟨C3p.of (Ext.refl _),(),([],()),[],(fun _=>False),trivial,fun _=>⟨List.Perm.refl _,List.Pairwise.nil⟩,rfl,fun _ hb=>hb.elim,rfl,⟨⟨[],World.ownsRow_nil _ _ _ _,rfl⟩,trivial⟩⟩
 . have hbZ:¬Z b:=hZv b rfl;have hc:∀p:El t w Z,p.c.length=t.size:=fun p=>Rep.length p.h
   have hbl:b<w.heap.size:=(Array.getElem?_eq_some_iff.1 hheap).1;rcases hL0:L with _ | ⟨p0,L0⟩
   . subst hL0;refine(hnone _ cap rfl).mono ?_;rintro _ _ ⟨rfl,rfl⟩;refine⟨C3p.of (Ext.refl _),(),([],()),[],(fun _=>False),trivial,fun _=>⟨List.Perm.refl _,List.Pairwise.nil⟩,rfl,fun _ hb=>hb.elim,rfl,⟨⟨[],⟨by simp, .inr ⟨b,cap,cur,rfl,Nat.zero_le _,hheap,hcap,hmax,hcs,by simp⟩⟩,rfl⟩,trivial⟩⟩
   . rw[<-hL0];clear hnone
     haveI:Inhabited (El t w Z):=⟨p0⟩
     have hH:Go.Sort.HoldsK El.c t.size w b 0 L.toArray:=by
      intro j hj;rw[Go.Sort.size_flatK]at hj;have hj':j<L.length*t.size:=by simpa using hj
      have h5:=F0l hc L.toArray hj;rw[Nat.zero_add];refine⟨?_, ?_⟩
      . have h6:cur[j]? =some (Go.Sort.flatK El.c t.size L.toArray)[j]!:=by
         rw[<-h5];simp only;rw[<-htake,List.getElem?_take_of_lt hj',Array.getElem?_toList]
        simp only[World.cell?,hheap];exact h6
      . simp[World.frozen?,hheap]
     have hcmp:Go.Proofs.CmpLays P g #[] El.c t.size (fun x y:El t w Z=>φ x.v y.v) b 0 L.toArray.size w:=by
      intro m os dk hdk x y;have hsame:X6 Z w (Go.Proofs.sortWorldK El.c t.size w b 0 m dk os):=by
       intro i hi;have:i≠b:=fun e=>hbZ (e▸hi)
       exact E9q (hZ i hi) this
      exact hcm _ Z x.c y.c x.v y.v (Rep.mono (fun _ h=>h) hsame x.h) (Rep.mono (fun _ h=>h) hsame y.h)
     have hcall:=Go.Proofs.AnyQ.slices_SortFunc LL t.size aE zE El.c hc (fun x=>Rep.oneCell x.h) (fun x y:El t w Z=>φ x.v y.v) (G2o El.v h1 h2 h3) g #[] b 0 cap L.toArray w (B4u hen) hcmp hH hbl (by simp;omega);refine Calls.mono hcall ?_;rintro _ w' ⟨rfl,d',n,os,hperm,hsort,rfl⟩;refine⟨_,rfl, ?_⟩;have hp:=G0x hperm;have hs:=F3d hperm.1 hsort;have hds:d'.size=L.length:=by rw[hperm.1];simp
     refine F4m (k:=t.size) (F:=Go.Sort.flatK El.c t.size d') (L:=L) (L':=d'.toList) (cur:=cur) (x:=L.map El.v) hZ hbZ rfl hheap hcap hmax hcs rfl hp ?_ ?_ ?_ rfl rfl rfl ?_ ?_ ?_
     . exact hs.imp fun h=>of_decide_eq_false h
     . rw[Go.Sort.size_flatK,hds]
     . intro j hj;exact F0l hc d' (by rw[hds];exact hj)
     . exact G2m
     . intro i hi hne;exact E9q hi hne
     . exact G2z hheap
end Go.Vc
namespace Go.Proofs
open Go.Shelf
def Tryz.sortEnt_ren:Go.Shelf.Ren:=⟨fun|6=>112|15=>167|14=>166|28=>208|29=>209|20=>200|21=>201|22=>202|23=>203|24=>204|25=>205|26=>206|27=>207|46=>229|47=>230|48=>231|49=>232|50=>233|57=>244|n=>n,fun|22=>92|24=>94|25=>142|3=>3|39=>176|0=>0|53=>153|55=>144|4=>4|46=>194|45=>193|50=>198|5=>5|9=>9|66=>217|70=>221|76=>231|77=>232|n=>n,fun|n=>n⟩
theorem Tryz.sortEnt:Go.Proofs.SlLaysF0.n6 Tryz.prog Tryz.sortEnt_ren:= {
 mixed:=by kernel_rfl
 f6:=⟨Tryz.f112.name,by decide,Tryz.func112.trans (congrArg some (by kernel_rfl))⟩
 f14:=⟨Tryz.f166.name,by decide,Tryz.func166.trans (congrArg some (by kernel_rfl))⟩
 f15:=Tryz.func167.trans (congrArg some (by kernel_rfl))
 f20:=⟨Tryz.f200.name,by decide,Tryz.func200.trans (congrArg some (by kernel_rfl))⟩
 f21:=⟨Tryz.f201.name,by decide,Tryz.func201.trans (congrArg some (by kernel_rfl))⟩
 f22:=⟨Tryz.f202.name,by decide,Tryz.func202.trans (congrArg some (by kernel_rfl))⟩
 f23:=⟨Tryz.f203.name,by decide,Tryz.func203.trans (congrArg some (by kernel_rfl))⟩
 f24:=⟨Tryz.f204.name,by decide,Tryz.func204.trans (congrArg some (by kernel_rfl))⟩
 f25:=⟨Tryz.f205.name,by decide,Tryz.func205.trans (congrArg some (by kernel_rfl))⟩
 f26:=⟨Tryz.f206.name,by decide,Tryz.func206.trans (congrArg some (by kernel_rfl))⟩
 f27:=⟨Tryz.f207.name,by decide,Tryz.func207.trans (congrArg some (by kernel_rfl))⟩
 f28:=Tryz.func208.trans (congrArg some (by kernel_rfl))
 f29:=Tryz.func209.trans (congrArg some (by kernel_rfl))
 f46:=⟨Tryz.f229.name,by decide,Tryz.func229.trans (congrArg some (by kernel_rfl))⟩
 f47:=Tryz.func230.trans (congrArg some (by kernel_rfl))
 f48:=Tryz.func231.trans (congrArg some (by kernel_rfl))
 f49:=⟨Tryz.f232.name,by decide,Tryz.func232.trans (congrArg some (by kernel_rfl))⟩
 f50:=⟨Tryz.f233.name,by decide,Tryz.func233.trans (congrArg some (by kernel_rfl))⟩
 f57:=⟨Tryz.f244.name,by decide,Tryz.func244.trans (congrArg some (by kernel_rfl))⟩
 t0:=Tryz.underlying0
 a0:=Tryz.isAgg0
 z0:=Tryz.sizeOf0
 v0:=Tryz.zeroValue0
 t3:=Tryz.underlying3
 a3:=Tryz.isAgg3
 z3:=Tryz.sizeOf3
 v3:=Tryz.zeroValue3
 t4:=Tryz.underlying4
 a4:=Tryz.isAgg4
 z4:=Tryz.sizeOf4
 v4:=Tryz.zeroValue4
 t5:=Tryz.underlying5
 a5:=Tryz.isAgg5
 z5:=Tryz.sizeOf5
 v5:=Tryz.zeroValue5
 t9:=Tryz.underlying9
 a9:=Tryz.isAgg9
 z9:=Tryz.sizeOf9
 v9:=Tryz.zeroValue9
 t22:=Tryz.underlying92
 a22:=Tryz.isAgg92
 z22:=Tryz.sizeOf92
 v22:=Tryz.zeroValue92
 t25:=Tryz.underlying142
 a25:=Tryz.isAgg142
 z25:=Tryz.sizeOf142
 v25:=Tryz.zeroValue142
 t39:=Tryz.underlying176
 a39:=Tryz.isAgg176
 z39:=Tryz.sizeOf176
 v39:=Tryz.zeroValue176
 t45:=Tryz.underlying193
 a45:=Tryz.isAgg193
 z45:=Tryz.sizeOf193
 v45:=Tryz.zeroValue193
 t46:=Tryz.underlying194
 a46:=Tryz.isAgg194
 z46:=Tryz.sizeOf194
 v46:=Tryz.zeroValue194
 t50:=Tryz.underlying198
 a50:=Tryz.isAgg198
 z50:=Tryz.sizeOf198
 v50:=Tryz.zeroValue198
 t53:=Tryz.underlying153
 a53:=Tryz.isAgg153
 z53:=Tryz.sizeOf153
 v53:=Tryz.zeroValue153
 t55:=Tryz.underlying144
 a55:=Tryz.isAgg144
 z55:=Tryz.sizeOf144
 v55:=Tryz.zeroValue144
 t66:=Tryz.underlying217
 a66:=Tryz.isAgg217
 z66:=Tryz.sizeOf217
 v66:=Tryz.zeroValue217
 t70:=Tryz.underlying221
 a70:=Tryz.isAgg221
 z70:=Tryz.sizeOf221
 v70:=Tryz.zeroValue221
 t76:=Tryz.underlying231
 a76:=Tryz.isAgg231
 z76:=Tryz.sizeOf231
 v76:=Tryz.zeroValue231
 t77:=Tryz.underlying232
 a77:=Tryz.isAgg232
 z77:=Tryz.sizeOf232
 v77:=Tryz.zeroValue232}
def Tryz.sortedInt_ren:Go.Shelf.Ren:=⟨fun|6=>174|8=>213|9=>214|11=>235|13=>167|12=>236|23=>208|24=>209|14=>246|15=>247|16=>248|17=>249|18=>250|19=>251|20=>252|21=>253|22=>254|25=>257|26=>230|27=>231|28=>258|29=>259|30=>168|31=>261|n=>n,fun|26=>3|28=>182|24=>25|0=>0|3=>3|37=>176|48=>153|50=>144|4=>4|40=>194|39=>193|45=>198|5=>5|9=>9|51=>217|55=>221|57=>231|58=>232|33=>137|n=>n,fun|n=>n⟩
theorem Tryz.sortedInt:Go.Proofs.SlLaysZI.n6 Tryz.prog Tryz.sortedInt_ren:= {
 mixed:=by kernel_rfl
 f6:=⟨Tryz.f174.name,by decide,Tryz.func174.trans (congrArg some (by kernel_rfl))⟩
 f8:=⟨Tryz.f213.name,by decide,Tryz.func213.trans (congrArg some (by kernel_rfl))⟩
 f11:=⟨Tryz.f235.name,by decide,Tryz.func235.trans (congrArg some (by kernel_rfl))⟩
 t0:=Tryz.underlying0
 a0:=Tryz.isAgg0
 z0:=Tryz.sizeOf0
 v0:=Tryz.zeroValue0
 t24:=Tryz.underlying25
 a24:=Tryz.isAgg25
 z24:=Tryz.sizeOf25
 v24:=Tryz.zeroValue25
 t26:=Tryz.underlying3
 a26:=Tryz.isAgg3
 z26:=Tryz.sizeOf3
 v26:=Tryz.zeroValue3
 t28:=Tryz.underlying182
 a28:=Tryz.isAgg182
 z28:=Tryz.sizeOf182
 v28:=Tryz.zeroValue182
 i26:=by kernel_rfl}
def Tryz.keysGo_ren:Go.Shelf.Ren:=⟨fun|10=>215|n=>n,fun|33=>137|23=>179|0=>0|4=>4|26=>3|3=>31|n=>n,fun|n=>n⟩
theorem Tryz.keysGo:Go.Proofs.SlLaysZI.n10 Tryz.prog Tryz.keysGo_ren:= {
 mixed:=by kernel_rfl
 f10:=⟨Tryz.f215.name,by decide,Tryz.func215.trans (congrArg some (by kernel_rfl))⟩
 t0:=Tryz.underlying0
 a0:=Tryz.isAgg0
 z0:=Tryz.sizeOf0
 v0:=Tryz.zeroValue0
 t4:=Tryz.underlying4
 a4:=Tryz.isAgg4
 z4:=Tryz.sizeOf4
 v4:=Tryz.zeroValue4
 t23:=Tryz.underlying179
 a23:=Tryz.isAgg179
 z23:=Tryz.sizeOf179
 v23:=Tryz.zeroValue179
 t26:=Tryz.underlying3
 a26:=Tryz.isAgg3
 z26:=Tryz.sizeOf3
 v26:=Tryz.zeroValue3
 t33:=Tryz.underlying137
 a33:=Tryz.isAgg137
 z33:=Tryz.sizeOf137
 v33:=Tryz.zeroValue137}
def Tryz.sortInt_ren:Go.Shelf.Ren:=⟨fun|5=>214|8=>167|7=>236|19=>208|20=>209|10=>246|11=>247|12=>248|13=>249|14=>250|15=>251|16=>252|17=>253|18=>254|30=>257|31=>230|32=>231|33=>258|34=>259|35=>168|40=>261|n=>n,fun|23=>25|25=>3|3=>3|32=>176|22=>25|0=>0|44=>153|46=>144|4=>4|36=>194|35=>193|41=>198|5=>5|9=>9|53=>217|57=>221|63=>231|64=>232|n=>n,fun|n=>n⟩
theorem Tryz.sortInt:Go.Proofs.SlLaysM.n5 Tryz.prog Tryz.sortInt_ren:= {
 mixed:=by kernel_rfl
 f5:=⟨Tryz.f214.name,by decide,Tryz.func214.trans (congrArg some (by kernel_rfl))⟩
 f7:=⟨Tryz.f236.name,by decide,Tryz.func236.trans (congrArg some (by kernel_rfl))⟩
 f8:=Tryz.func167.trans (congrArg some (by kernel_rfl))
 f10:=⟨Tryz.f246.name,by decide,Tryz.func246.trans (congrArg some (by kernel_rfl))⟩
 f11:=⟨Tryz.f247.name,by decide,Tryz.func247.trans (congrArg some (by kernel_rfl))⟩
 f12:=⟨Tryz.f248.name,by decide,Tryz.func248.trans (congrArg some (by kernel_rfl))⟩
 f13:=⟨Tryz.f249.name,by decide,Tryz.func249.trans (congrArg some (by kernel_rfl))⟩
 f14:=⟨Tryz.f250.name,by decide,Tryz.func250.trans (congrArg some (by kernel_rfl))⟩
 f15:=⟨Tryz.f251.name,by decide,Tryz.func251.trans (congrArg some (by kernel_rfl))⟩
 f16:=⟨Tryz.f252.name,by decide,Tryz.func252.trans (congrArg some (by kernel_rfl))⟩
 f17:=⟨Tryz.f253.name,by decide,Tryz.func253.trans (congrArg some (by kernel_rfl))⟩
 f18:=⟨Tryz.f254.name,by decide,Tryz.func254.trans (congrArg some (by kernel_rfl))⟩
 f19:=Tryz.func208.trans (congrArg some (by kernel_rfl))
 f20:=Tryz.func209.trans (congrArg some (by kernel_rfl))
 f30:=⟨Tryz.f257.name,by decide,Tryz.func257.trans (congrArg some (by kernel_rfl))⟩
 f31:=Tryz.func230.trans (congrArg some (by kernel_rfl))
 f32:=Tryz.func231.trans (congrArg some (by kernel_rfl))
 f33:=⟨Tryz.f258.name,by decide,Tryz.func258.trans (congrArg some (by kernel_rfl))⟩
 f34:=⟨Tryz.f259.name,by decide,Tryz.func259.trans (congrArg some (by kernel_rfl))⟩
 f35:=⟨Tryz.f168.name,by decide,Tryz.func168.trans (congrArg some (by kernel_rfl))⟩
 f40:=⟨Tryz.f261.name,by decide,Tryz.func261.trans (congrArg some (by kernel_rfl))⟩
 t0:=Tryz.underlying0
 a0:=Tryz.isAgg0
 z0:=Tryz.sizeOf0
 v0:=Tryz.zeroValue0
 t3:=Tryz.underlying3
 a3:=Tryz.isAgg3
 z3:=Tryz.sizeOf3
 v3:=Tryz.zeroValue3
 t4:=Tryz.underlying4
 a4:=Tryz.isAgg4
 z4:=Tryz.sizeOf4
 v4:=Tryz.zeroValue4
 t5:=Tryz.underlying5
 a5:=Tryz.isAgg5
 z5:=Tryz.sizeOf5
 v5:=Tryz.zeroValue5
 t9:=Tryz.underlying9
 a9:=Tryz.isAgg9
 z9:=Tryz.sizeOf9
 v9:=Tryz.zeroValue9
 t22:=Tryz.underlying25
 a22:=Tryz.isAgg25
 z22:=Tryz.sizeOf25
 v22:=Tryz.zeroValue25
 t23:=Tryz.underlying25
 a23:=Tryz.isAgg25
 z23:=Tryz.sizeOf25
 v23:=Tryz.zeroValue25
 t25:=Tryz.underlying3
 a25:=Tryz.isAgg3
 z25:=Tryz.sizeOf3
 v25:=Tryz.zeroValue3
 t32:=Tryz.underlying176
 a32:=Tryz.isAgg176
 z32:=Tryz.sizeOf176
 v32:=Tryz.zeroValue176
 t35:=Tryz.underlying193
 a35:=Tryz.isAgg193
 z35:=Tryz.sizeOf193
 v35:=Tryz.zeroValue193
 t36:=Tryz.underlying194
 a36:=Tryz.isAgg194
 z36:=Tryz.sizeOf194
 v36:=Tryz.zeroValue194
 t41:=Tryz.underlying198
 a41:=Tryz.isAgg198
 z41:=Tryz.sizeOf198
 v41:=Tryz.zeroValue198
 t44:=Tryz.underlying153
 a44:=Tryz.isAgg153
 z44:=Tryz.sizeOf153
 v44:=Tryz.zeroValue153
 t46:=Tryz.underlying144
 a46:=Tryz.isAgg144
 z46:=Tryz.sizeOf144
 v46:=Tryz.zeroValue144
 t53:=Tryz.underlying217
 a53:=Tryz.isAgg217
 z53:=Tryz.sizeOf217
 v53:=Tryz.zeroValue217
 t57:=Tryz.underlying221
 a57:=Tryz.isAgg221
 z57:=Tryz.sizeOf221
 v57:=Tryz.zeroValue221
 t63:=Tryz.underlying231
 a63:=Tryz.isAgg231
 z63:=Tryz.sizeOf231
 v63:=Tryz.zeroValue231
 t64:=Tryz.underlying232
 a64:=Tryz.isAgg232
 z64:=Tryz.sizeOf232
 v64:=Tryz.zeroValue232}
def Tryz.cmpInt_ren:Go.Shelf.Ren:=⟨fun|5=>114|7=>168|n=>n,fun|22=>3|3=>3|4=>4|n=>n,fun|n=>n⟩
theorem Tryz.cmpInt:Go.Proofs.SlLaysC2.n5 Tryz.prog Tryz.cmpInt_ren:= {
 mixed:=by kernel_rfl
 f5:=⟨Tryz.f114.name,by decide,Tryz.func114.trans (congrArg some (by kernel_rfl))⟩
 f7:=⟨Tryz.f168.name,by decide,Tryz.func168.trans (congrArg some (by kernel_rfl))⟩
 t3:=Tryz.underlying3
 a3:=Tryz.isAgg3
 z3:=Tryz.sizeOf3
 v3:=Tryz.zeroValue3
 t4:=Tryz.underlying4
 a4:=Tryz.isAgg4
 z4:=Tryz.sizeOf4
 v4:=Tryz.zeroValue4
 t22:=Tryz.underlying3
 a22:=Tryz.isAgg3
 z22:=Tryz.sizeOf3
 v22:=Tryz.zeroValue3}
end Go.Proofs
namespace Go.Proofs.YtkdmjgcjpmcjjaaGreat
open Go.Vc Go.Gw Go.Lib Go.Shelf
theorem E2m (w:World) (o:Obj):w.alloc o= {w with heap:=w.heap.push o} :=rfl
theorem G0p (a b:Int) (r1 r2:List Value) (w:World):Calls Tryz.prog 113 #[.agg (.int .i64 a::r1).toArray, .agg (.int .i64 b::r2).toArray] w fun e w'=>e= .returned (.int .i64 (Lib.compareInt a b))/\∃q os,w'=Go.Sort.grow (w.drewN q) os:=by
 have e114:∀args w,(callFunc 114 args).run Tryz.prog w= .ok (.enter 114 args) w:=Go.Vc.B4u (by kernel_rfl);have hc:=fun(w:World)=>AnyG.cmp_Compare_int Tryz.cmpInt a b w
 go_enter Tryz.func113,Tryz.ntmps113
 go_wp2_with (go_at_fn (114);refine(hc _).mono ?_;rintro e w' ⟨rfl,hw⟩;rw[hw])
 go_ret
 refine⟨rfl,0, #[.cells (Value.int .i64 a::r1).toArray 94, .cells (Value.int .i64 b::r2).toArray 94], ?_⟩;rw[E2m,E2m];simp[Go.Sort.grow,World.drewN];apply Array.toList_inj.1;simp
theorem G6w (a b:Int):Lib.compareInt a b=C8t a b:=by
 unfold Lib.compareInt C8t
 (repeat' split)<;>first|rfl|omega
theorem G5v:G5z Tryz.prog 113 tE (fun a b:Ent=>C8t a.1 b.1):=by
 rintro w Z c1 c2 x y ⟨u1,r1,rfl,⟨rfl,_⟩,_⟩ ⟨u2,r2,rfl,⟨rfl,_⟩,_⟩;have:=G0p x.1 y.1 r1 r2 w;rw[G6w]at this;exact this
theorem G3e:E0v Tryz.prog 112 (E7n 113 tE 94 (fun a b=>C8t a.1 b.1)):=by
 refine F2b (tys:= []) (F8k (ρ:=Tryz.sortEnt_ren) Tryz.sortEnt (t:=tE) (e:=94) (g:=113) (φ:=fun a b:Ent=>C8t a.1 b.1) Tryz.isAgg94 Tryz.sizeOf94 (fun a=> ?_) (fun a b c=> ?_) (fun a b c=> ?_) (by kernel_rfl) G5v);all_goals (simp only[C8t];(repeat' split)<;>omega)
theorem F7w (n:Int) (w:World):Calls Tryz.prog 106 #[.int .i64 n] w fun e w'=>e= .returned (.func (.func 107) #[] #[.pointer (some ⟨w.heap.size,0,none⟩)])/\w'=w.alloc (.cells #[.int .i64 n] 3):=by
 go_enter Tryz.func106,Tryz.ntmps106
 go_wp2
 go_ret
 exact⟨rfl,rfl⟩
theorem G5s (hm:B9 Tryz.prog 107 E7):E0v Tryz.prog 106 (G3p Tryz.prog [(false, .int .i64)] false .bool (.int .i64) (fun n x=>decide (x.1<0\/n<=x.1))):=by
 refine F9j ?_;rintro w Z v n ⟨hv,hn⟩;obtain rfl:v= .int .i64 n:=by simpa using hv
 refine Calls.mono (F7w _ w) ?_;rintro _ _ ⟨rfl,rfl⟩;have hsz:(w.alloc (.cells #[Value.int .i64 n] 3)).heap.size=w.heap.size+1:=by simp
 refine⟨_,rfl,Ext.alloc w _,(fun b=>b=w.heap.size),fun b hb=> .inr ⟨by omega,by rw[hsz,hb];omega⟩,107,[.pointer (some ⟨w.heap.size,0,none⟩)],rfl,by kernel_rfl, ?_⟩;rintro w1 Z1 vs ⟨i,_⟩ hs h0 hz ⟨v1,vs1,rfl,hv1,rfl⟩ _;have hc:(w.alloc (.cells #[Value.int .i64 n] 3)).heap[w.heap.size]? =some (.cells #[Value.int .i64 n] 3 (0,0)):=by rw[E2m];simp
 have hc1:w1.heap[w.heap.size]? =some (.cells #[Value.int .i64 n] 3 (0,0)):=(hs _ rfl).trans hc;have hrep:A2d Tryz.prog w1 (fun b=>Z1 b\/b=w.heap.size) E7.args [v1, .pointer (some ⟨w.heap.size,0,none⟩)] (i,n,()):=by
  refine⟨_,_,rfl, ?_,_,_,rfl, ?_,rfl⟩
  . exact hv1
  . exact⟨w.heap.size,0,[Value.int .i64 n],rfl, .inr rfl,fun j u hj=>by
     rcases j with _ |j
     . simp only[List.getElem?_cons_zero,Option.some.injEq]at hj;subst hj;rw[N9];simp[World.cell?,hc1]
     . simp at hj,rfl,hn⟩
 have:=hm w1 (fun b=>Z1 b\/b=w.heap.size) [v1, .pointer (some ⟨w.heap.size,0,none⟩)] (i,n,()) (fun b hb=>hb.elim (hz b) fun e=>h0 b e) hrep trivial trivial;refine Gw.Ret.mono this ?_;rintro u w2 ⟨hx,⟨r,_⟩,o,us,Zn,hpost,_,rfl,hzn,⟨v2,us2,rfl,hv2,_,rfl⟩,_⟩;refine⟨hx.ext fun b hb=> ?_,Zn,fun b hb=> ?_, ?_⟩
 . obtain⟨p,hp,_⟩:=hb;cases hp
 . rcases hzn b hb with h| ⟨h,_⟩
   . exact .inl h
   . cases h
 . have hr:r=decide (i<0\/n<=i):=hpost;show A9b false .bool w2 Zn v2 (decide (i<0\/n<=i));rw[<-hr];exact hv2
end Go.Proofs.YtkdmjgcjpmcjjaaGreat
namespace Go.Proofs.YtkdmjgcjpmcjjaaGreat
open Go Go.Vc Go.Gw Go.Lib Go.Shelf Go.Maps Go.Sort Go.RowKit
open Go.WideElems (Fit)
def F9e (_:Value):Option (DataW Unit×List MemPlace):=some (.nil,[])
theorem G4p {P:Program} {k:TypeId} (hk:P.underlying k=some (.int .i64)) {n:Int} (hn:inR .i64 n):keyOf P k (.int .i64 n)=some (.int .i64 n):=by
 refine keyOf_int_mk hk ?_;unfold inR at hn;simpa[Lit.wf]using hn
theorem G5w {P:Program} {k:TypeId} (hk:P.underlying k=some (.int .i64)) {x:MapEntry} {n:Int} (hx:x.key= .int .i64 n) (hn:inR .i64 n):WideElems.rd P k F9e x=some (.int .i64 n, .nil):=by
 unfold WideElems.rd;rw[hx,G4p hk hn];rfl
theorem E4u {w:World} {Z:Nat->Prop} {va:Bool} {vt:Ty} :∀ {es:List (Int×vt.den)} {l:List MapEntry},E1u w Z false (.int .i64) va vt l es->∀ {P:Program} {k:TypeId},P.underlying k=some (.int .i64)->(∀x∈l,∃y,WideElems.rd P k F9e x=some y)/\l.map (WideElems.rg P k F9e)=es.map fun e=>(.int .i64 e.1, .nil)
 | [],l,h,P,k,hk=>by
  obtain rfl:l= []:=h;exact⟨fun x hx=>(by cases hx),rfl⟩
 |e::es,l,h,P,k,hk=>by
  obtain⟨x,l',rfl,⟨h1,h2⟩,_,h3⟩:=h;have hx:x.key= .int .i64 e.1:=by simpa using h1
  have h4:=G5w hk hx h2;obtain⟨i1,i2⟩:=E4u h3 hk;refine⟨fun y hy=> ?_, ?_⟩
  . rcases List.mem_cons.1 hy with rfl|hy
    . exact⟨_,h4⟩
    . exact i1 y hy
  . rw[List.map_cons,List.map_cons,i2];congr 1;unfold WideElems.rg;rw[h4];rfl
theorem E4b {w:World} {Z:Nat->Prop} {va:Bool} {vt:Ty} :∀ {es:List (Int×vt.den)} {l:List MapEntry},E1u w Z false (.int .i64) va vt l es->l.map (·.key)=es.map fun e=>Value.int .i64 e.1
 | [],l,h=>by obtain rfl:l= []:=h;rfl
 |e::es,l,h=>by
  obtain⟨x,l',rfl,⟨h1,h2⟩,_,h3⟩:=h;have hx:x.key= .int .i64 e.1:=by simpa using h1
  rw[List.map_cons,List.map_cons,E4b h3,hx]
theorem F9p {P:Program} {k:TypeId} (hk:P.underlying k=some (.int .i64)) {w:World} {b clock:Nat} {ents:Array MapEntry} {Z:Nat->Prop} {va:Bool} {vt:Ty} {es:List (Int×vt.den)} (hb:w.heap[b]? =some (.map ents clock)) (hm:MOk ents clock) (he:E1u w Z false (.int .i64) va vt ents.toList es) (hl:es.length<=100000) (hnd:List.Nodup (α:=Int) (es.map (·.1))):
 ∃D0:DataW Unit,w.ownsMap P k F9e b ents.size D0/\(intKeys D0).Perm (es.map (·.1))/\Maps.size D0=es.length:=by
 obtain⟨h1,h2⟩:=E4u he (P:=P) hk;have h4:ents.toList.length=es.length:=by have:=congrArg List.length h2;simpa using this
 have h5:ents.toList.map (·.key)=es.map fun e=>Value.int .i64 e.1:=E4b he
 refine⟨_,⟨ents,clock,hb,⟨?_,⟨hm.1,hm.2, ?_⟩,h1⟩,Nat.le_refl _,rfl⟩, ?_, ?_⟩
 . have:ents.size=es.length:=by rw[<-h4];simp
   rw[this];exact Nat.le_trans hl (by decide)
 . rw[h5];have:(es.map fun e=>Value.int .i64 e.1)=(es.map (·.1)).map fun n:Int=>Value.int .i64 n:=by rw[List.map_map];rfl
   rw[this];exact List.Pairwise.map _ (fun a b hab h=>hab (by simpa using h)) hnd
 . show(List.map _ _).Perm _;refine((WideShapes.sorted_perm _).map _).trans ?_;rw[h2,List.map_map];exact List.Perm.of_eq (List.map_congr_left fun e _=>rfl)
 . show List.length (List.foldr _ _ _)= _;rw[(WideShapes.sorted_perm _).length_eq,List.length_map,h4]
theorem E2x {w:World} {Z:Nat->Prop} :∀ {l:List Int},(∀n∈l,inR .i64 n)->R8 (Rep (.int .i64) w Z) (l.map encZ) l
 | [],_=>rfl
 |n::l,h=>⟨[encZ n],l.map encZ,rfl,⟨rfl,h n List.mem_cons_self⟩,E2x fun m hm=>h m (List.mem_cons_of_mem _ hm)⟩
theorem F8b (m:Nat):AnyZI.SortsIn Tryz.prog Tryz.sortedInt_ren Fence.wide m:=
 ⟨fun blk off cap ss W hH hblk hsz=>callsIn_wide.2 (AnyM.slices_Sort_int Tryz.sortInt blk off cap ss W hH hblk hsz),
  fun p cap W=>callsIn_wide.2 (AnyM.slices_Sort_int_none Tryz.sortInt p cap W)⟩
theorem G2k:E0v Tryz.prog 174 (E6i 215 3):=by
 refine F1c (tys:= []) ?_;intro w Z va vt bm b clock T ents es hbm hb hm he hl hnd;obtain⟨D0,hown,hperm,hsize⟩:=F9p (P:=Tryz.prog) (k:=3) Tryz.underlying3 hb hm he hl hnd;have hbl:bm<w.heap.size:=hbm.lt;have hcell:w.cell? ⟨bm,0,none⟩=some (.map (some b)):=by
  exact hbm.cell (o:=0) rfl
 have hseq:=AnyZI.keys_gives Tryz.keysGo Fence.wide 3 trivial rfl (by decide) bm b ents.size D0 w hbl hcell hown;have:=AnyZI.sorted_in Tryz.sortedInt Fence.wide 6 trivial trivial trivial trivial rfl (by decide) (F8b _) (fun args w=>Go.Vc.B4u (f:=214) (by kernel_rfl) args w) 215 _ trivial (Go.Vc.B4u (by kernel_rfl)) _ _ (by rw[hsize];exact Nat.le_trans hl (by decide)) (by rw[hsize];omega) w hseq;refine Calls.mono (callsIn_wide.1 this) ?_;rintro _ w' ⟨v,ss,rfl,hS,hrow,hnil,hbelow⟩;have hb:Below w.heap.size w w':=hbelow;have tr:∀a b c:Int,decide (a<=b)=true->decide (b<=c)=true->decide (a<=c)=true:=fun a b c h h'=>decide_eq_true (Int.le_trans (of_decide_eq_true h) (of_decide_eq_true h'))
 have to:∀a b:Int,(decide (a<=b) ||decide (b<=a))=true:=fun a b=>by
  simp only[Bool.or_eq_true,decide_eq_true_eq];omega
 have hin:∀n∈ss,inR .i64 n:=fun n hn=>by
  have hn2:n∈es.map (·.1):=hperm.mem_iff.1 (hS.mem_iff.1 hn);obtain⟨e,he2,rfl⟩:=List.mem_map.1 hn2;obtain⟨x,_,hx,_⟩:=Y5.mem he he2;exact hx.2
 refine⟨v,rfl,C3p.of ⟨hb,trivial⟩,(ss.mergeSort (fun x y=>decide (x<=y)),()),(),[v],(fun _=>False),⟨?_, ?_⟩,fun h=>(by cases h),rfl,fun _ hb=>hb.elim,⟨v,[],rfl,⟨(ss.mergeSort (fun x y=>decide (x<=y))).map encZ, ?_, ?_,fun _ _ h=>h⟩,fun _ b _ u hu=>(by cases hu),rfl⟩,trivial⟩
 . exact(List.mergeSort_perm ss _).trans (hS.trans hperm)
 . exact(List.pairwise_mergeSort tr to ss).imp fun h=>of_decide_eq_true h
 . have hl2:(ss.mergeSort (fun x y=>decide (x<=y))).length=ss.length:=(List.mergeSort_perm ss _).length_eq;show w'.ownsRow w.heap.size 3 1 v (ss.mergeSort (fun x y=>decide (x<=y))).length _;rw[hl2];exact hrow
 . exact E2x fun n hn=>hin n ((List.mergeSort_perm ss _).mem_iff.1 hn)
end Go.Proofs.YtkdmjgcjpmcjjaaGreat
namespace Go.Proofs.YtkdmjgcjpmcjjaaGreat
open Go.Vc Go.Gw
def B5w:An:= {join:= [(4,⟨[0,2],[],[(1,false,[.val (.int .i64)])],[],[]⟩)],loop:= [(14,⟨[1,8,15,17,18],[1,5],[(19,false,[.val (.int .i64)])],[],[]⟩)],plan:= [(8,[0,3],[9],true,(.q 0 (.p 2 (.q 3 (.or 1 (.or 4 (.p 5 (.p 6 (.p 7 (.e 8 (.e 9 (.p 10 .done)))))) (.e 8 (.e 4 (.p 5 (.p 6 (.p 7 (.e 9 (.p 10 .done)))))))) (.e 8 (.e 1 (.e 4 (.p 5 (.p 6 (.p 7 (.e 9 (.p 10 .done))))))))))))),(16,[3,4,8],[],true,(.p 0 (.p 1 (.p 2 (.q 3 (.q 4 (.p 6 (.e 5 (.p 7 (.e 8 (.e 9 (.p 10 .done))))))))))))]}
def A4d:B4:= [(17,P7),(18,A0q),(20,G6),(21,A3d),(28,F9),(38,A0p),(47,R4),(48,T9),(49,X5),(51,A6k),(58,H6),(62,I7),(63,H0),(64,L9),(65,L5),(66,O9),(67,I5),(68,O2)]
def qe (r:List (List QQ)×Unit) (p:Int×Unit) (c:MM×Unit) (t:MM×Int×Unit) (w:MM×Int×Unit) (n:List (List QQ)×Unit):Prop:=∀(f:MM×Int×Unit),WfM f.1/\E5 f.2.1/\True->(¬(0<=c.1.2.1/\c.1.2.1<=16384)\/(16384:Nat)<List.length n.1->f.1=zm/\f.2.1=3)/\((0<=c.1.2.1/\c.1.2.1<=16384)/\List.length n.1<=16384->((∃(l:List QQ),l∈n.1/\(↑l.length:Int)≠c.1.2.1)->f.1=zm/\f.2.1=4)/\((∀(l:List QQ),l∈n.1->(↑l.length:Int)=c.1.2.1)->isM (List.length n.1) (Int.toNat c.1.2.1) (fun(i j:Nat)=>rv ((List.getD n.1 i []).getD j zr)) f.1/\f.2.1=0))->okM K1 c.1/\∀(g:List (List QQ)×Int×Unit),E4c g.1/\E5 g.2.1/\True->(¬A7 c.1->g.2.1=1)/\(A7 c.1->g.1=els c.1/\g.2.1=0)->(0:Int)<(12:Int)/\∀(h:Int×Unit),E5 h.1/\True->((0:Int)<(12:Int)->0<=h.1/\h.1<12/\h.1=(IntKind.u64.wrap p.1).tmod (12:Int))->True/\∀(a:MM×Int×Unit),WfM a.1/\E5 a.2.1/\True->(¬((0:Int)<=IntKind.i64.wrap (h.1-1)/\IntKind.i64.wrap (h.1-1)<=(16384:Int))->a.1=zm/\a.2.1=3)/\((0:Int)<=IntKind.i64.wrap (h.1-1)/\IntKind.i64.wrap (h.1-1)<=(16384:Int)->isM (IntKind.i64.wrap (h.1-1)).toNat (IntKind.i64.wrap (h.1-1)).toNat (fun(i j:Nat)=>if i=j then(1:Rat)else(0:Rat)) a.1/\a.2.1=0)->True/\∀(s:Bool×Unit),True/\True->s.1=true->((!s.1)=false->okM K1 t.1)/\∀(u:Bool×Unit),((!s.1)=false->(True/\True)/\(u.1=true↔t.2.1=w.2.1/\t.1=w.1/\∀(v:List EE),v∈t.1.2.2->∀(e:EE),e∈v->e.2=rc (rv e.2)))->(sel (sel (!s.1) true !u.1) true (decide (f.2.1≠0))=false->okM K1 f.1)/\∀(y:Bool×Unit),(sel (sel (!s.1) true !u.1) true (decide (f.2.1≠0))=false->(True/\True)/\(y.1=true↔f.1=c.1/\∀(v:List EE),v∈f.1.2.2->∀(e:EE),e∈v->e.2=rc (rv e.2)))->(sel (sel (sel (sel (sel (!s.1) true !u.1) true (decide (f.2.1≠0))) true !y.1) true (decide (g.2.1≠0))) true (decide ((g.1.length:Int)≠c.1.1))=true->false=true)/\(sel (sel (sel (sel (sel (!s.1) true !u.1) true (decide (f.2.1≠0))) true !y.1) true (decide (g.2.1≠0))) true (decide ((g.1.length:Int)≠c.1.1))=false->∃(I:Int×Unit->Prop),∃(μ:Int×Unit->Nat),I ((0:Int),())/\∀(d:Int×Unit),E5 d.1/\True->I d->(decide (d.1<(g.1.length:Int))=true->(0<=d.1/\d.1<(g.1.length:Int))/\(okM K1 c.1/\A7 c.1)/\∀(r:List (List QQ)×Unit),E4c r.1/\True->r.1=els c.1->(0<=d.1/\d.1<(r.1.length:Int))/\((∀(e:QQ),e∈gx [] g.1 d.1->sh3 e)/\∀(e:QQ),e∈gx [] r.1 d.1->sh3 e)/\∀(b:Bool×Unit),True/\True->b.1=decide (gx [] g.1 d.1=gx [] r.1 d.1/\∀(e:QQ),e∈gx [] g.1 d.1->e=rc (rv e))->((!b.1)=true->false=true)/\((!b.1)=false->I (IntKind.i64.wrap (d.1+1),())/\μ (IntKind.i64.wrap (d.1+1),())<μ d))/\(decide (d.1<(g.1.length:Int))=false->(0:Int)<(12:Int)/\∀(b:Int×Unit),E5 b.1/\True->((0:Int)<(12:Int)->0<=b.1/\b.1<12/\b.1=(IntKind.u64.wrap p.1).tmod (12:Int))->(decide (IntKind.i64.wrap (b.1-1)<(0:Int))=true->decide (a.2.1=3)=true)/\(decide (IntKind.i64.wrap (b.1-1)<(0:Int))=false->(okM K0 a.1/\okM K0 a.1/\a.1.2.1<=250)/\∀(m:MM×Int×Unit),WfM m.1/\E5 m.2.1/\True->(¬(A7 a.1/\A7 a.1)->m.1=zm/\m.2.1=1)/\(A7 a.1/\A7 a.1->(a.1.2.1≠a.1.1->m.1=zm/\m.2.1=4)/\(a.1.2.1=a.1.1->isM (Int.toNat a.1.1) (Int.toNat a.1.2.1) (fun(i j:Nat)=>A5y (Int.toNat a.1.2.1) fun(k:Nat)=>el a.1 i k*el a.1 k j) m.1/\m.2.1=0))->(sel (sel (decide (a.2.1=0)) (decide (a.1.1=IntKind.i64.wrap (b.1-1))) false) (decide (a.1.2.1=IntKind.i64.wrap (b.1-1))) false=true->okM K1 a.1)/\∀(q:Bool×Unit),(sel (sel (decide (a.2.1=0)) (decide (a.1.1=IntKind.i64.wrap (b.1-1))) false) (decide (a.1.2.1=IntKind.i64.wrap (b.1-1))) false=true->(True/\True)/\(q.1=true↔a.1=m.1/\∀(v:List EE),v∈a.1.2.2->∀(e:EE),e∈v->e.2=rc (rv e.2)))->(decide (IntKind.i64.wrap (b.1-1)=(0:Int))=false/\sel (sel (sel (decide (a.2.1=0)) (decide (a.1.1=IntKind.i64.wrap (b.1-1))) false) (decide (a.1.2.1=IntKind.i64.wrap (b.1-1))) false) q.1 false=true->okM K1 a.1)/\∀(z:QQ×Unit),(decide (IntKind.i64.wrap (b.1-1)=(0:Int))=false/\sel (sel (sel (decide (a.2.1=0)) (decide (a.1.1=IntKind.i64.wrap (b.1-1))) false) (decide (a.1.2.1=IntKind.i64.wrap (b.1-1))) false) q.1 false=true->(WfQ z.1/\True)/\z.1=rc (if A7 a.1/\(0:Int)<=IntKind.i64.wrap (IntKind.i64.wrap (b.1-1)-(1:Int))/\IntKind.i64.wrap (IntKind.i64.wrap (b.1-1)-(1:Int))<a.1.1/\(0:Int)<=IntKind.i64.wrap (IntKind.i64.wrap (b.1-1)-(1:Int))/\IntKind.i64.wrap (IntKind.i64.wrap (b.1-1)-(1:Int))<a.1.2.1 then el a.1 (IntKind.i64.wrap (IntKind.i64.wrap (b.1-1)-(1:Int))).toNat (IntKind.i64.wrap (IntKind.i64.wrap (b.1-1)-(1:Int))).toNat else(0:Rat)))->(decide (IntKind.i64.wrap (b.1-1)=(0:Int))=false/\sel (sel (sel (decide (a.2.1=0)) (decide (a.1.1=IntKind.i64.wrap (b.1-1))) false) (decide (a.1.2.1=IntKind.i64.wrap (b.1-1))) false) q.1 false=true->True)/\∀(A:QQ×Unit),(decide (IntKind.i64.wrap (b.1-1)=(0:Int))=false/\sel (sel (sel (decide (a.2.1=0)) (decide (a.1.1=IntKind.i64.wrap (b.1-1))) false) (decide (a.1.2.1=IntKind.i64.wrap (b.1-1))) false) q.1 false=true->(WfQ A.1/\True)/\A.1=ri (1:Int))->(decide (IntKind.i64.wrap (b.1-1)=(0:Int))=false/\sel (sel (sel (decide (a.2.1=0)) (decide (a.1.1=IntKind.i64.wrap (b.1-1))) false) (decide (a.1.2.1=IntKind.i64.wrap (b.1-1))) false) q.1 false=true->True)/\∀(D:Bool×Unit),(decide (IntKind.i64.wrap (b.1-1)=(0:Int))=false/\sel (sel (sel (decide (a.2.1=0)) (decide (a.1.1=IntKind.i64.wrap (b.1-1))) false) (decide (a.1.2.1=IntKind.i64.wrap (b.1-1))) false) q.1 false=true->(True/\True)/\D.1=decide (z.1=A.1))->sel (sel (sel (sel (decide (a.2.1=0)) (decide (a.1.1=IntKind.i64.wrap (b.1-1))) false) (decide (a.1.2.1=IntKind.i64.wrap (b.1-1))) false) q.1 false) (sel (decide (IntKind.i64.wrap (b.1-1)=(0:Int))) true D.1) false=true)))
def Y3:A6 C3.args->Prop:=fun(x:List (List QQ)×Int×List Int×Unit)=>(0:Int)<=(20:Int)/\∀(r:List (List QQ)×Unit),E4c r.1/\True->r.1=List.take (Int.toNat (20:Int)) x.1->∃(J:Int×Unit->Prop),((decide (1000<x.2.1)=true->(0:Int)<(1000:Int)/\∀(r:Int×Unit),E5 r.1/\True->((0:Int)<(1000:Int)->0<=r.1/\r.1<1000/\r.1=(IntKind.u64.wrap x.2.1).tmod (1000:Int))->J r)/\(decide (1000<x.2.1)=false->J (x.2.1,())))/\∀(p:Int×Unit),E5 p.1/\True->J p->True/\∀(C:(List Int×Int)×Unit),(WfI C.1.1/\E5 C.1.2)/\True->C.1=(x.2.2.1,(0:Int))->((0:Int)<(6:Int)/\0<=C.1.2/\C.1.2<=(C.1.1.length:Int))/\∀(F:Int×Unit) (o:(List Int×Int)×Unit),E5 F.1/\True->((Ty.int IntKind.i64).sl.pair (Ty.int IntKind.i64)).wf o.1/\True->0<=F.1/\F.1<6->o.1.1=C.1.1/\0<=o.1.2/\o.1.2<=(C.1.1.length:Int)->((0:Int)<(6:Int)/\0<=o.1.2/\o.1.2<=(o.1.1.length:Int))/\∀(G:Int×Unit) (B:(List Int×Int)×Unit),E5 G.1/\True->((Ty.int IntKind.i64).sl.pair (Ty.int IntKind.i64)).wf B.1/\True->0<=G.1/\G.1<6->B.1.1=o.1.1/\0<=B.1.2/\B.1.2<=(o.1.1.length:Int)->(0<=F.1/\F.1<=20/\0<=G.1/\G.1<=20/\0<=B.1.2/\B.1.2<=(B.1.1.length:Int))/\∀(c:MM×Unit) (H:(List Int×Int)×Unit),WfM c.1/\True->((Ty.int IntKind.i64).sl.pair (Ty.int IntKind.i64)).wf H.1/\True->G7v (Int.toNat F.1) (Int.toNat G.1) c.1->H.1.1=B.1.1/\0<=H.1.2/\H.1.2<=(B.1.1.length:Int)->(∀(l:List QQ),l∈r.1->szL K1 l)/\∀(t:MM×Int×Unit),WfM t.1/\E5 t.2.1/\True->(¬(0<=p.1/\p.1<=16384)\/(16384:Nat)<List.length r.1->t.1=zm/\t.2.1=3)/\((0<=p.1/\p.1<=16384)/\List.length r.1<=16384->((∃(l:List QQ),l∈r.1/\(↑l.length:Int)≠p.1)->t.1=zm/\t.2.1=4)/\((∀(l:List QQ),l∈r.1->(↑l.length:Int)=p.1)->isM (List.length r.1) (Int.toNat p.1) (fun(i j:Nat)=>rv ((List.getD r.1 i []).getD j zr)) t.1/\t.2.1=0))->(∀(l:List QQ),l∈r.1->szL K1 l)/\∀(w:MM×Int×Unit),WfM w.1/\E5 w.2.1/\True->(¬(0<=p.1/\p.1<=16384)\/(16384:Nat)<List.length r.1->w.1=zm/\w.2.1=3)/\((0<=p.1/\p.1<=16384)/\List.length r.1<=16384->((∃(l:List QQ),l∈r.1/\(↑l.length:Int)≠p.1)->w.1=zm/\w.2.1=4)/\((∀(l:List QQ),l∈r.1->(↑l.length:Int)=p.1)->isM (List.length r.1) (Int.toNat p.1) (fun(i j:Nat)=>rv ((List.getD r.1 i []).getD j zr)) w.1/\w.2.1=0))->((okM K1 c.1/\A7 c.1)/\∀(n:List (List QQ)×Unit),E4c n.1/\True->n.1=els c.1->((∀(l:List QQ),l∈n.1->szL K1 l)/\qe r p c t w n)/\(∀(l:List QQ),l∈n.1->szL K1 l)/\qe r p c t w n)/\(okM K1 c.1/\A7 c.1)/\∀(n:List (List QQ)×Unit),E4c n.1/\True->n.1=els c.1->(∀(l:List QQ),l∈n.1->szL K1 l)/\qe r p c t w n
theorem B0f (x:A6 C3.args):I2 Tryz.prog tys A4d B5w C3 Tryz.f12 x=Y3 x:=by kernel_rfl
def FDr (L:List (List N8)) (n:Int) (a:B1t) (c:Int):Prop:=((¬(0<=n/\n<=16384)\/16384<L.length)->a=zm/\c=3)/\((0<=n/\n<=16384)/\L.length<=16384->((∃l∈L,(l.length:Int)≠n)->a=zm/\c=4)/\((∀l∈L,(l.length:Int)=n)->isM L.length n.toNat (fun i j=>rv ((L.getD i []).getD j zr)) a/\c=0))
theorem G4s {L:List (List N8)} {n c d:Int} {a b:B1t} (hs:∀l∈L,szL K1 l) (hl:∀l∈L,∀q∈l,F8r q) (h1:FDr L n a c) (h2:FDr L n b d):G7e K1 a b c d:=by
 by_cases hn:(0<=n/\n<=16384)/\L.length<=16384
 . by_cases hr:∀l∈L,(l.length:Int)=n
   . refine G0r ((h1.2 hn).2 hr) ((h2.2 hn).2 hr) (fun _ _ _ _=>rfl) (by decide) fun i j hi hj=> ?_
     have hm:L.getD i []∈L:=K6 hi;have:=hr _ hm;have hm2:(L.getD i []).getD j zr∈L.getD i []:=K6 (by omega);exact E5w (hl _ hm _ hm2) (hs _ hm _ hm2) (by decide)
   . have:∃l∈L,(l.length:Int)≠n:=Decidable.byContradiction fun h=>hr fun l hl=>Decidable.byContradiction fun h2=>h ⟨l,hl,h2⟩
     exact F5q ((h1.2 hn).1 this) ((h2.2 hn).1 this)
 . have:¬(0<=n/\n<=16384)\/16384<L.length:=by omega
   exact F5q (h1.1 this) (h2.1 this)
theorem F8q {n:Int} {f:Int->Rat} :∀e∈dl n f,e=rc (rv e):=fun e he=>by
 obtain⟨j,_,rfl⟩:=List.mem_map.1 he;rw[A0t]
theorem G3u {m:B1t} {l:List N8} (h:l∈els m):∃i:Nat,l=dl m.2.1 (D5 (m.2.2.getD i [])):=by
 obtain⟨i,_,rfl⟩:=List.mem_map.1 h;exact⟨i,rfl⟩
theorem F4a {n i j:Nat} (hi:i<n):(A5y n fun k=>(if i=k then(1:Rat)else 0)*if k=j then 1 else 0)=if i=j then 1 else 0:=by
 rw[D4f hi fun k _ hk=>by rw[if_neg (Ne.symm hk),Rat.zero_mul],if_pos rfl,Rat.one_mul]
theorem F9b (i j:Nat):qs 1 (if i=j then(1:Rat)else 0):=by
 by_cases h:i=j
 . rw[if_pos h];exact G6p (by decide)
 . rw[if_neg h];exact A7f (by decide)
set_option maxHeartbeats 1000000 in
theorem A9j (x:A6 C3.args) (hw:awf C3.args x) (hp:C3.pre x):Y3 x:=by
 obtain⟨L,cols,ch,_⟩:=x;have hlL:∀l∈L,∀q∈l,F8r q:=fun l hl q hq=>E7y ((hw.1.2 l hl).2 q hq)
 have hc64:=hw.2.1;change List (List N8)at L;change Int at cols;change List Int at ch;have hp:∀l∈L,szL K0 l:=hp;simp only[Y3,qe];refine⟨by omega, ?_⟩;rintro⟨T,_⟩ _ hT;change List (List N8)at T;simp only at hT⊢;have hTl:T.length<=20:=by
  rw[hT];exact Nat.le_trans (List.length_take_le _ _) (by decide)
 have hTm:∀l∈T,l∈L:=fun l hl=>by rw[hT]at hl;exact List.mem_of_mem_take hl
 have hTs:∀l∈T,szL K1 l:=fun l hl q hq=>F7f (hp l (hTm l hl) q hq) (by decide)
 have hTq:∀l∈T,∀q∈l,F8r q:=fun l hl=>hlL l (hTm l hl)
 clear hp hlL hw hT hTm;refine⟨fun p=>p.1<=1000,⟨fun h=>⟨by omega, ?_⟩,fun h=> ?_⟩, ?_⟩
 . rintro⟨r,_⟩ _ hr;change Int at r;have:=hr (by omega);simp only at this⊢;omega
 . have:=of_decide_eq_false h;show cols<=1000;omega
 rintro⟨p,_⟩ _ hpc;change Int at p;simp only at hpc⊢;refine⟨trivial, ?_⟩;rintro⟨⟨l0,t0⟩,_⟩ _ h0;change Int at t0;change List Int at l0;simp only at h0⊢;have ht0:0<=t0/\t0<=(l0.length:Int):=by cases h0;exact⟨Int.le_refl _,by omega⟩
 refine⟨⟨by omega,ht0⟩, ?_⟩;rintro⟨a,_⟩ ⟨⟨l1,t1⟩,_⟩ _ _ ha h1;change Int at t1 a;change List Int at l1;simp only at ha h1⊢;obtain⟨rfl,h1⟩:=h1;refine⟨⟨by omega,h1⟩, ?_⟩;rintro⟨b,_⟩ ⟨⟨l2,t2⟩,_⟩ _ _ hb h2;change Int at t2 b;change List Int at l2;simp only at hb h2⊢;obtain⟨rfl,h2⟩:=h2;refine⟨⟨by omega,by omega,by omega,by omega,h2⟩, ?_⟩;rintro⟨n,_⟩ ⟨⟨l3,t3⟩,_⟩ _ _ hm _;simp only at hm⊢;obtain⟨f,hq,hm⟩:=hm;have n1:n.1=(a.toNat:Int):=hm.1;have n2:n.2.1=(b.toNat:Int):=hm.2.1;have hn1:=E9a hm (k:=1) (by decide) fun i j _ _=>hq i j
 have hn:okM K1 n:=A9e hn1 (by decide);have hv:A7 n:=A8z hm (by omega) (by omega);have hlm:=G4q hm;refine⟨hTs, ?_⟩;rintro⟨r5,e5,_⟩ _ h5;refine⟨hTs, ?_⟩;rintro⟨r6,e6,_⟩ _ h6;have tw:G7e K1 r5 r6 e5 e6:=G4s hTs hTq h5 h6;simp only;have hel:=G4z hv hlm hn (by decide);have hlen:(els n).length=a.toNat:=by rw[E1g,n1];omega
 refine⟨⟨⟨hn,hv⟩, ?_⟩,⟨hn,hv⟩, ?_⟩;all_goals
  rintro⟨r7,_⟩ _ h7;simp only at h7⊢;subst h7
 refine⟨?_, ?_⟩;all_goals
  refine⟨hel, ?_⟩;rintro⟨r8,e8,_⟩ _ h8;simp only at h8⊢;have h8:=(h8.2 ⟨⟨by omega,by omega⟩,by omega⟩).2 fun l hl=>G2f hl hv
  have e8n:r8=n:=by
   rw[hlen,n2,Int.toNat_natCast]at h8;refine C4o h8.1 hm fun i j hi hj=> ?_
   rw[G6r (by omega) (by omega),A7x hm hi hj]
  have h80:=h8.2;clear h8;subst e8n;refine⟨hn, ?_⟩;rintro⟨r9,e9,_⟩ _ h9;simp only at h9⊢;obtain⟨h9,h90⟩:=h9.2 hv;subst h9;refine⟨by omega, ?_⟩;rintro⟨c,_⟩ _ hc;change Int at c;simp only at hc⊢;have hc:=hc (by omega);obtain⟨c0,c1,hcp⟩:=hc;rw[wr (by omega) (by omega)];refine⟨trivial, ?_⟩;rintro⟨o,eo,_⟩ _ ho;simp only at ho⊢;refine⟨trivial, ?_⟩;rintro⟨aw,_⟩ _ haw;simp only at haw⊢;subst haw;refine⟨fun _=>tw.2.2.2, ?_⟩;rintro⟨r13,_⟩ h13;simp only at h13⊢;have h13:r13=true:=(h13 rfl).2.2 ⟨tw.2.1,tw.1,tw.2.2.1⟩;subst h13;refine⟨fun _=>hn, ?_⟩;rintro⟨r14,_⟩ h14;simp only at h14⊢;have hsel:∀z:Bool,sel (sel (!true) true !true) true z=z:=fun z=>rfl
  rw[hsel,decide_eq_false (by omega:¬e8≠0)]at h14⊢;have h14:r14=true:=(h14 rfl).2.2 ⟨by trivial,A8p hm⟩;subst h14;rw[decide_eq_false (by omega:¬e9≠0),decide_eq_false (by rw[hlen];omega:¬((els r8).length:Int)≠r8.1)];refine⟨fun h=>(by cases h),fun _=> ?_⟩;refine⟨fun q=>0<=q.1/\q.1<=((els r8).length:Int),fun q=>(((els r8).length:Int)-q.1).toNat,⟨Int.le_refl _,Int.natCast_nonneg _⟩, ?_⟩;rintro⟨i,_⟩ _ ⟨i0,i1⟩;change Int at i;simp only at i0 i1⊢;refine⟨fun hi=> ?_,fun _=> ?_⟩
  . have hi:=of_decide_eq_true hi;refine⟨⟨i0,hi⟩,⟨hn,hv⟩, ?_⟩;rintro⟨r,_⟩ _ hr;simp only at hr⊢;subst hr;have hmem:=N0 (d:=([]:List N8)) i0 hi;have hs3:∀e∈gx [] (els r8) i,sh3 e:=fun e he=>A6n (hel _ hmem e he) (by decide)
    refine⟨⟨i0,hi⟩,⟨hs3,hs3⟩, ?_⟩;rintro⟨r15,_⟩ _ h15;simp only at h15⊢;have h15:r15=true:=by
     rw[h15];refine decide_eq_true ⟨by trivial,fun e he=> ?_⟩;obtain⟨k,hk⟩:=G3u hmem;rw[hk]at he;exact F8q e he
    subst h15;rw[wr (by omega) (by omega)];exact⟨fun h=>(by cases h),fun _=>⟨⟨by omega,by omega⟩,by omega⟩⟩
  refine⟨by omega, ?_⟩;rintro⟨c',_⟩ _ hc';change Int at c';simp only at hc'⊢;obtain⟨_,_,hcp'⟩:=hc' (by omega);have hcc:c'=c:=by rw[hcp,hcp']
  subst hcc;rw[wr (by omega) (by omega)];refine⟨fun h=> ?_,fun h=> ?_⟩
  . have h:=of_decide_eq_true h;exact decide_eq_true (ho.1 (by omega)).2
  have h:=of_decide_eq_false h;obtain⟨hom,ho0⟩:=ho.2 ⟨by omega,by omega⟩;have o1:o.1=((c'-1).toNat:Int):=hom.1;have o2:o.2.1=((c'-1).toNat:Int):=hom.2.1;have hosz:=E9a hom (k:=1) (by decide) fun i j _ _=>F9b i j
  have hok1:okM K1 o:=A9e hosz (by decide);have hov:A7 o:=A8z hom (by omega) (by omega);refine⟨⟨A9e hosz (by decide),A9e hosz (by decide),by omega⟩, ?_⟩;rintro⟨pr,ep,_⟩ _ hpr;simp only at hpr⊢;have hpr:=((hpr.2 ⟨hov,hov⟩).2 (by omega)).1;rw[o1,o2,Int.toNat_natCast]at hpr;have heq:o=pr:=C4o hom hpr fun i j hi hj=>by
   rw[<-F4a (j:=j) hi];exact C6m fun k hk=>by rw[A7x hom hi hk,A7x hom hk hj]
  have hT:sel (sel (decide (eo=0)) (decide (o.1=c'-1)) false) (decide (o.2.1=c'-1)) false=true:=by
   rw[decide_eq_true ho0,decide_eq_true (by omega:o.1=c'-1),decide_eq_true (by omega:o.2.1=c'-1)];rfl
  rw[hT];refine⟨fun _=>hok1, ?_⟩;rintro⟨r17,_⟩ h17;simp only at h17⊢;have h17:r17=true:=(h17 trivial).2.2 ⟨heq,A8p hom⟩;subst h17;refine⟨fun _=>hok1, ?_⟩;rintro⟨r18,_⟩ h18;refine⟨fun _=>trivial, ?_⟩;rintro⟨r19,_⟩ h19;refine⟨fun _=>trivial, ?_⟩;rintro⟨r20,_⟩ h20;simp only at h18 h19 h20⊢;by_cases hz:c'-1=0
  . rw[decide_eq_true hz];rfl
  . rw[decide_eq_false hz]at h18 h19 h20⊢;have g18:=(h18 ⟨rfl,rfl⟩).2;have g19:=(h19 ⟨rfl,rfl⟩).2;have g20:=(h20 ⟨rfl,rfl⟩).2;rw[wr (by omega) (by omega),if_pos ⟨hov,by omega,by omega,by omega,by omega⟩,A7x hom (by omega) (by omega),if_pos rfl]at g18;have:r20=true:=by
     rw[g20];refine decide_eq_true ?_;rw[g18,g19];exact(congrArg rc (Rat.intCast_one).symm).trans (D7v 1)
    rw[this];rfl
theorem B5x:B9 Tryz.prog 107 E7:=A4 (sp:=A4b) Tryz.func107 (by kernel_rfl) (by kernel_rfl) (by kernel_rfl) A8 (A3) A9d A9g
theorem B2m:B9 Tryz.prog 77 R6:=A4 (sp:=C7w) Tryz.func77 (by kernel_rfl) (by kernel_rfl) (by kernel_rfl) A8 (A3) D0l D3b
theorem E5a:B9 Tryz.prog 76 W8:=A4 (sp:=C7l) Tryz.func76 (by kernel_rfl) (by kernel_rfl) (by kernel_rfl) A8 (A0 B2m (A3)) D1v D0h
theorem A6s:B9 Tryz.prog 17 P7:=A4 (sp:=C7j) Tryz.func17 (by kernel_rfl) (by kernel_rfl) (by kernel_rfl) A8 (A0 E5a (A0 B2m (A3))) D0k D0r
theorem E8n:B9 Tryz.prog 18 A0q:=A4 (sp:=D0j) Tryz.func18 (by kernel_rfl) (by kernel_rfl) (by kernel_rfl) A8 (A3) D5o D4l
theorem D2a:B9 Tryz.prog 49 X5:=A4 (sp:=D3i) Tryz.func49 (by kernel_rfl) (by kernel_rfl) (by kernel_rfl) A8 (A3) D6q D6j
theorem A2u:B9 Tryz.prog 28 F9:=A4 (sp:=A7w) Tryz.func28 (by kernel_rfl) (by kernel_rfl) (by kernel_rfl) A8 (A0 D2a (A3)) B5m B5u
theorem A4x:B9 Tryz.prog 75 P9:=A4 (sp:=D2u) Tryz.func75 (by kernel_rfl) (by kernel_rfl) (by kernel_rfl) A8 (A3) D6h D6s
theorem R9:B9 Tryz.prog 191 J0:=A4 (sp:=D3t) Tryz.func191 (by kernel_rfl) (by kernel_rfl) (by kernel_rfl) A8 (A3) D4j D4q
theorem W1:B9 Tryz.prog 149 L2:=A4 (sp:=D3w) Tryz.func149 (by kernel_rfl) (by kernel_rfl) (by kernel_rfl) A8 (A0 R9 (A3)) D6c D6a
theorem D2o:B9 Tryz.prog 145 X7:=A4 (sp:=D1k) Tryz.func145 (by kernel_rfl) (by kernel_rfl) (by kernel_rfl) A8 (A0 W1 (A3)) D6v D6e
theorem D3r:B9 Tryz.prog 88 X9:=A4 (sp:=D0g) Tryz.func88 (by kernel_rfl) (by kernel_rfl) (by kernel_rfl) A8 (A0 D2o (A3)) D5s D4r
theorem D7y:B9 Tryz.prog 157 A0y:=A4 (sp:=D8a) Tryz.func157 (by kernel_rfl) (by kernel_rfl) (by kernel_rfl) A8 (A0 R9 (A3)) D9t E1o
theorem D6l:B9 Tryz.prog 194 R1:=A4 (sp:=B6g) Tryz.func194 (by kernel_rfl) (by kernel_rfl) (by kernel_rfl) A8 (A0 R9 (A3)) C6h C5t
theorem D7c:B9 Tryz.prog 158 A1g:=A4 (sp:=D7i) Tryz.func158 (by kernel_rfl) (by kernel_rfl) (by kernel_rfl) A8 (A0 R9 (A0 D6l (A3))) E1l D9r
theorem A8y:B9 Tryz.prog 176 H9:=A4 (sp:=A8c) Tryz.func176 (by kernel_rfl) (by kernel_rfl) (by kernel_rfl) A8 (A0 R9 (A3)) B5c B5l
theorem E1b:B9 Tryz.prog 224 U6:=A4 (sp:=C0e) Tryz.func224 (by kernel_rfl) (by kernel_rfl) (by kernel_rfl) A8 (A0 R9 (A3)) C9q C8v
theorem E6j:B9 Tryz.prog 225 A0m:=A4 (sp:=D0o) Tryz.func225 (by kernel_rfl) (by kernel_rfl) (by kernel_rfl) A8 (A0 R9 (A3)) D6i D5e
theorem F1q:B9 Tryz.prog 226 A3f:=A4 (sp:=D6z) Tryz.func226 (by kernel_rfl) (by kernel_rfl) (by kernel_rfl) A8 (A3) D9i D9x
theorem C3e:B9 Tryz.prog 188 R0:=A4 (sp:=C2d) Tryz.func188 (by kernel_rfl) (by kernel_rfl) (by kernel_rfl) A8 (A0 D7y (A0 D7c (A0 A8y (A0 R9 (A0 E1b (A0 E6j (A0 F1q (A3)))))))) C8l C9n
theorem F2g:B9 Tryz.prog 187 A3l:=A4 (sp:=D8d) Tryz.func187 (by kernel_rfl) (by kernel_rfl) (by kernel_rfl) A8 (A0 C3e (A0 R9 (A3))) E2i E0z
theorem F1g:B9 Tryz.prog 146 A3b:=A4 (sp:=D7e) Tryz.func146 (by kernel_rfl) (by kernel_rfl) (by kernel_rfl) A8 (A0 W1 (A0 F2g (A3))) E2e E0x
theorem C4r:B9 Tryz.prog 93 Y8:=A4 (sp:=D8s) Tryz.func93 (by kernel_rfl) (by kernel_rfl) (by kernel_rfl) A8 (A0 W1 (A0 D7y (A0 D7c (A3)))) E0n E0l
theorem A7o:B9 Tryz.prog 132 L8:=A4 (sp:=B6e) Tryz.func132 (by kernel_rfl) (by kernel_rfl) (by kernel_rfl) A8 (A0 W1 (A0 A8y (A3))) C4q C5y
theorem F2w:B9 Tryz.prog 189 A3k:=A4 (sp:=D7n) Tryz.func189 (by kernel_rfl) (by kernel_rfl) (by kernel_rfl) A8 (A0 W1 (A3)) D9b E0u
theorem D8c:B9 Tryz.prog 148 A1t:=A4 (sp:=D8z) Tryz.func148 (by kernel_rfl) (by kernel_rfl) (by kernel_rfl) A8 (A0 W1 (A3)) E2h D9c
theorem F2m:B9 Tryz.prog 190 A3j:=A4 (sp:=D8w) Tryz.func190 (by kernel_rfl) (by kernel_rfl) (by kernel_rfl) A8 (A0 C4r (A0 D8c (A3))) E0c D9u
theorem E0i:B9 Tryz.prog 147 U3:=A4 (sp:=C3k) Tryz.func147 (by kernel_rfl) (by kernel_rfl) (by kernel_rfl) A8 (A0 C4r (A0 A7o (A0 W1 (A0 C3e (A0 F2w (A0 F2m (A3))))))) C8x C8g
theorem A5b:B9 Tryz.prog 81 Q4:=A4 (sp:=D2p) Tryz.func81 (by kernel_rfl) (by kernel_rfl) (by kernel_rfl) A8 (A0 A4x (A0 B2m (A0 D3r (A0 D2o (A0 F1g (A0 E0i (A0 D8c (A3)))))))) D5g D4m
theorem A5i:B9 Tryz.prog 83 Q0:=A4 (sp:=D1b) Tryz.func83 (by kernel_rfl) (by kernel_rfl) (by kernel_rfl) A8 (A0 A5b (A3)) D6x D4w
theorem D1i:B9 Tryz.prog 29 X0:=A4 (sp:=D0w) Tryz.func29 (by kernel_rfl) (by kernel_rfl) (by kernel_rfl) A8 (A0 A5i (A0 D3r (A3))) D6d D6t
theorem F1z:B9 Tryz.prog 150 A3a:=A4 (sp:=D7w) Tryz.func150 (by kernel_rfl) (by kernel_rfl) (by kernel_rfl) A8 (A0 R9 (A3)) D9p D9m
theorem D8x:B9 Tryz.prog 82 A1c:=A4 (sp:=D7k) Tryz.func82 (by kernel_rfl) (by kernel_rfl) (by kernel_rfl) A8 (A0 W1 (A0 F1z (A3))) E1z D9w
theorem D7s:B9 Tryz.prog 84 A1w:=A4 (sp:=D7u) Tryz.func84 (by kernel_rfl) (by kernel_rfl) (by kernel_rfl) A8 (A0 A5i (A3)) E0y E1f
theorem D8n:B9 Tryz.prog 32 A1m:=A4 (sp:=D7j) Tryz.func32 (by kernel_rfl) (by kernel_rfl) (by kernel_rfl) A8 (A0 A5b (A0 D8x (A0 A5i (A0 D7s (A0 C4r (A3)))))) E1i E2c
theorem C6z:B9 Tryz.prog 120 Z7:=A4 (sp:=D9a) Tryz.func120 (by kernel_rfl) (by kernel_rfl) (by kernel_rfl) A8 (A0 D8n (A0 A4x (A3))) E0m E0t
theorem D5m:B9 Tryz.prog 199 Q8:=A4 (sp:=B6j) Tryz.func199 (by kernel_rfl) (by kernel_rfl) (by kernel_rfl) A8 (A3) C4k C4u
theorem D3z:B9 Tryz.prog 164 X2:=A4 (sp:=D3n) Tryz.func164 (by kernel_rfl) (by kernel_rfl) (by kernel_rfl) A8 (A0 D1i (A0 C6z (A0 D5m (A3)))) D5t D4u
theorem C9m:B9 Tryz.prog 105 M8:=A4 (sp:=B0r) Tryz.func105 (by kernel_rfl) (by kernel_rfl) (by kernel_rfl) A8 (A0 D3z (A3)) B9c B7k
theorem A9r:B9 Tryz.prog 78 T0:=A4 (sp:=D0t) Tryz.func78 (by kernel_rfl) (by kernel_rfl) (by kernel_rfl) A8 (A0 C9m (A3)) D5v D4o
theorem F4f:B9 Tryz.prog 144 A6p:=A4 (sp:=E3d) Tryz.func144 (by kernel_rfl) (by kernel_rfl) (by kernel_rfl) A8 (A0 A5b (A0 A7o (A3))) E3w E3z
theorem C8o:B9 Tryz.prog 79 M9:=A4 (sp:=B0y) Tryz.func79 (by kernel_rfl) (by kernel_rfl) (by kernel_rfl) A8 (A0 A2u (A0 F4f (A3))) B8r B9b
theorem B9o:B9 Tryz.prog 20 G6:=A4 (sp:=A4t) Tryz.func20 (by kernel_rfl) (by kernel_rfl) (by kernel_rfl) A8 (A0 A2u (A0 A4x (A0 A9r (A0 C8o (A3))))) B1q B1n
theorem F2q:B9 Tryz.prog 24 A3i:=A4 (sp:=D7t) Tryz.func24 (by kernel_rfl) (by kernel_rfl) (by kernel_rfl) A8 (A0 A5b (A0 D8x (A0 A5i (A0 D7s (A3))))) E1q E0d
theorem C8c:B9 Tryz.prog 104 U9:=A4 (sp:=C7t) Tryz.func104 (by kernel_rfl) (by kernel_rfl) (by kernel_rfl) A8 (A0 D1i (A3)) D1s D2v
theorem C7k:B9 Tryz.prog 41 V2:=A4 (sp:=C7p) Tryz.func41 (by kernel_rfl) (by kernel_rfl) (by kernel_rfl) A8 (A0 C8c (A3)) D2q D3c
theorem E4j:B9 Tryz.prog 131 V8:=A4 (sp:=C7s) Tryz.func131 (by kernel_rfl) (by kernel_rfl) (by kernel_rfl) A8 (A0 C8c (A0 C6z (A0 D3z (A3)))) D1w D1p
theorem B2b:B9 Tryz.prog 65 L5:=A4 (sp:=B2z) Tryz.func65 (by kernel_rfl) (by kernel_rfl) (by kernel_rfl) A8 (A0 E4j (A3)) C0z C1i
theorem F2p:B9 Tryz.prog 21 A3d:=A4 (sp:=D8g) Tryz.func21 (by kernel_rfl) (by kernel_rfl) (by kernel_rfl) E8d (A0 F2q (A0 D8n (A0 C7k (A0 B2b (A0 A4x (A0 A9r (A3))))))) E1y D9h
theorem B0v:B9 Tryz.prog 102 J7:=A4 (sp:=B0m) Tryz.func102 (by kernel_rfl) (by kernel_rfl) (by kernel_rfl) A8 (A0 A6s (A0 A5i (A3))) B9g B7i
theorem E6v:B9 Tryz.prog 38 A0p:=A4 (sp:=D1m) Tryz.func38 (by kernel_rfl) (by kernel_rfl) (by kernel_rfl) A8 (A0 A6s (A0 B0v (A3))) D6u D5l
theorem X8:B9 Tryz.prog 109 F0:=A4 (sp:=A8g) Tryz.func109 (by kernel_rfl) (by kernel_rfl) (by kernel_rfl) A8 (A3) B6d B5z
theorem G3:B9 Tryz.prog 186 C7:=A4 (sp:=B6k) Tryz.func186 (by kernel_rfl) (by kernel_rfl) (by kernel_rfl) A8 (A3) C4v C7a
theorem N5:B9 Tryz.prog 172 C8:=A4 (sp:=A6h) Tryz.func172 (by kernel_rfl) (by kernel_rfl) (by kernel_rfl) A8 (A0 G3 (A3)) B4c B3u
theorem X1:B9 Tryz.prog 139 E9:=A4 (sp:=A8a) Tryz.func139 (by kernel_rfl) (by kernel_rfl) (by kernel_rfl) A8 (A0 N5 (A3)) B6a B6b
theorem D1a:B9 Tryz.prog 198 O7:=A4 (sp:=B3f) Tryz.func198 (by kernel_rfl) (by kernel_rfl) (by kernel_rfl) A8 (A0 N5 (A3)) C2w C0a
theorem N7:B9 Tryz.prog 160 D6:=A4 (sp:=B0x) Tryz.func160 (by kernel_rfl) (by kernel_rfl) (by kernel_rfl) A8 (A0 X1 (A0 D1a (A3))) B8a B9p
theorem A4z:B9 Tryz.prog 192 F7:=A4 (sp:=A4y) Tryz.func192 (by kernel_rfl) (by kernel_rfl) (by kernel_rfl) A8 (A3) B1f B1g
theorem D4e:B9 Tryz.prog 151 O8:=A4 (sp:=B4d) Tryz.func151 (by kernel_rfl) (by kernel_rfl) (by kernel_rfl) A8 (A0 N7 (A0 A4z (A3))) C1x C1z
theorem A1j:B9 Tryz.prog 85 H5:=A4 (sp:=B4n) Tryz.func85 (by kernel_rfl) (by kernel_rfl) (by kernel_rfl) A8 (A0 X8 (A0 D4e (A3))) C1r C2g
theorem A4k:B9 Tryz.prog 165 C6:=A4 (sp:=V6) Tryz.func165 (by kernel_rfl) (by kernel_rfl) (by kernel_rfl) A8 (A3) A2l A2g
theorem A2i:B9 Tryz.prog 108 C0:=A4 (sp:=S6) Tryz.func108 (by kernel_rfl) (by kernel_rfl) (by kernel_rfl) A8 (A0 A4k (A3)) A0s A0r
theorem A5j:B9 Tryz.prog 219 J6:=A4 (sp:=B4l) Tryz.func219 (by kernel_rfl) (by kernel_rfl) (by kernel_rfl) A8 (A3) C3m C0s
theorem C7g:B9 Tryz.prog 181 K3:=A4 (sp:=A8q) Tryz.func181 (by kernel_rfl) (by kernel_rfl) (by kernel_rfl) A8 (A0 G3 (A0 A5j (A3))) B6c B5t
theorem A2r:B9 Tryz.prog 137 G1:=A4 (sp:=A7z) Tryz.func137 (by kernel_rfl) (by kernel_rfl) (by kernel_rfl) A8 (A0 C7g (A3)) B5q B5v
theorem I9:B9 Tryz.prog 180 C4:=A4 (sp:=A2z) Tryz.func180 (by kernel_rfl) (by kernel_rfl) (by kernel_rfl) A8 (A0 G3 (A3)) A8r A7s
theorem Y0:B9 Tryz.prog 138 D9:=A4 (sp:=A4f) Tryz.func138 (by kernel_rfl) (by kernel_rfl) (by kernel_rfl) A8 (A0 I9 (A3)) A9v A9q
theorem T3:B9 Tryz.prog 179 E4:=A4 (sp:=A7t) Tryz.func179 (by kernel_rfl) (by kernel_rfl) (by kernel_rfl) A8 (A3) B5s B5g
theorem W7:B9 Tryz.prog 183 G2:=A4 (sp:=B2v) Tryz.func183 (by kernel_rfl) (by kernel_rfl) (by kernel_rfl) A8 (A0 G3 (A3)) C0o C0g
theorem D2x:B9 Tryz.prog 182 O5:=A4 (sp:=B2t) Tryz.func182 (by kernel_rfl) (by kernel_rfl) (by kernel_rfl) A8 (A0 T3 (A0 W7 (A3))) C3b C1f
theorem A9p:B9 Tryz.prog 222 E1:=A4 (sp:=A1a) Tryz.func222 (by kernel_rfl) (by kernel_rfl) (by kernel_rfl) A8 (A0 I9 (A0 G3 (A3))) A6a A5z
theorem E2b:B9 Tryz.prog 208 U7:=A4 (sp:=C0k) Tryz.func208 (by kernel_rfl) (by kernel_rfl) (by kernel_rfl) A8 (A3) C8m C9f
theorem A1z:B9 Tryz.prog 238 D7:=A4 (sp:=A1y) Tryz.func238 (by kernel_rfl) (by kernel_rfl) (by kernel_rfl) A8 (A0 E2b (A3)) A7n A6x
theorem C1v:B9 Tryz.prog 240 J1:=A4 (sp:=A6g) Tryz.func240 (by kernel_rfl) (by kernel_rfl) (by kernel_rfl) A8 (A3) B4e B2h
theorem B1y:B9 Tryz.prog 242 F6:=A4 (sp:=A3m) Tryz.func242 (by kernel_rfl) (by kernel_rfl) (by kernel_rfl) A8 (A0 G3 (A3)) A8u A8k
theorem B3d:B9 Tryz.prog 223 F4:=A4 (sp:=A3e) Tryz.func223 (by kernel_rfl) (by kernel_rfl) (by kernel_rfl) A8 (A0 G3 (A0 A1z (A0 C1v (A0 B1y (A4i (D8i (cx:=⟨Tryz.prog,tys⟩) (fn:=Tryz.f241) (c:=Tryz.f241.body.getD .skip) Tryz.func241 (by kernel_rfl) (by kernel_rfl) A8 (A4n (A3) (A8x))) (A3)))))) A8o A7r
theorem A7u:B9 Tryz.prog 185 I1:=A4 (sp:=A7q) Tryz.func185 (by kernel_rfl) (by kernel_rfl) (by kernel_rfl) A8 (A0 N5 (A0 I9 (A0 W7 (A0 G3 (A0 A5j (A0 A9p (A0 B3d (A3)))))))) B5n B5k
theorem B7h:B9 Tryz.prog 255 G8:=A4 (sp:=A5a) Tryz.func255 (by kernel_rfl) (by kernel_rfl) (by kernel_rfl) A8 (A3) B1o B1r
theorem C5h:B9 Tryz.prog 239 K2:=A4 (sp:=A8m) Tryz.func239 (by kernel_rfl) (by kernel_rfl) (by kernel_rfl) A8 (A0 B7h (A3)) B5r B5j
theorem C0b:B9 Tryz.prog 220 I8:=A4 (sp:=A6r) Tryz.func220 (by kernel_rfl) (by kernel_rfl) (by kernel_rfl) A8 (A0 A1z (A0 C5h (A3))) B3m B2g
theorem A2w:B9 Tryz.prog 142 J8:=A4 (sp:=B6v) Tryz.func142 (by kernel_rfl) (by kernel_rfl) (by kernel_rfl) A8 (A0 G3 (A3)) C4e C5i
theorem B6s:B9 Tryz.prog 212 O4:=A4 (sp:=B6w) Tryz.func212 (by kernel_rfl) (by kernel_rfl) (by kernel_rfl) A8 (A0 N5 (A0 G3 (A3))) C6t C4s
theorem C0c:B9 Tryz.prog 221 I6:=A4 (sp:=A6d) Tryz.func221 (by kernel_rfl) (by kernel_rfl) (by kernel_rfl) A8 (A0 A2w (A0 I9 (A0 B6s (A3)))) B1u B2f
theorem D5w:B9 Tryz.prog 184 Q7:=A4 (sp:=B6i) Tryz.func184 (by kernel_rfl) (by kernel_rfl) (by kernel_rfl) A8 (A0 N5 (A0 I9 (A0 W7 (A0 A7u (A0 G3 (A0 A5j (A0 C0b (A0 C0c (A3))))))))) C3z C5m
theorem A1b:B9 Tryz.prog 140 F2:=A4 (sp:=A6q) Tryz.func140 (by kernel_rfl) (by kernel_rfl) (by kernel_rfl) A8 (A0 D2x (A0 W7 (A0 D5w (A0 A7u (A3))))) B3c B3l
theorem N6:B9 Tryz.prog 111 D8:=A4 (sp:=B0s) Tryz.func111 (by kernel_rfl) (by kernel_rfl) (by kernel_rfl) A8 (A0 A2r (A0 Y0 (A0 X1 (A0 A1b (A3))))) B8f B8l
theorem C9i:B9 Tryz.prog 45 N2:=A4 (sp:=B0u) Tryz.func45 (by kernel_rfl) (by kernel_rfl) (by kernel_rfl) E8d (A0 A1j (A4i (G5s B5x) (A0 A2i (A0 X8 (A0 N6 (A4i G3e (A4i (D8i (cx:=⟨Tryz.prog,G5g⟩) (fn:=Tryz.f110) (c:=Tryz.f110.body.getD .skip) Tryz.func110 (by kernel_rfl) (by kernel_rfl) E8d (A4n (A3) (A8x))) (A3)))))))) B8t B8j
theorem B6u:B9 Tryz.prog 141 O0:=A4 (sp:=B6m) Tryz.func141 (by kernel_rfl) (by kernel_rfl) (by kernel_rfl) A8 (A0 A2w (A0 T3 (A3))) C6b C7b
theorem A5g:B9 Tryz.prog 71 J5:=A4 (sp:=B1x) Tryz.func71 (by kernel_rfl) (by kernel_rfl) (by kernel_rfl) A8 (A0 A2r (A0 Y0 (A0 X1 (A0 A1b (A0 B6u (A0 A2w (A3))))))) C2f C0i
theorem D5j:B9 Tryz.prog 143 R2:=A4 (sp:=B7b) Tryz.func143 (by kernel_rfl) (by kernel_rfl) (by kernel_rfl) A8 (A0 T3 (A0 W7 (A3))) C6i C6n
theorem D4g:B9 Tryz.prog 73 P5:=A4 (sp:=B3v) Tryz.func73 (by kernel_rfl) (by kernel_rfl) (by kernel_rfl) A8 (A0 N6 (A0 D5j (A3))) C2h C3d
theorem D2m:B9 Tryz.prog 117 P4:=A4 (sp:=B3x) Tryz.func117 (by kernel_rfl) (by kernel_rfl) (by kernel_rfl) A8 (A0 N6 (A0 N7 (A3))) B9t C0m
theorem C2o:B9 Tryz.prog 136 I4:=A4 (sp:=A6l) Tryz.func136 (by kernel_rfl) (by kernel_rfl) (by kernel_rfl) A8 (A0 T3 (A0 I9 (A3))) B2d B2l
theorem A0d:B9 Tryz.prog 70 E6:=A4 (sp:=A5e) Tryz.func70 (by kernel_rfl) (by kernel_rfl) (by kernel_rfl) A8 (A0 C2o (A3)) B1e B1m
theorem D5d:B9 Tryz.prog 211 Q5:=A4 (sp:=B6p) Tryz.func211 (by kernel_rfl) (by kernel_rfl) (by kernel_rfl) A8 (A0 G3 (A3)) C4n C4g
theorem D6p:B9 Tryz.prog 173 Q9:=A4 (sp:=B6f) Tryz.func173 (by kernel_rfl) (by kernel_rfl) (by kernel_rfl) A8 (A0 T3 (A0 D5d (A0 B6s (A3)))) C5b C4w
theorem A1e:B9 Tryz.prog 122 H4:=A4 (sp:=B3n) Tryz.func122 (by kernel_rfl) (by kernel_rfl) (by kernel_rfl) A8 (A0 N6 (A0 A2r (A0 Y0 (A0 X1 (A0 A1b (A0 B6u (A0 A2w (A0 N7 (A0 N5 (A0 D6p (A3))))))))))) C2b C1g
theorem E1k:B9 Tryz.prog 118 T8:=A4 (sp:=C2c) Tryz.func118 (by kernel_rfl) (by kernel_rfl) (by kernel_rfl) A8 (A0 A0d (A0 A1e (A3))) C8i C9p
theorem B2r:B9 Tryz.prog 169 L7:=A4 (sp:=B3w) Tryz.func169 (by kernel_rfl) (by kernel_rfl) (by kernel_rfl) A8 (A0 N7 (A3)) C2p C2a
theorem C8n:B9 Tryz.prog 168 N1:=A4 (sp:=B0l) Tryz.func168 (by kernel_rfl) (by kernel_rfl) (by kernel_rfl) A8 (A3) B9k B8c
theorem C2n:B9 Tryz.prog 114 I3:=A4 (sp:=A6f) Tryz.func114 (by kernel_rfl) (by kernel_rfl) (by kernel_rfl) A8 (A0 C8n (A3)) B4f B4m
theorem C6c:B9 Tryz.prog 156 K4:=A4 (sp:=A8t) Tryz.func156 (by kernel_rfl) (by kernel_rfl) (by kernel_rfl) A8 (A0 C2n (A3)) B5h B5e
theorem Y2:B9 Tryz.prog 210 O6:=E7t fun _ h=>h
theorem A8i:B9 Tryz.prog 170 I0:=A4 (sp:=A7v) Tryz.func170 (by kernel_rfl) (by kernel_rfl) (by kernel_rfl) A8 (A0 A1e (A0 C6c (A0 A4z (A0 Y2 (A3))))) B5y B5i
theorem B2e:B9 Tryz.prog 171 F3:=A4 (sp:=A3n) Tryz.func171 (by kernel_rfl) (by kernel_rfl) (by kernel_rfl) A8 (A0 A5g (A0 N6 (A0 A1e (A0 N7 (A3))))) A8s A8d
theorem B9a:B9 Tryz.prog 119 H2:=A4 (sp:=A4o) Tryz.func119 (by kernel_rfl) (by kernel_rfl) (by kernel_rfl) A8 (A0 B2r (A0 A8i (A0 B2e (A3)))) B1c B1d
theorem D2r:B9 Tryz.prog 50 P3:=A4 (sp:=B1v) Tryz.func50 (by kernel_rfl) (by kernel_rfl) (by kernel_rfl) A8 (A0 A5g (A0 D4g (A0 A1j (A0 D2m (A0 E1k (A0 B9a (A3))))))) C1o C1c
theorem B3i:B9 Tryz.prog 125 F5:=A4 (sp:=A2y) Tryz.func125 (by kernel_rfl) (by kernel_rfl) (by kernel_rfl) A8 (A0 A5g (A0 A1e (A0 N7 (A4i G2k (A4i (D8i (cx:=⟨Tryz.prog,tys⟩) (fn:=Tryz.f175) (c:=Tryz.f175.body.getD .skip) Tryz.func175 (by kernel_rfl) (by kernel_rfl) A8 (A4n (A3) (A8x))) (A3)))))) A8h A8n
theorem E1w:B9 Tryz.prog 55 T6:=A4 (sp:=B9v) Tryz.func55 (by kernel_rfl) (by kernel_rfl) (by kernel_rfl) A8 (A0 A1j (A0 B3i (A4i (D8i (cx:=⟨Tryz.prog,tys⟩) (fn:=Tryz.f110) (c:=Tryz.f110.body.getD .skip) Tryz.func110 (by kernel_rfl) (by kernel_rfl) A8 (A4n (A3) (A8x))) (A3)))) C9k C9h
theorem C8p:B9 Tryz.prog 126 M6:=A4 (sp:=B0o) Tryz.func126 (by kernel_rfl) (by kernel_rfl) (by kernel_rfl) A8 (A0 A6s (A0 B0v (A3))) B7f B7p
theorem A3s:B9 Tryz.prog 58 H6:=A4 (sp:=B0p) Tryz.func58 (by kernel_rfl) (by kernel_rfl) (by kernel_rfl) A8 (A0 C8p (A3)) B7v B7u
theorem B6o:B9 Tryz.prog 68 O2:=A4 (sp:=B6t) Tryz.func68 (by kernel_rfl) (by kernel_rfl) (by kernel_rfl) A8 (A0 A5b (A0 A7o (A3))) C4y C6l
theorem E1m:B9 Tryz.prog 116 U2:=A4 (sp:=C0h) Tryz.func116 (by kernel_rfl) (by kernel_rfl) (by kernel_rfl) A8 (A0 B6o (A0 A9r (A3))) C8s C8r
theorem D4y:B9 Tryz.prog 47 R4:=A4 (sp:=B6y) Tryz.func47 (by kernel_rfl) (by kernel_rfl) (by kernel_rfl) A8 (A0 C9i (A0 D2r (A0 E1w (A0 A3s (A0 E1m (A3)))))) C5j C5k
theorem E1t:B9 Tryz.prog 48 T9:=A4 (sp:=C0u) Tryz.func48 (by kernel_rfl) (by kernel_rfl) (by kernel_rfl) A8 (A0 A3s (A3)) C8e C8k
theorem F4n:B9 Tryz.prog 51 A6k:=A4 (sp:=E3u) Tryz.func51 (by kernel_rfl) (by kernel_rfl) (by kernel_rfl) A8 (A0 C7k (A0 A4x (A0 C6z (A3)))) E5k E5g
theorem C3f:B9 Tryz.prog 62 I7:=A4 (sp:=A6o) Tryz.func62 (by kernel_rfl) (by kernel_rfl) (by kernel_rfl) A8 (A3) B3j B3a
theorem B8d:B9 Tryz.prog 130 G9:=A4 (sp:=A5d) Tryz.func130 (by kernel_rfl) (by kernel_rfl) (by kernel_rfl) A8 (A0 N6 (A0 N7 (A3))) B1s B1k
theorem B8g:B9 Tryz.prog 63 H0:=A4 (sp:=A5v) Tryz.func63 (by kernel_rfl) (by kernel_rfl) (by kernel_rfl) A8 (A0 X8 (A0 B8d (A4i (D8i (cx:=⟨Tryz.prog,tys⟩) (fn:=Tryz.f110) (c:=Tryz.f110.body.getD .skip) Tryz.func110 (by kernel_rfl) (by kernel_rfl) A8 (A4n (A3) (A8x))) (A3)))) B1b B1i
theorem C8h:B9 Tryz.prog 64 L9:=A4 (sp:=B0w) Tryz.func64 (by kernel_rfl) (by kernel_rfl) (by kernel_rfl) A8 (A0 A9r (A3)) B8z B9m
theorem C8f:B9 Tryz.prog 193 M0:=A4 (sp:=B0q) Tryz.func193 (by kernel_rfl) (by kernel_rfl) (by kernel_rfl) A8 (A0 N6 (A3)) B8u B7l
theorem D5r:B9 Tryz.prog 152 R5:=A4 (sp:=B6l) Tryz.func152 (by kernel_rfl) (by kernel_rfl) (by kernel_rfl) A8 (A0 B2r (A0 A8i (A0 C8f (A3)))) C3x C4t
theorem D0d:B9 Tryz.prog 103 P0:=A4 (sp:=B3r) Tryz.func103 (by kernel_rfl) (by kernel_rfl) (by kernel_rfl) A8 (A0 A0d (A0 D5r (A3))) C1y C1s
theorem D3v:B9 Tryz.prog 66 O9:=A4 (sp:=B1z) Tryz.func66 (by kernel_rfl) (by kernel_rfl) (by kernel_rfl) A8 (A0 A1j (A0 D0d (A3))) C0n C0v
theorem C2t:B9 Tryz.prog 67 I5:=A4 (sp:=A6j) Tryz.func67 (by kernel_rfl) (by kernel_rfl) (by kernel_rfl) A8 (A0 A0d (A0 X8 (A4i (D8i (cx:=⟨Tryz.prog,tys⟩) (fn:=Tryz.f110) (c:=Tryz.f110.body.getD .skip) Tryz.func110 (by kernel_rfl) (by kernel_rfl) A8 (A4n (A3) (A8x))) (A3)))) B4h B3p
theorem B5d:B9 Tryz.prog 12 C3:=A4 (sp:=A4d) Tryz.func12 (by kernel_rfl) (by kernel_rfl) (by kernel_rfl) A8 (A0 A6s (A0 E8n (A0 B9o (A0 F2p (A0 A2u (A0 E6v (A0 D4y (A0 E1t (A0 D2a (A0 F4n (A0 A3s (A0 C3f (A0 B8g (A0 C8h (A0 B2b (A0 D3v (A0 C2t (A0 B6o (A3))))))))))))))))))) B0f A9j
theorem F3v {t:Ty} {l:List t.den} {x:t.den} (h:x∈l):bul t x+1<=bul (.sl t) l:=by
 simp only[bul]
 induction l with
 |nil=>cases h
 |cons y r ih=>
  simp only[List.map_cons,List.sum_cons];cases List.mem_cons.1 h with
  |inl e=>subst e;omega
  |inr e=>have:=ih e;omega
theorem F4v {t:Ty} (ht:∀x,1<=bul t x) (l:List t.den):l.length+1<=bul (.sl t) l:=by
 simp only[bul]
 induction l with
 |nil=>simp
 |cons y r ih=>simp only[List.map_cons,List.sum_cons,List.length_cons];have:=ht y;omega
theorem G5u {k:Nat} {x:N8} (h:bul tQ x<=k):sz k x:=by
 have h1:=F4v (t:= .int .u32) (fun _=>Nat.le_refl _) x.1.2;have h2:=F4v (t:= .int .u32) (fun _=>Nat.le_refl _) x.2;have h:bul .bool x.1.1+bul (.sl (.int .u32)) x.1.2+bul (.sl (.int .u32)) x.2<=k:=h;exact⟨by omega,by omega⟩
theorem G3j {k:Nat} {l:List N8} (h:bul (.sl tQ) l<=k):szL k l:=fun e he=>G5u (by have:=F3v (t:=tQ) he;omega)
theorem D3y (x:A6 C3.args) (h:F8j C3.args x<=1048576):C3.pre x:=by
 obtain⟨L,c,l,u⟩:=x;have h:bul (.sl (.sl tQ)) L+(1+(bul (.sl (.int .i64)) l+0))<=1048576:=h;have hk:1048576<=K0:=by decide
 intro r hr;have hr:r∈L:=hr;have:=F3v (t:= .sl tQ) hr;have h1:szL K0 r:=G3j (by omega);exact h1
end Go.Proofs.YtkdmjgcjpmcjjaaGreat
