/- Part. -/
import Derived.Shelf.SlSortCmp.NoneTotal
import Derived.Lib.QuietBelow
import Derived.Shelf.SlGeneric
import Derived.Shelf.SlicesG.Cmp
import Derived.Ground.SlsfProg
import Derived.Ground.SlgcProg
import Derived.Test.YtiflhbllbgajeaaGreatProg
import Derived.Test.YtiflhbllbgajeaaGreatKGI
set_option linter.all false
namespace Go.Proofs.YtiflhbllbgajeaaGreat
open Go.Proofs.Tryz
open Go.Vc Go.Gw
open Go.IntKind (i64)
def Lk:An:= {loop:= [(14,⟨[3,4,6,7,9,34,35,36,68,69],[0,1],[(11,false,[.val .bool]),(70,false,vI)],[],[]⟩),(7,⟨[3,4,6,34,35],[0,1],[(36,false,vI)],[],[]⟩)],plan:= [(5,[1,2],[],true,(.p 0 (.q 1 (.q 2 (.e 3 (.e 4 (.p 5 .done))))))),(18,[3],[],true,(pZ9 0 3 (.q 3 (.e 4 (.e 5 (.p 6 .done))))))]}
def Cn:A2 F7.args->Prop:=fun(x:Kv)=>let t:=(1:Int);let n:=(549755813888:Nat);let e:=(0:Int);True/\∀(r:B5e),let f:=r.1.2.length;let s:=(↑f:Int);(K4 r.1.1/\List.length r.1.2<=9223372036854775807/\∀(x:Int×Int×QQ×(Bool×List Int)×List Int),x∈r.1.2->K4 x.1/\K4 x.2.1/\FD x.2.2.1/\FD x.2.2.2)/\True->B1q r.1->(G6 r.1->Bh r.1)/\∀(y:C6e),let u:=(decide (y.2.1≠e));let i:=(y.1.1.length:Int);(SK y.1.1/\WfM y.1.2.1/\K4 y.1.2.2.1/\K4 y.1.2.2.2.1/\Rs y.1.2.2.2.2)/\K4 y.2.1/\True->(¬G6 r.1->y.2.1=t)/\(G6 r.1->y.2.1=e/\y.1.1=G9 r.1.1 (Qw r.1.2)/\∃(G:Nat->Nat->Rat),Cz r.1 G/\(∀(a b:Nat),a<Int.toNat r.1.1->b<Int.toNat r.1.1->qs K0 (G a b))/\Qn f r.1.1.toNat (Me r.1.2 G) y.1.2.1/\Qn f f (shF r.1.2 G) y.1.2.2)->True/\Rq fun H=>H.1=true->(iB (J9 (!H.1) true u) (false=true) (List.length r.1.2<=100000/\∀(B:C3p),(List.length B.1<=9223372036854775807/\∀(x:Int×Int),x∈B.1->K4 x.1/\K4 x.2)/\True->B.1=Qw r.1.2->(En r.1.1 B.1/\List.length B.1<=100000)/\rT7 fun C=>let m:=(C.1.length:Int);C.1=Sa r.1.1 B.1->∃(I:C6->Prop),∃(a: _->Nat),I (e,())/\∀(p:C6),let o:=(i64.wrap (p.1+t),());let c:=(gx (e,e,dQ,(false,[]),[]) r.1.2 p.1);(Ty.int i64).wf p.1/\True->I p->(iB (decide (p.1<s)) ((e<=p.1/\p.1<s)/\Ef K3 y.1.2.1/\∀(z:B9l),let k:=(z.1.length:Int);let j:=(gx dQ z.1 p.1);let h:=(decide (z.2.1≠e));let d:=(decide (k≠s));WfL z.1/\K4 z.2.1/\True->(¬Rc y.1->z.1= []/\z.2.1=t)/\(Rc y.1->(¬(e<=c.1/\c.1<i/\e<=c.2.1/\c.2.1<i)->z.1= []/\z.2.1=3)/\(e<=c.1/\c.1<i/\e<=c.2.1/\c.2.1<i->(List.getD y.1.1 c.1.toNat e≠List.getD y.1.1 c.2.1.toNat e->z.1= []/\z.2.1=13)/\(List.getD y.1.1 c.1.toNat e=List.getD y.1.1 c.2.1.toNat e->z.2.1=e/\z.1=dZ y.1.2.1.1.toNat fun(l:Nat)=>let q:=(List.getD y.1.2.1.2.2 l []);A5 q c.1-A5 q c.2.1)))->(J9 h true d=false->e<=p.1/\p.1<k)/\(J9 h true d=false->E6 j)/\∀(D:C6),let v:=(decide (D.1<=e));(J9 h true d=false->(K4 D.1/\True)/\D.1=(rv j).num.sign)->(iB (J9 (J9 h true d) true v) (false=true) (∃(I_1:Bool×Int×Unit->Prop),∃(b: _->Nat),I_1 (false,e,())/\∀(A:Bool×Int×Unit),let g:=(J9 A.1 true (decide (gx e C.1 A.2.1=p.1)),i64.wrap (A.2.1+t),());Ty.bool.wf A.1/\(Ty.int i64).wf A.2.1/\True->I_1 A->(iB (decide (A.2.1<m)) ((e<=A.2.1/\A.2.1<m)/\I_1 g/\b g<b A) ((e<=p.1/\p.1<k)/\True/\I6 fun r=>r.1=ri t->((List.length j.1.2<=n/\List.length j.2<=n)/\List.length r.1.1.2<=n/\List.length r.1.2<=n)/\Bf fun F=>let w:=(decide (e<F.1));F.1=Zw (rv j) (rv r.1)->(iB (J9 w true (decide (F.1=e) !=A.1)) (false=true) (I o/\a o<a p))))))) (true=true))))
def B1s {e:D7} (h:AF e) {k:Nat} (b:1<=k):sz k e:=by
 obtain⟨q,a,rfl⟩:=h;exact⟨qX a.1 b,qX a.2 b⟩
def A6r {N:Gl} (h:B1q N):Bh N:=⟨by have:=h.2.2.1;omega,h.2.2.2.1,fun e a=>⟨B1s (h.2.2.2.2 e a).1 (by decide),B1s (h.2.2.2.2 e a).2 (by decide)⟩⟩
def C5r {k:Int} (b:k.natAbs<4294967296):sz 1 (ri k)/\qs 1 (k:Rat):=by
 have:=B4h (a:=k) (by omega);exact⟨by rw[HE];exact⟨this.1,this.2⟩,this⟩
def Ax:List Ws:= [(0,1,rc 1,zr),(1,2,rc 1,zr),(0,2,rc 1,zr)]
def C3l:G6 (3,Ax):=by
 refine⟨show(0:Int)<=3 by decide,show(3:Int)<=16384 by decide,show 3<=16384 by decide,fun e b=> ?_⟩;have a:(0:Rat)<rv (rc 1):=by rw[E4];decide
 simp only[Ax,qG,rZ,vJ]at b;rcases b with rfl|rfl|rfl
 . exact⟨show(0:Int)<=0 by decide,show(0:Int)<3 by decide,show(0:Int)<=1 by decide,show(1:Int)<3 by decide,show(0:Int)≠1 by decide,a⟩
 . exact⟨show(0:Int)<=1 by decide,show(1:Int)<3 by decide,show(0:Int)<=2 by decide,show(2:Int)<3 by decide,show(1:Int)≠2 by decide,a⟩
 . exact⟨show(0:Int)<=0 by decide,show(0:Int)<3 by decide,show(0:Int)<=2 by decide,show(2:Int)<3 by decide,show(0:Int)≠2 by decide,a⟩
def A2w:Bh (3,Ax):=by
 refine⟨show(3:Int)<=7 by decide,show 3<=9 by decide,fun e a=> ?_⟩;have c:sz 2 (rc 1):=by
  have:=(C5r (k:=1) (by decide)).1;rw[HE]at this;exact G3 this (by decide)
 have b:sz 2 zr:=⟨rK _,rK _⟩;simp only[Ax,qG,rZ,vJ]at a;rcases a with rfl|rfl|rfl<;>exact⟨c,b⟩
def fH:G9 3 (Qw Ax)= [0,0,0]:=by
 have:Qw Ax= [(0,1),(1,2),(0,2)]:=rfl;rw[this];decide
def oW {b:Nat} (a:b<3):O7 (3,Ax) b=0:=by
 unfold O7;rw[show G9 (3:Int) (Qw Ax)= [0,0,0]from fH];rcases(show b=0\/b=1\/b=2 by omega)with rfl|rfl|rfl<;>rfl
def C3k (G:Nat->Nat->Rat) (b:Nat):Me Ax G 0 b=G 0 b-G 1 b/\Me Ax G 1 b=G 1 b-G 2 b/\Me Ax G 2 b=G 0 b-G 2 b:=by
 have a:Jl Ax 0=1:=E4 1;have c:Jl Ax 1=1:=E4 1;have d:Jl Ax 2=1:=E4 1;refine⟨?_, ?_, ?_⟩<;>unfold Me
 . rw[a,xR];rfl
 . rw[c,xR];rfl
 . rw[d,xR];rfl
def C3j (f:Nat->Rat):QT Ax f 0=f 0+f 2/\QT Ax f 1=f 1-f 0/\QT Ax f 2= -f 1-f 2:=by
 have e:∀b,QT Ax f b=0+OF (Ay Ax) (Bi Ax) b 0*f 0+OF (Ay Ax) (Bi Ax) b 1*f 1+OF (Ay Ax) (Bi Ax) b 2*f 2:=fun b=>rfl
 have a:Ay Ax 0=0:=rfl;have c:Ay Ax 1=1:=rfl;have d:Ay Ax 2=0:=rfl;have g:Bi Ax 0=1:=rfl;have h:Bi Ax 1=2:=rfl;have i:Bi Ax 2=2:=rfl;refine⟨?_, ?_, ?_⟩<;>rw[e]<;>unfold OF<;>simp only[a,c,d,g,h,i]<;>simp<;>grind
def C0k (l b:Nat):Rat:=(([[0, -2, -1],[0,1, -1],[0, -1, -2]]:List (List Int)).getD l []).getD b 0/3
def fI {G:Nat->Nat->Rat} (y:Cz (3,Ax) G):∀l b,l<3->b<3->Me Ax G l b=C0k l b:=by
 have z:∀b,b<3->G 0 b=0/\(Me Ax G 0 b+Me Ax G 2 b=(if b=0 then 1 else 0)-1)/\(Me Ax G 1 b-Me Ax G 0 b=if b=1 then 1 else 0)/\(-Me Ax G 1 b-Me Ax G 2 b=if b=2 then 1 else 0):=fun b n=>by
  obtain⟨x,t⟩:=y b n;obtain⟨u,v,w⟩:=C3j fun l=>Me Ax G l b
  have i:=t 0 (show 0<3 by decide);have j:=t 1 (show 1<3 by decide);have k:=t 2 (show 2<3 by decide);rw[oW n]at i j k;simp only at i j k;rw[u]at i;rw[v]at j;rw[w]at k;refine⟨x 0 (show 0<3 by decide) (oW (by decide)),i, ?_, ?_⟩
  . rw[j,qK (show¬(0:Nat)=1 by decide)];grind
  . rw[k,qK (show¬(0:Nat)=2 by decide)];grind
 intro l b A n;obtain⟨d,o,r,s⟩:=z b n;obtain⟨f,g,h⟩:=C3k G b;rw[f,h]at o;rw[g,f]at r;rw[g,h]at s;rcases(show b=0\/b=1\/b=2 by omega)with rfl|rfl|rfl
 . rw[qQ rfl]at o;rw[qK (by decide)]at r s;have a:G 1 0=0:=by grind
   have c:G 2 0=0:=by grind
   rcases(show l=0\/l=1\/l=2 by omega)with rfl|rfl|rfl
   . rw[f,d,a];decide+kernel
   . rw[g,a,c];decide+kernel
   . rw[h,d,c];decide+kernel
 . rw[qK (by decide)]at o s;rw[qQ rfl]at r;have a:G 1 1=2/3:=by grind
   have c:G 2 1=1/3:=by grind
   rcases(show l=0\/l=1\/l=2 by omega)with rfl|rfl|rfl
   . rw[f,d,a];decide+kernel
   . rw[g,a,c];decide+kernel
   . rw[h,d,c];decide+kernel
 . rw[qK (by decide)]at o r;rw[qQ rfl]at s;have a:G 1 2=1/3:=by grind
   have c:G 2 2=2/3:=by grind
   rcases(show l=0\/l=1\/l=2 by omega)with rfl|rfl|rfl
   . rw[f,d,a];decide+kernel
   . rw[g,a,c];decide+kernel
   . rw[h,d,c];decide+kernel
def A6w {R C:Nat} {f:Nat->Nat->Rat} {m:Dx} (h:Qn R C f m):∀v∈m.2.2,∀e∈v,e.2=rc (rv e.2):=fun v c e a=>by
 obtain⟨i,b,rfl⟩:=Bn [] c;exact((h.2.2.2 i (by rw[<-h.2.2.1];exact b)).1.2 e a).2
def C5o {N:Gl} {G:Nat->Nat->Rat} {f:TFV} (h:G6 N) (g:Bh N) (n:∀e∈N.2,Ia e.2.2.1) (j:∀a b,a<N.1.toNat->b<N.1.toNat->qs K0 (G a b)) (i:f.1=G9 N.1 (Qw N.2)) (c:Qn N.2.length N.1.toNat (Me N.2 G) f.2.1) (d:Qn N.2.length N.2.length (shF N.2 G) f.2.2):Rc f/\Ef K3 f.2.1:=by
 have k:=g.2.1;have k:=g.1;refine⟨⟨EH c (by omega) (by omega),EH d (by omega) (by omega),d.1.trans c.1.symm,d.2.1.trans c.1.symm, ?_⟩,iN c (by decide) fun o r k l=>N7 (jK h g n j k l) (by decide)⟩;rw[i,(Gf h).1];exact c.2.1
def btw {N:Gl} {G:Nat->Nat->Rat} {f:TFV} (d:G6 N) (j:f.1=G9 N.1 (Qw N.2)) (a:Qn N.2.length N.1.toNat (Me N.2 G) f.2.1) {k:Nat} (i:k<N.2.length):((0<=(Ay N.2 k:Int)/\(Ay N.2 k:Int)<(f.1.length:Int)/\0<=(Bi N.2 k:Int)/\(Bi N.2 k:Int)<(f.1.length:Int))/\f.1.getD (Ay N.2 k:Int).toNat 0=f.1.getD (Bi N.2 k:Int).toNat 0)/\
 dZ f.2.1.1.toNat (fun l=>A5 (f.2.1.2.2.getD l []) (Ay N.2 k:Int)-A5 (f.2.1.2.2.getD l []) (Bi N.2 k:Int))=dZ N.2.length fun l=>Jl N.2 l*Kk N.2 G l k:=by
 obtain⟨g,h⟩:=Zq d i;obtain⟨c,b⟩:=Gf d;rw[<-j]at c b;refine⟨⟨⟨qD _,by omega,qD _,by omega⟩, ?_⟩, ?_⟩
 . rw[qJ,qJ,(b _ g).1,(b _ h).1,iT d i]
 . rw[a.1,qJ];unfold dZ;refine g3o fun l c=> ?_
   have b:=uI.1 c;show rc (A5 (f.2.1.2.2.getD l []) (Ay N.2 k:Int)-A5 (f.2.1.2.2.getD l []) (Bi N.2 k:Int))=rc (Jl N.2 l*Kk N.2 G l k);rw[(a.2.2.2 l b).2.2 _ g,(a.2.2.2 l b).2.2 _ h,jL]
def B1r {N:Gl} (b:B1q N):∀e∈N.2,Ia e.2.2.1:=fun e a=>by
 obtain⟨⟨q,_,h⟩,_⟩:=b.2.2.2.2 e a;rw[h];exact UC q
def C3s {N:Gl} {G:Nat->Nat->Rat} (c:G6 N) (h:Bh N) (g:∀e∈N.2,Ia e.2.2.1) (d:∀a b,a<N.1.toNat->b<N.1.toNat->qs K0 (G a b)) {l k:Nat} (f:l<N.2.length) (n:k<N.2.length):qs (K2+K2+1) (Jl N.2 l*Kk N.2 G l k):=by
 obtain⟨i,j⟩:=Zq c n;rw[<-jL];exact IZ (N7 (jK c h g d f i) (by decide)) (N7 (jK c h g d f j) (by decide))
def ZH:qs 1 (Rat.divInt 1 3)/\qs 1 (Rat.divInt 2 3):=by
 obtain⟨q,d,c⟩:=Pb (a:=1) (b:=3) (by omega) (by omega) (by omega);obtain⟨h,f,g⟩:=Pb (a:=2) (b:=3) (by omega) (by omega) (by omega);have e:Rat.divInt 1 3=q:=by rw[<-E4 (Rat.divInt 1 3),c,E4]
 have c:Rat.divInt 2 3=h:=by rw[<-E4 (Rat.divInt 2 3),g,E4]
 rw[e,c];exact⟨d,f⟩
def A3p:∀i j,i<3->j<3->rv (((VP (rc (Rat.divInt 1 3)) (rc (Rat.divInt 2 3)) (rc 0)).getD i []).getD j zr)=C0k i j:=by
 intro i j c d;have a:Rat.divInt 1 3=1/3:=by decide+kernel
 have b:Rat.divInt 2 3=2/3:=by decide+kernel
 rcases(show i=0\/i=1\/i=2 by omega)with rfl|rfl|rfl<;>rcases(show j=0\/j=1\/j=2 by omega)with rfl|rfl|rfl
 . show rv (rc 0)= _;rw[E4];decide+kernel
 . show rv (rc (-rv (rc (Rat.divInt 2 3))))= _;rw[E4,E4,b];decide+kernel
 . show rv (rc (-rv (rc (Rat.divInt 1 3))))= _;rw[E4,E4,a];decide+kernel
 . show rv (rc 0)= _;rw[E4];decide+kernel
 . show rv (rc (Rat.divInt 1 3))= _;rw[E4,a];decide+kernel
 . show rv (rc (-rv (rc (Rat.divInt 1 3))))= _;rw[E4,E4,a];decide+kernel
 . show rv (rc 0)= _;rw[E4];decide+kernel
 . show rv (rc (-rv (rc (Rat.divInt 1 3))))= _;rw[E4,E4,a];decide+kernel
 . show rv (rc (-rv (rc (Rat.divInt 2 3))))= _;rw[E4,E4,b];decide+kernel
def lK:∀l∈VP (rc (Rat.divInt 1 3)) (rc (Rat.divInt 2 3)) (rc 0),MA K1 l/\(l.length:Int)=3:=by
 obtain⟨b,d⟩:=ZH;have c:∀ {q:Rat},qs 1 q->sz K1 (rc (-rv (rc q))):=fun {q} h=>by rw[E4];exact G3 (BN (YS h)) (by decide)
 have f:sz K1 (rc 0):=BN (R5 (by decide));intro l a;unfold VP at a;simp only[qG,rZ,vJ]at a;rcases a with rfl|rfl|rfl<;>refine⟨fun e a=> ?_,rfl⟩<;>simp only[qG,rZ,vJ]at a<;>rcases a with rfl|rfl|rfl<;>first
  |exact f
  |exact c b
  |exact c d
  |exact G3 (BN b) (by decide)
def MK (x:A2 H7.args) (b:awf H7.args x) (a:H7.pre x):Hs x:=by
 obtain⟨_⟩:=x;simp only[Hs];refine⟨trivial, ?_⟩;rintro⟨one,_⟩ _ a;simp only at a⊢;subst a;have a:awE (ri 1)=Ax:=by unfold awE Ax;rw[HE];rfl
 rw[a];refine⟨fun _=>A2w, ?_⟩;rintro⟨f,e,_⟩ _ ⟨_,a⟩;change TFV at f;change Int at e;simp only at a⊢;obtain⟨c,g,G,d,k,b,h⟩:=a C3l;clear a;subst c;refine⟨trivial, ?_⟩;rintro⟨h,_⟩ _ a;simp only at a⊢;subst a;refine⟨trivial, ?_⟩;rintro⟨h,_⟩ _ a;simp only at a⊢;subst a;refine⟨trivial, ?_⟩;rintro⟨z,_⟩ _ a;simp only at a⊢;subst a;refine⟨⟨R6 ZH.1 (by decide),R6 ZH.2 (by decide),lK⟩, ?_⟩;intro M _ a;have h:f.2.1=M:=B7i b a fun i j hi hj=>(fI d i j hi hj).trans (A3p i j hi hj).symm
 have k:Ef K1 f.2.1:=iN b (by decide) fun i j hi hj=>by
  rw[fI d i j hi hj, <-A3p i j hi hj];have a:((VP (rc (Rat.divInt 1 3)) (rc (Rat.divInt 2 3)) (rc 0)).getD i []).getD j zr∈(VP (rc (Rat.divInt 1 3)) (rc (Rat.divInt 2 3)) (rc 0)).getD i []:=C8 (by
   rcases(show i=0\/i=1\/i=2 by have:i<3:=hi;omega)with rfl|rfl|rfl<;>exact hj)
  have d:=(lK _ (C8 (show i<3 from hi))).1 _ a;refine Hi ?_ d (by decide);rcases(show i=0\/i=1\/i=2 by have:i<3:=hi;omega)with rfl|rfl|rfl<;>rcases(show j=0\/j=1\/j=2 by have:j<3:=hj;omega)with rfl|rfl|rfl<;>exact UC _
 simp only[g3j,true_implies];rw[g,fH];refine⟨trivial, ?_⟩;rintro⟨r,_⟩ ⟨_,a⟩;simp only at a⊢;rw[rG (by trivial)]at a;subst a;refine⟨fun _=>k, ?_⟩;rintro⟨d,_⟩ a;simp only at a⊢;have a:=(a rfl).2;rw[a.2 ⟨h,fun v d e c=> ?_⟩]
 . rfl
 . exact A6w b v d e c
def KC:An:= {loop:= [(4,⟨[0,1],[],[(5,false,vI)],[],[]⟩)],plan:= [(6,[3,7],[],true,(pZ9 0 3 (.q 3 (pZ9 4 3 (.q 7 (.p 8 .done))))))]}
def Pv:A2 S8.args->Prop:=fun(x:Fp)=>let f:Prop:=(x.1=x.2.1);let e:=(0:Int);let b:=(x.2.1.length:Int);let a:=(x.1.length:Int);(iB (decide (a≠b)) (false=decide f) (∃(I:C6->Prop),∃(c: _->Nat),I (e,())/\∀(p:C6),let d:=(i64.wrap (p.1+1),());let g:Prop:=(gx e x.1 p.1≠gx e x.2.1 p.1);(Ty.int i64).wf p.1/\True->I p->(iB (decide (p.1<a)) ((e<=p.1/\p.1<a)/\(e<=p.1/\p.1<b)/\(iB (decide g) (false=decide f) (I d/\c d<c p))) (true=decide f))))
def BV (x:A2 S8.args) (b:awf S8.args x) (_:S8.pre x):Pv x:=by
 obtain⟨a,f,_⟩:=x;have c:a.length<=9223372036854775807:=b.1.1;change List Int at a f;simp only[Pv,iB];refine⟨fun h=> ?_,fun h=> ?_⟩
 . have h:=qA h;exact(rH fun e=>h (by rw[e])).symm
 . have b:a.length=f.length:=by have:=qB h;omega
   refine⟨fun p=>0<=p.1/\p.1<=(a.length:Int)/\a.take p.1.toNat=f.take p.1.toNat,fun p=>((a.length:Int)-p.1).toNat,⟨qI _,qD _,by simp⟩, ?_⟩;rintro⟨i,_⟩ _ ⟨c,b,g⟩;change Int at i;simp only at c b g⊢;refine⟨fun h=> ?_,fun h=> ?_⟩
   . have h:=qA h;refine⟨⟨c,h⟩,⟨c,by omega⟩,fun b=> ?_,fun b=> ?_⟩
     . have b:=qA b;exact(rH fun e=>b (by rw[e])).symm
     . have b:gx 0 a i=gx 0 f i:=by simpa using b
       rw[wv (by omega)];refine⟨⟨by omega,by omega, ?_⟩,by omega⟩;rw[show(i+1).toNat=i.toNat+1 from by omega,rP,rP,H1 (d:=(0:Int)) c h,H1 (d:=(0:Int)) c (by omega),g,b]
   . have h:=qB h;rw[D4 (by omega),D4 (by omega)]at g;exact(rG g).symm
end Go.Proofs.YtiflhbllbgajeaaGreat
namespace Go.Proofs.YtiflhbllbgajeaaGreat
open Go.Proofs.Tryz
open Go.IntKind (i64)
def B4q {n:Int} {ls:List Ln} (a:En n ls) {i:Nat} (b:i<ls.length):kK n ls (fun j=>j==i)=true↔C2 (G9 n (kL ls (i:Int))) (nK ls (i:Int)).1≠C2 (G9 n (kL ls (i:Int))) (nK ls (i:Int)).2:=by
 rw[B8s];constructor
 . intro h b;rw[B2o a (by omega) b]at h;exact absurd h (xC _)
 . intro u;have b:=A3e a (i:Int);have k:=a.2.2 _ (iX (ls:=ls) (e:=(i:Int)) (by omega) (by omega));obtain⟨d,r,g,t⟩:=k;have w:=Se a.1 a.2.2;have k:=Se a.1 b;have x:=Iy a.1 a.2.2 (iX (ls:=ls) (e:=(i:Int)) (by omega) (by omega));have o:∀v,0<=v->v<n->C2 (G9 n ls) (C2 (G9 n (kL ls (i:Int))) v)=C2 (G9 n ls) v:=fun v v0 v1=>Ix a.1 b (f:=fun v=>C2 (G9 n ls) v) (fun l hl=>Iy a.1 a.2.2 (kF l hl)) v v0 v1
   generalize nK ls (i:Int)=y at*;obtain⟨b,s⟩:=y;simp only at d r g t u x;have x:((G9 n ls).length:Int)=n:=by rw[U2];have:=a.1;omega
   have x:((G9 n (kL ls (i:Int))).length:Int)=n:=by rw[U2];have:=a.1;omega
   generalize G9 n (kL ls (i:Int))=B at*;generalize G9 n ls=A at*;obtain⟨x,a,y⟩:=k b d (by omega);obtain⟨z,a,D⟩:=k s g (by omega);have a:=o b d r;have a:=o s g t;have a:∀c,0<=c->c<(B.length:Int)->C2 A c=c->C2 B c=c:=fun c c0 c1 hc=>by
    obtain⟨d,g,r⟩:=k c c0 c1;have g:=o c c0 (by omega);have g:=(w (C2 B c) d (by omega)).2.1;omega
   by_cases h:C2 A (C2 B b)=C2 B b
   . refine B0n (by omega) a z (by omega) (fun b=>u ?_) D;omega
   . exact B0n (by omega) a x (by omega) h y
def gE {n:Int} {ls:List Ln} {i:Int} :i∈Sa n ls↔0<=i/\i<(ls.length:Int)/\kK n ls (fun j=>j==i.toNat)=true:=by
 unfold Sa;rw[sQ];constructor
 . rintro⟨k,a,rfl⟩;rw[uG,uI]at a;refine⟨by show(0:Int)<=(k:Int);omega,by show((k:Nat):Int)< _;omega, ?_⟩;exact a.2
 . rintro⟨b,c,a⟩;exact⟨i.toNat,uG.2 ⟨uI.2 (by omega),a⟩,by show((i.toNat:Nat):Int)=i;omega⟩
def jN {N:Gl} (b:G6 N) {i:Nat} (a:i<N.2.length):nK (Qw N.2) (i:Int)=((Ay N.2 i:Int),(Bi N.2 i:Int)):=by
 have:=VT b a;unfold nK Qw;rw[qJ,qF,wB,qP a];have b:N.2.getD i dB=N.2[i]:=by rw[qF,qP a];rfl
 rw[b]at this;show(N.2[i].1,N.2[i].2.1)= _;rw[this.1,this.2]
def LU (E:List Ws):(Qw E).length=E.length:=sV _
def A0n {N:Gl} {G:Nat->Nat->Rat} (a:G6 N) (n:Cz N G) {k:Nat} (b:k<N.2.length):(k:Int)∈Sa N.1 (Qw N.2)↔∀i,i<N.2.length->i≠k->Kk N.2 G i k=0:=by
 have j:=PE a;have g:k<(Qw N.2).length:=by rw[LU];exact b
 rw[gE,qJ,B4q j g,jN a b];have o:=A3e j (k:Int);obtain⟨g,h⟩:=Zq a b;have g:=a.1;constructor
 . rintro⟨-, -,h⟩;simp only at h;have r:=pF a n b (fun c=>if C2 (G9 N.1 (kL (Qw N.2) (k:Int))) (c:Int)=C2 (G9 N.1 (kL (Qw N.2) (k:Int))) (Ay N.2 k:Int)then 1 else 0);rw[L6 b fun i g s=> ?_]at r
   . rw[qQ rfl,qK (Ne.symm h)]at r;have h:Jl N.2 k*Kk N.2 G k k=1:=by grind
     exact(B5p a n b).2.2.1 h
   . have h:=Iy j.1 o (B5l (e:=(k:Int)) (d:=(i:Int)) (by omega) (by omega) (by rw[LU];omega) (by omega));rw[jN a g]at h;simp only at h;rw[h];grind
 . intro t;refine⟨by omega,by omega,fun r=> ?_⟩;simp only at r;have w:=A6z j.1 o (f:=fun c:Int=>G c.toNat (Ay N.2 k)-G c.toNat (Bi N.2 k)) (fun l h=> ?_) (u:=(Ay N.2 k:Int)) (v:=(Bi N.2 k:Int)) (by omega) (by omega) (by omega) (by omega) r
   . simp only[qJ]at w;refine pE a n b ?_;unfold Kk;grind
   . obtain⟨i,g,s,rfl⟩:=US.1 h;rw[LU]at g;have b:(Qw N.2).getD i (0,0)=nK (Qw N.2) (i:Int):=by unfold nK;rw[qJ]
     rw[b,jN a g];simp only[qJ];have a:=t i g (fun e=>s (by rw[e,qJ]));unfold Kk at a;grind
end Go.Proofs.YtiflhbllbgajeaaGreat
namespace Go.Proofs.YtiflhbllbgajeaaGreat
open Go.Proofs.Tryz
open Go.Vc Go.Gw
open Go.IntKind (i64)
def B3n {q:Rat} (h:0<q):0<q.num:=by
 have a:0<=q.num:=g3i.2 (g4j h);have a:q.num≠0:=fun e=>by
  have:q=0:=yF.1 e;rw[this]at h;exact absurd h yJ
 omega
def Jk (x:A2 F7.args) (b2:awf F7.args x) (b0:F7.pre x):Cn x:=by
 obtain⟨ax,_⟩:=x;simp only[Cn,iB,Bf,I6,Rq,rT7];refine⟨trivial, ?_⟩;rintro⟨⟨a2,E⟩,_⟩ _ r;change Int at a2;change List Ws at E;have r:B1q (a2,E):=r;obtain⟨a,ar,au,ab,ac⟩:=id r;have I:=A6r r;have F:=B1r r;simp only at ar au ab ac a F⊢;refine⟨fun _=>I, ?_⟩;rintro⟨a6,e,_⟩ _ ⟨_,z⟩;change TFV at a6;change Int at e;simp only at z⊢;obtain⟨D,R,G,U,V,T,aa⟩:=z a;clear z;subst D;obtain⟨am,aj⟩:=C5o a I F V R T aa;refine⟨trivial, ?_⟩;rintro⟨aw,_⟩ _ Y;simp only at Y⊢;subst Y;refine⟨fun h=>by simp[J9]at h,fun _=>⟨by omega, ?_⟩⟩;rintro⟨aq,_⟩ _ v;simp only at v⊢;have az:aq.length=E.length:=by rw[v,LU]
 refine⟨⟨by rw[v];exact PE a,by omega⟩, ?_⟩;rintro⟨br,_⟩ an A;change List Int at br;have ay:br.length<=9223372036854775807:=an.1.1;simp only at A⊢;rw[v]at A;refine⟨fun p=>0<=p.1/\p.1<=(E.length:Int),fun p=>((E.length:Int)-p.1).toNat,⟨qI _,qD _⟩, ?_⟩;rintro⟨i,_⟩ _ ⟨o,ao⟩;change Int at i;simp only at o ao⊢;refine⟨fun b=> ?_,fun b=>by trivial⟩;have b:=qA b;have c:i.toNat<E.length:=by omega
 have a5:gx (0,0,dQ,(false,[]),[]) E i=E.getD i.toNat dB:=G5 o b;obtain⟨O,P⟩:=VT a c;simp only at O P;rw[a5,O,P];refine⟨⟨o,b⟩,aj, ?_⟩;rintro⟨X,e,_⟩ _ ⟨_,j⟩;change List D7 at X;change Int at e;simp only at j⊢;obtain⟨⟨a7,a8⟩,a9⟩:=btw a R T c;obtain⟨D,W⟩:=((j am).2 a7).2 a8;clear j;subst D;have j:X=dZ E.length fun l=>Jl E l*Kk E G l i.toNat:=W.trans a9
 clear W;have ad:X.length=E.length:=by rw[j,A4n]
 have Q:gx dQ X i=rc (Jl E i.toNat*Kk E G i.toNat i.toNat):=(show gx dQ X i=X.getD i.toNat zr from G5 o (by omega)).trans (by rw[j,B2s c]);have M:=C3s a I F V c c;obtain⟨N,y,a4⟩:=B5p a U c;have n:=A0n a U c;simp only at N y a4 n;rw[<-a4]at n;have ah:((i.toNat:Nat):Int)=i:=by omega
 rw[ah, <-A]at n;generalize Jl E i.toNat*Kk E G i.toNat i.toNat=q at Q M N y n;rw[ad,Q];simp only[g4l,not_true_eq_false,g0q,J9,rF,true_implies];refine⟨⟨o,b⟩,R6 M (by decide), ?_⟩;rintro⟨a3,_⟩ ⟨_,H⟩;change Int at a3;simp only at H⊢;rw[E4]at H;have b1:0<a3:=by
  rw[H,tS (B3n N)];decide
 refine⟨fun h=> ?_,fun _=> ?_⟩
 . have:=qA h;omega
 refine⟨fun p=>0<=p.2.1/\p.2.1<=(br.length:Int)/\(p.1=true↔i∈br.take p.2.1.toNat),fun p=>((br.length:Int)-p.2.1).toNat,⟨qI _,qD _,by simp⟩, ?_⟩;rintro⟨g,t,_⟩ _ ⟨J,ap,k⟩;change Bool at g;change Int at t;simp only at J ap k⊢;refine⟨fun f=> ?_,fun f=> ?_⟩
 . have f:=qA f;rw[wv (by omega)];refine⟨⟨J,f⟩,⟨by omega,by omega, ?_⟩,by omega⟩;rw[show(t+1).toNat=t.toNat+1 from by omega,rP,H1 (d:=(0:Int)) J f];simp only[zO,qY,qO];cases g with
   |true=>exact⟨fun _=> .inl (k.1 rfl),fun _=>rfl⟩
   |false=>
    have s:i∉br.take t.toNat:=fun h=>by have:=k.2 h;cases this
    show decide (gx 0 br t=i)=true↔ _;rw[g3x];exact⟨fun h=> .inr h.symm,fun h=>(h.resolve_left s).symm⟩
 . have f:=qB f;rw[D4 (by omega)]at k;refine⟨⟨o,b⟩,trivial, ?_⟩;rintro⟨av,_⟩ _ w;simp only at w⊢;have w:av=rc 1:=w.trans (HE 1);subst w;have a0:sz (K2+K2+1) (rc q):=BN M;have a1:sz 1 (rc 1):=BN (YT (qZ 1));refine⟨⟨⟨qX a0.1 (by decide),qX a0.2 (by decide)⟩,qX a1.1 (by decide),qX a1.2 (by decide)⟩, ?_⟩;rintro⟨u,_⟩ _ B;change Int at u;simp only at B⊢;rw[E4,E4]at B;have ai:¬(1:Rat)<q:=g3w.2 y;have Z:u=if q<1 then -1 else 0:=by
    rw[B];unfold Zw;by_cases s:q<1
    . rw[qQ s,qQ s]
    . rw[qK s,qK ai,qK s]
   have ag:(bif decide (0<u)then true else decide (u=0) !=g)=false:=by
    by_cases s:q<1
    . rw[Z,qQ s];have ae:g=false:=by
       cases g with
       |false=>rfl
       |true=>
        have:=n.1 (k.1 rfl);rw[this]at s;exact absurd s yJ
      rw[ae];rfl
    . rw[Z,qK s];have ak:q=1:=Rat.le_antisymm y (g3w.1 s);have af:g=true:=k.2 (n.2 ak);rw[af];rfl
   rw[wv (by omega)];refine⟨fun h=> ?_,fun _=>⟨⟨by omega,by omega⟩,by omega⟩⟩;rw[ag]at h;cases h
end Go.Proofs.YtiflhbllbgajeaaGreat
namespace Go.Vc
open Go Go.RowKit Go.Gw Go.Shelf
open Go.IntKind (i64)
structure El (t:Ty) (w:World) (Z:Nat->Prop) where
 c:List Value
 v:t.den
 h:C5 t w Z c v
def mD {t:Ty} {w:World} {Z:Nat->Prop} :∀ {l:List t.den} {xs:List Value},G1 (C5 t w Z) xs l->∃L:List (El t w Z),L.flatMap El.c=xs/\L.map El.v=l
 | [],_,h=>⟨[],h.symm,rfl⟩
 |x::l,_,⟨c1,d,e,a,b⟩=>by
  obtain⟨L,d,f⟩:=mD b;exact⟨⟨c1,x,a⟩::L,by rw[yO,d,e],by rw[sA,f]⟩
def mE {t:Ty} {w w':World} {Z Z':Nat->Prop} (a:∀c x,C5 t w Z c x->C5 t w' Z' c x):∀L:List (El t w Z),G1 (C5 t w' Z') (L.flatMap El.c) (L.map El.v)
 | []=>rfl
 |p::L=>⟨p.c,L.flatMap El.c,rfl,a _ _ p.h,mE a L⟩
def mO {b:Type} {enc:b->List Value} {k:Nat} (a:∀x,(enc x).length=k):∀(L:List b) (i r:Nat) {x:b},L[i]? =some x->r<k->(L.flatMap enc)[i*k+r]? =(enc x)[r]?
 | [],_,_,_,h,_=>by cases h
 |y::L,0,r,x,h,b=>by
  simp only[g1r,rD]at h;subst h;rw[yO,yD,sF,uO (by rw[a];exact b)]
 |y::L,i+1,r,x,h,b=>by
  rw[uM]at h;have e:(i+1)*k+r-k=i*k+r:=by rw[uR];omega
  rw[yO,tX (by rw[a,uR];omega),a,e];exact mO a L i r h b
def mP {b:Type} {enc:b->List Value} {k:Nat} (a:∀x,(enc x).length=k):∀L:List b,(L.flatMap enc).length=L.length*k
 | []=>by simp
 |x::L=>by rw[yO,rL,mP a L,a,rE,uR];omega
def mN {b:Type} [Inhabited b] {enc:b->List Value} {k:Nat} (c:∀x,(enc x).length=k) (d:Array b) {j:Nat} (a:j<d.size*k):(d.toList.flatMap enc)[j]? =some (Go.Sort.flatK enc k d)[j]!:=by
 have f:0<k:=by
  rcases vH k with h|h
  . rw[h,wQ]at a;omega
  . exact h
 have b:j/k<d.size:=(tL f).2 a;have g:j%k<k:=wF _ f;have e:j=j/k*k+j%k:=by rw[tG];exact(wW j k).symm
 rw[Go.Sort.get_flatK enc k d j a];have a:d.toList[j/k]? =some d[j/k]!:=by
  rw[wJ,tZ b,g0r d _ b]
 have:=mO c d.toList (j/k) (j%k) a g;rw[<-e]at this;have a:j%k<(enc d[j/k]!).length:=by rw[c];exact g
 rw[this,qP a,g0r (enc d[j/k]!) (j%k) a]
def A7t {F cur:Array Value} {n:Nat} {xs:List Value} (c:xs.length=n) (a:F.size=n) (b:n<=cur.size) (h:∀j,j<n->xs[j]? =some F[j]!):(Go.Sort.putCells id 0 F cur).size=cur.size/\(Go.Sort.putCells id 0 F cur).toList.take n=xs:=by
 refine⟨by simp[Go.Sort.putCells], ?_⟩;apply vO;intro j;by_cases a:j<n
 . rw[rT a,h j a,wJ];unfold Go.Sort.putCells;rw[Array.getElem?_mapIdx,tZ (by omega)];simp only[vW];rw[qQ ⟨rK _,by omega⟩];rfl
 . rw[rR (by simp;omega),rR (by omega)]
def B4a {b:Type} [Inhabited b] {d a:Array b} (h:Go.Sort.PermIn 0 d.size d a):a.toList.Perm d.toList:=by
 obtain⟨b,_,a⟩:=h;rw[g2r,g2r]at a;simpa[List.extract_eq_take_drop,qW,b]using a
def A2p {d:Type} [Inhabited d] {lt:d->d->Bool} {c:Array d} {n:Nat} (f:c.size=n) (h:Go.Sort.SortedIn lt 0 n c):c.toList.Pairwise fun a b=>lt b a=false:=by
 rw[uA];intro i j d k g;have f:i<c.size:=by simpa using d
 have d:j<c.size:=by simpa using k
 have:=h i j (rK _) g (by omega);rw[g0r c i f,g0r c j d]at this;simpa using this
def B8z {w:World} {b m:Nat} {f:Array Value->Array Value} {a:Array Obj} :w.heap.size<=(Go.Sort.grow (Go.Sort.mapBlock (Go.Sort.ahead w m) b f) a).heap.size:=by
 simp[Go.Sort.grow,Go.Sort.mapBlock,Go.Sort.ahead]
def oT {w:World} {b m j:Nat} {f:Array Value->Array Value} {d:Array Obj} (a:j<w.heap.size) (c:j≠b):(Go.Sort.grow (Go.Sort.mapBlock (Go.Sort.ahead w m) b f) d).heap[j]? =w.heap[j]?:=by
 rw[Go.Sort.heap_grow_old _ _ (by simpa[Go.Sort.mapBlock,Go.Sort.ahead]using a)];unfold Go.Sort.mapBlock;simp only;rw[g2m,qK (Ne.symm c)];rfl
def B8y {w:World} {b m:Nat} {f:Array Value->Array Value} {c:Array Obj} {cur:Array Value} {e:TypeId} (a:w.heap[b]? =some (.cells cur e (0,0))):(Go.Sort.grow (Go.Sort.mapBlock (Go.Sort.ahead w m) b f) c).heap[b]? =some (.cells (f cur) e (0,0)):=by
 have c:b<w.heap.size:=(rV.1 a).1;rw[Go.Sort.heap_grow_old _ _ (by simpa[Go.Sort.mapBlock,Go.Sort.ahead]using c)];unfold Go.Sort.mapBlock;simp only;rw[g2m,qQ rfl];have:(Go.Sort.ahead w m).heap[b]? =some (.cells cur e (0,0)):=a;rw[this];rfl
def IE {P:Program} {f:FuncId} (a:Gu P f=true) (args:Array Value) (w:World):(callFunc f args).run P w= .ok (.enter f args) w:=by
 unfold Gu at a;split at a
 . rename_i fn d;simp only[qC,rO]at a;have c:¬fn.body=none:=by intro hb;rw[hb]at a;simp at a
   have b:¬fn.name= "runtime.NumGoroutine" :=by simpa using a.1
   simp[callFunc,d,b,c,go_sem]
 . cases a
def B9a {d f:Type} {φ:d->d->Int} (v:f->d) (g:∀a,¬φ a a<0) (i:∀a b c,φ a b<0->φ b c<0->φ a c<0) (j:∀a b c,¬φ a b<0->¬φ b c<0->¬φ a c<0):
 Go.Sort.SWO (Go.Proofs.ltOf fun x y:f=>φ (v x) (v y)):=by
 refine⟨fun x=> ?_,fun x y z h d=> ?_,fun x y z h d=> ?_⟩
 . exact rH (g _)
 . exact rG (i _ _ _ (qA h) (qA d))
 . exact rH (j _ _ _ (qB h) (qB d))
def A8f {t:Ty} {φ:t.den->t.den->Int} {e:TypeId} {w w':World} {Z:Nat->Prop} {fv:Value} {g c:Nat} {cur F:Array Value} {k:Nat} {x:List t.den} {L L':List (El t w Z)}
 (B:∀b,Z b->b<w.heap.size) (G:¬Z g) (i:t.size=k)
 (d:w.heap[g]? =some (.cells cur e (0,0))) (n:L.length<=c) (H:c<=maxLen) (s:cur.size=c*k) (A:L.map El.v=x)
 (u:L'.Perm L) (M:L'.Pairwise fun a b=>¬φ b.v a.v<0)
 (d:F.size=L.length*k) (z:∀j,j<L.length*k->(L'.flatMap El.c)[j]? =some F[j]!)
 (I:w'.os=w.os) (P:w'.tape=w.tape) (J:w'.output=w.output) (O:w.heap.size<=w'.heap.size)
 (l:∀j,j<w.heap.size->j≠g->w'.heap[j]? =w.heap[j]?) (E:w'.heap[g]? =some (.cells (Go.Sort.putCells id 0 F cur) e (0,0))):
 Ir (nQ w (Cb t e φ).args [.slice (some ⟨g,0,none⟩) L.length c,fv]) w w'/\∃(r:Bq (Cb t e φ).res) (o:Om (Cb t e φ).args) (us:List Value) (Zn:Nat->Prop),(Cb t e φ).post (x,()) r/\(N4 (Cb t e φ).args=true->(Cb t e φ).mpost (x,()) r o)/\Value.tuple #[]=Wy us/\(∀b,Zn b->(w.heap.size<=b/\b<w'.heap.size)\/((Cb t e φ).shared=true/\Z b))/\Oz w.heap.size w' Zn (Cb t e φ).res us r/\Xq w w' Zn (Cb t e φ).args [.slice (some ⟨g,0,none⟩) L.length c,fv] o:=by
 have f:L'.length=L.length:=u.length_eq;have D:∀p:El t w Z,p.c.length=k:=fun p=>by rw[<-i];exact C5.length p.h
 have y:(L'.flatMap El.c).length=L.length*k:=by rw[mP D,f]
 obtain⟨Q,R⟩:=A7t y d (by rw[s];exact rM _ n) z;have N:O5 Z w w':=fun b d=>l b (B b d) (fun e=>G (e▸d))
 refine⟨⟨I,P,J,O,fun j B D=>l j B (fun z=>D ?_),trivial⟩,(),(L'.map El.v,()),[],Z,trivial,fun _=>⟨?_, ?_⟩,rfl,fun b d=> .inr ⟨rfl,d⟩,rfl, ?_⟩
 . subst z;refine⟨(.row t e, .slice (some ⟨j,0,none⟩) L.length c),rB, ?_⟩;rfl
 . rw[<-A];exact u.map _
 . exact vP.2 M
 . refine⟨⟨L'.flatMap El.c,⟨?_, .inr ⟨g,c,Go.Sort.putCells id 0 F cur, ?_,rK _,E, ?_,H, ?_, ?_⟩⟩, ?_⟩,trivial⟩
   . simp only[sV];rw[y,f,i]
   . simp only[sV,f]
   . simp only[sV,f];exact n
   . rw[Q,s,i]
   . simp only[sV,f,i];exact R
   . refine mE (fun f y c=> ?_) L';exact C5.mono (fun b d=>d) N c
def A9f (P:Program) (g:FuncId) (t:Ty) (φ:t.den->t.den->Int):Prop:=
 ∀(w:World) (Z:Nat->Prop) (c1 a:List Value) (x y:t.den),C5 t w Z c1 x->C5 t w Z a y->Calls P g #[.agg c1.toArray, .agg a.toArray] w fun e b=>e= .returned (.int .i64 (φ x y))/\∃q a,b=Go.Sort.grow (w.drewN q) a
def oQ {P:Program} {ρ:Ren} (LL:Go.Proofs.SlLaysF0.n6 P ρ) {t:Ty} {e:TypeId} {g:FuncId} {φ:t.den->t.den->Int} (R:∀w,(isAgg (ρ.t 24)).run P w= .ok true w) (ah:∀w,(Go.sizeOf (ρ.t 24)).run P w= .ok t.size w)
 (U:∀a,¬φ a a<0) (V:∀a b c,φ a b<0->φ b c<0->φ a c<0) (W:∀a b c,¬φ a b<0->¬φ b c<0->¬φ a c<0) (a6:Gu P g=true) (a3:A9f P g t φ):A3m P (ρ.f 6) g t e φ:=by
 rintro w Z am aj D ⟨an,M,a5,a0⟩ a8;obtain⟨L,rfl,rfl⟩:=mD a5;have Y:(L.map El.v).length=L.length:=sV ..;rw[Y]at M a8;obtain⟨ai,af⟩:=M;have z:∀(p:Option Addr) (d:Nat),L= []->Gw.cK P (ρ.f 6) [.slice p 0 d, .func (.func g) #[] #[]] w fun u Q=>u= .tuple #[]/\Q=w:=fun p d _=>
  Calls.mono (Go.Proofs.AnyF.slices_SortFunc_none LL p d (.func (.func g) #[] #[]) w) fun _ _ ⟨N,hw⟩=>⟨_,N,rfl,hw⟩
 rcases af with⟨rfl,a9⟩ | ⟨b,d,cur,rfl,_,h,G,J,H,ae⟩
 . have n:L= []:=qR a9;subst n;refine(z none 0 rfl).mono ?_;rintro _ _ ⟨rfl,rfl⟩;refine⟨Ir.of (R8.refl _),(),([],()),[],(fun _=>False),trivial,fun _=>⟨wS _,List.Pairwise.nil⟩,rfl,fun _ s=>s.elim,rfl,⟨⟨[],World.ownsRow_nil _ _ _ _,rfl⟩,trivial⟩⟩
 . have E:¬Z b:=a0 b rfl;have v:∀p:El t w Z,p.c.length=t.size:=fun p=>C5.length p.h
   have a1:b<w.heap.size:=(rV.1 h).1;rcases n:L with _ | ⟨ag,L0⟩
   . subst n;refine(z _ d rfl).mono ?_;rintro _ _ ⟨rfl,rfl⟩;refine⟨Ir.of (R8.refl _),(),([],()),[],(fun _=>False),trivial,fun _=>⟨wS _,List.Pairwise.nil⟩,rfl,fun _ s=>s.elim,rfl,⟨⟨[],⟨by simp, .inr ⟨b,d,cur,rfl,rK _,h,G,J,H,by simp⟩⟩,rfl⟩,trivial⟩⟩
   . rw[<-n];clear z
     haveI:Inhabited (El t w Z):=⟨ag⟩
     have X:Go.Sort.HoldsK El.c t.size w b 0 L.toArray:=by
      intro r j;rw[Go.Sort.size_flatK]at j;have a7:r<L.length*t.size:=by simpa using j
      have N:=mN v L.toArray j;rw[sF];refine⟨?_, ?_⟩
      . have T:cur[r]? =some (Go.Sort.flatK El.c t.size L.toArray)[r]!:=by
         rw[<-N];simp only;rw[<-ae,rT a7,wJ]
        simp only[World.cell?,h];exact T
      . simp[World.frozen?,h]
     have a4:Go.Proofs.CmpLays P g #[] El.c t.size (fun x y:El t w Z=>φ x.v y.v) b 0 L.toArray.size w:=by
      intro m O T a7 x y;have N:O5 Z w (Go.Proofs.sortWorldK El.c t.size w b 0 m T O):=by
       intro B o;have:B≠b:=fun e=>E (e▸o)
       exact oT (D B o) this
      exact a3 _ Z x.c y.c x.v y.v (C5.mono (fun _ i=>i) N x.h) (C5.mono (fun _ i=>i) N y.h)
     have a2:=Go.Proofs.AnyQ.slices_SortFunc LL t.size R ah El.c v (fun x=>C5.oneCell x.h) (fun x y:El t w Z=>φ x.v y.v) (B9a El.v U V W) g #[] b 0 d L.toArray w (IE a6) a4 X a1 (by simp;omega);refine Calls.mono a2 ?_;rintro _ Q ⟨rfl,l,ak,O,A,ad,rfl⟩;refine⟨_,rfl, ?_⟩;have ab:=B4a A;have ac:=A2p A.1 ad;have I:l.size=L.length:=by rw[A.1];simp
     refine A8f (k:=t.size) (F:=Go.Sort.flatK El.c t.size l) (L:=L) (L':=l.toList) (cur:=cur) (x:=L.map El.v) D E rfl h G J H rfl ab ?_ ?_ ?_ rfl rfl rfl ?_ ?_ ?_
     . exact ac.imp fun i=>qB i
     . rw[Go.Sort.size_flatK,I]
     . intro r j;exact mN v l (by rw[I];exact j)
     . exact B8z
     . intro B o aa;exact oT o aa
     . exact B8y h
end Go.Vc
namespace Go.Proofs
open Go.Proofs.Tryz
open Go.Shelf
open Go.IntKind (i64)
def Tryz.sortEnt_ren:Go.Shelf.Ren:=⟨fun|6=>119|15=>156|14=>155|28=>182|29=>183|20=>174|21=>175|22=>176|23=>177|24=>178|25=>179|26=>180|27=>181|46=>194|47=>195|48=>196|49=>197|50=>198|57=>203|n=>n,fun|22=>79|24=>106|25=>147|3=>3|39=>165|0=>0|53=>103|55=>124|4=>4|46=>193|45=>192|50=>197|5=>5|9=>9|66=>206|70=>210|76=>215|77=>216|n=>n,fun|n=>n⟩
def Tryz.sortEnt:Go.Proofs.SlLaysF0.n6 prog sortEnt_ren:= {
 mixed:=by kernel_rfl
 f6:=⟨f119.name,by decide,func119.trans (tR some (by kernel_rfl))⟩
 f14:=⟨f155.name,by decide,func155.trans (tR some (by kernel_rfl))⟩
 f15:=func156.trans (tR some (by kernel_rfl))
 f20:=⟨f174.name,by decide,func174.trans (tR some (by kernel_rfl))⟩
 f21:=⟨f175.name,by decide,func175.trans (tR some (by kernel_rfl))⟩
 f22:=⟨f176.name,by decide,func176.trans (tR some (by kernel_rfl))⟩
 f23:=⟨f177.name,by decide,func177.trans (tR some (by kernel_rfl))⟩
 f24:=⟨f178.name,by decide,func178.trans (tR some (by kernel_rfl))⟩
 f25:=⟨f179.name,by decide,func179.trans (tR some (by kernel_rfl))⟩
 f26:=⟨f180.name,by decide,func180.trans (tR some (by kernel_rfl))⟩
 f27:=⟨f181.name,by decide,func181.trans (tR some (by kernel_rfl))⟩
 f28:=func182.trans (tR some (by kernel_rfl))
 f29:=func183.trans (tR some (by kernel_rfl))
 f46:=⟨f194.name,by decide,func194.trans (tR some (by kernel_rfl))⟩
 f47:=func195.trans (tR some (by kernel_rfl))
 f48:=func196.trans (tR some (by kernel_rfl))
 f49:=⟨f197.name,by decide,func197.trans (tR some (by kernel_rfl))⟩
 f50:=⟨f198.name,by decide,func198.trans (tR some (by kernel_rfl))⟩
 f57:=⟨f203.name,by decide,func203.trans (tR some (by kernel_rfl))⟩
 t0:=underlying0
 a0:=isAgg0
 z0:=sizeOf0
 v0:=zeroValue0
 t3:=underlying3
 a3:=isAgg3
 z3:=sizeOf3
 v3:=zeroValue3
 t4:=underlying4
 a4:=isAgg4
 z4:=sizeOf4
 v4:=zeroValue4
 t5:=underlying5
 a5:=isAgg5
 z5:=sizeOf5
 v5:=zeroValue5
 t9:=underlying9
 a9:=isAgg9
 z9:=sizeOf9
 v9:=zeroValue9
 t22:=underlying79
 a22:=isAgg79
 z22:=sizeOf79
 v22:=zeroValue79
 t25:=underlying147
 a25:=isAgg147
 z25:=sizeOf147
 v25:=zeroValue147
 t39:=underlying165
 a39:=isAgg165
 z39:=sizeOf165
 v39:=zeroValue165
 t45:=underlying192
 a45:=isAgg192
 z45:=sizeOf192
 v45:=zeroValue192
 t46:=underlying193
 a46:=isAgg193
 z46:=sizeOf193
 v46:=zeroValue193
 t50:=underlying197
 a50:=isAgg197
 z50:=sizeOf197
 v50:=zeroValue197
 t53:=underlying103
 a53:=isAgg103
 z53:=sizeOf103
 v53:=zeroValue103
 t55:=underlying124
 a55:=isAgg124
 z55:=sizeOf124
 v55:=zeroValue124
 t66:=underlying206
 a66:=isAgg206
 z66:=sizeOf206
 v66:=zeroValue206
 t70:=underlying210
 a70:=isAgg210
 z70:=sizeOf210
 v70:=zeroValue210
 t76:=underlying215
 a76:=isAgg215
 z76:=sizeOf215
 v76:=zeroValue215
 t77:=underlying216
 a77:=isAgg216
 z77:=sizeOf216
 v77:=zeroValue216}
def Tryz.cmpInt_ren:Go.Shelf.Ren:=⟨fun|5=>121|7=>157|n=>n,fun|22=>3|3=>3|4=>4|n=>n,fun|n=>n⟩
def Tryz.cmpInt:Go.Proofs.SlLaysC2.n5 prog cmpInt_ren:= {
 mixed:=by kernel_rfl
 f5:=⟨f121.name,by decide,func121.trans (tR some (by kernel_rfl))⟩
 f7:=⟨f157.name,by decide,func157.trans (tR some (by kernel_rfl))⟩
 t3:=underlying3
 a3:=isAgg3
 z3:=sizeOf3
 v3:=zeroValue3
 t4:=underlying4
 a4:=isAgg4
 z4:=sizeOf4
 v4:=zeroValue4
 t22:=underlying3
 a22:=isAgg3
 z22:=sizeOf3
 v22:=zeroValue3}
end Go.Proofs
namespace Go.Proofs.YtiflhbllbgajeaaGreat
open Go.Proofs.Tryz
open Go.Vc Go.Gw Go.Lib Go.Shelf
open Go.IntKind (i64)
def Zh (w:World) (o:Obj):w.alloc o= {w with heap:=w.heap.push o} :=rfl
def B0m (a b:Int) (c d:List Value) (w:World):Calls prog 120 #[.agg (.int .i64 a::c).toArray, .agg (.int .i64 b::d).toArray] w fun e w'=>e= .returned (.int .i64 (Lib.compareInt a b))/\∃q f,w'=Go.Sort.grow (w.drewN q) f:=by
 have f:∀args w,(callFunc 121 args).run prog w= .ok (.enter 121 args) w:=Go.Vc.IE (by kernel_rfl);have f:=fun(w:World)=>AnyG.cmp_Compare_int cmpInt a b w
 go_enter func120,ntmps120
 go_wp2_with (go_at_fn (121);refine(f _).mono ?_;rintro e w' ⟨rfl,f⟩;rw[f])
 go_ret
 refine⟨rfl,0, #[.cells (Value.int .i64 a::c).toArray 106, .cells (Value.int .i64 b::d).toArray 106], ?_⟩;rw[Zh,Zh];simp[Go.Sort.grow,World.drewN];apply zX.1;simp
def B0l (a b:Int):Lib.compareInt a b=K6 a b:=by
 unfold Lib.compareInt K6
 (repeat' split)<;>first|rfl|omega
def C1j:A9f prog 120 tE (fun a b:D2=>K6 a.1 b.1):=by
 rintro w Z c1 f x y ⟨g,c,rfl,⟨rfl,_⟩,_⟩ ⟨h,d,rfl,⟨rfl,_⟩,_⟩;have:=B0m x.1 y.1 c d w;rw[B0l]at this;exact this
def B8v:QN prog 119 (UL 120 tE 106 (fun a b=>K6 a.1 b.1)):=by
 refine ZD (tys:= []) (oQ (ρ:=sortEnt_ren) sortEnt (t:=tE) (e:=106) (g:=120) (φ:=fun a b:D2=>K6 a.1 b.1) isAgg106 sizeOf106 (fun a=> ?_) (fun a b c=> ?_) (fun a b c=> ?_) (by kernel_rfl) C1j);all_goals (simp only[K6];(repeat' split)<;>omega)
def A6e (a b:Int) (c d:List Value) (w:World):Calls prog 153 #[.agg (.int .i64 a::c).toArray, .agg (.int .i64 b::d).toArray] w fun e w'=>e= .returned (.int .i64 (Lib.compareInt a b))/\∃q f,w'=Go.Sort.grow (w.drewN q) f:=by
 have f:∀args w,(callFunc 121 args).run prog w= .ok (.enter 121 args) w:=Go.Vc.IE (by kernel_rfl);have f:=fun(w:World)=>AnyG.cmp_Compare_int cmpInt a b w
 go_enter func153,ntmps153
 go_wp2_with (go_at_fn (121);refine(f _).mono ?_;rintro e w' ⟨rfl,f⟩;rw[f])
 go_ret
 refine⟨rfl,0, #[.cells (Value.int .i64 a::c).toArray 106, .cells (Value.int .i64 b::d).toArray 106], ?_⟩;rw[Zh,Zh];simp[Go.Sort.grow,World.drewN];apply zX.1;simp
def B6p:A9f prog 153 tE (fun a b:D2=>K6 a.1 b.1):=by
 rintro w Z c1 f x y ⟨g,c,rfl,⟨rfl,_⟩,_⟩ ⟨h,d,rfl,⟨rfl,_⟩,_⟩;have:=A6e x.1 y.1 c d w;rw[B0l]at this;exact this
def B4u:QN prog 119 (UL 153 tE 106 (fun a b=>K6 a.1 b.1)):=by
 refine ZD (tys:= []) (oQ (ρ:=sortEnt_ren) sortEnt (t:=tE) (e:=106) (g:=153) (φ:=fun a b:D2=>K6 a.1 b.1) isAgg106 sizeOf106 (fun a=> ?_) (fun a b c=> ?_) (fun a b c=> ?_) (by kernel_rfl) B6p);all_goals (simp only[K6];(repeat' split)<;>omega)
def B3v (n:Int) (w:World):Calls prog 114 #[.int .i64 n] w fun e w'=>e= .returned (.func (.func 115) #[] #[.pointer (some ⟨w.heap.size,0,none⟩)])/\w'=w.alloc (.cells #[.int .i64 n] 3):=by
 go_enter func114,ntmps114
 go_wp2
 go_ret
 exact⟨rfl,rfl⟩
def C2s (k:A8 prog 115 J3):QN prog 114 (B1l prog [(false, .int .i64)] false .bool (.int .i64) (fun n x=>decide (x.1<0\/n<=x.1))):=by
 refine B1m ?_;rintro w Z v n ⟨a,l⟩;obtain rfl:v= .int .i64 n:=by simpa using a
 refine Calls.mono (B3v _ w) ?_;rintro _ _ ⟨rfl,rfl⟩;have c:(w.alloc (.cells #[Value.int .i64 n] 3)).heap.size=w.heap.size+1:=by simp
 refine⟨_,rfl,R8.alloc w _,(fun b=>b=w.heap.size),fun b a=> .inr ⟨by omega,by rw[c,a];omega⟩,115,[.pointer (some ⟨w.heap.size,0,none⟩)],rfl,by kernel_rfl, ?_⟩;rintro d Z1 c ⟨i,_⟩ j g s ⟨f,h,rfl,r,rfl⟩ _;have c:(w.alloc (.cells #[Value.int .i64 n] 3)).heap[w.heap.size]? =some (.cells #[Value.int .i64 n] 3 (0,0)):=by rw[Zh];simp
 have h:d.heap[w.heap.size]? =some (.cells #[Value.int .i64 n] 3 (0,0)):=(j _ rfl).trans c;have o:Z8 prog d (fun b=>Z1 b\/b=w.heap.size) J3.args [f, .pointer (some ⟨w.heap.size,0,none⟩)] (i,n,()):=by
  refine⟨_,_,rfl, ?_,_,_,rfl, ?_,rfl⟩
  . exact r
  . exact⟨w.heap.size,0,[Value.int .i64 n],rfl, .inr rfl,fun j u c=>by
     rcases j with _ |j
     . simp only[g1r,rD]at c;subst c;rw[K5];simp[World.cell?,h]
     . simp at c,rfl,l⟩
 have:=k d (fun b=>Z1 b\/b=w.heap.size) [f, .pointer (some ⟨w.heap.size,0,none⟩)] (i,n,()) (fun b a=>a.elim (s b) fun e=>g b e) o trivial trivial;refine Gw.cK.mono this ?_;rintro u k ⟨c,⟨r,_⟩,o,h,Zn,d,_,rfl,g,⟨j,l,rfl,f,_,rfl⟩,_⟩;refine⟨c.ext fun b a=> ?_,Zn,fun b a=> ?_, ?_⟩
 . obtain⟨p,c,_⟩:=a;cases c
 . rcases g b a with h| ⟨h,_⟩
   . exact .inl h
   . cases h
 . have a:r=decide (i<0\/n<=i):=d;show Bj false .bool k Zn j (decide (i<0\/n<=i));rw[<-a];exact f
end Go.Proofs.YtiflhbllbgajeaaGreat
namespace Go.Proofs.YtiflhbllbgajeaaGreat
open Go.Proofs.Tryz
open Go.Vc Go.Gw
open Go.IntKind (i64)
def I2 {P:Program} {tys:List (Nat×TI)} {sp:H2} {f:FuncId} {fn:Func} {s:A6} {a:A2 s.args->Prop} (an:An) (c:P.funcs[f]? =some fn) (j:∀x,awf s.args x->s.pre x->a x) (i:H5 P tys=true) (h:Jo P sp) (b:∀x,B8r P tys sp an s fn x=a x:=by intro x;kernel_rfl) (a:fn.body.isSome=true:=by kernel_rfl) (d:Nat.ble s.args.length fn.ntmps=true:=by kernel_rfl) (g:X8 fn.ntmps (fn.body.getD .skip)=true:=by kernel_rfl):A8 P f s:=
 B3a c a d g i h b j
def AR:A8 prog 115 J3:=I2 Zk func115 Ue A4 (A1)
def nW:A8 prog 26 Nk:=I2 kV func26 ZO A4 (A1)
def nV:A8 prog 69 Nj:=I2 kU func69 ZN A4 (A1)
def Hc:A8 prog 32 Ah:=I2 KE func32 CE A4 (A0 nV (A1))
def Pn:A8 prog 34 Je:=I2 lF func34 aM A4 (A1)
def S4:A8 prog 136 Nm:=I2 kX func136 ZU A4 (A1)
def Ba:A8 prog 89 Nn:=I2 kY func89 ZZ A4 (A0 S4 (A1))
def RI:A8 prog 86 Np:=I2 kZ func86 aC A4 (A0 Ba (A1))
def RJ:A8 prog 46 Nq:=I2 lA func46 aD A4 (A0 RI (A1))
def Vp:A8 prog 55 Jw:=I2 fQ func55 TT A4 (A1)
def IW:A8 prog 59 Tg:=I2 A0c func59 bZ A4 (A0 Ba (A1))
def Pm:A8 prog 90 Al:=I2 KJ func90 CQ A4 (A0 S4 (A1))
def XW:A8 prog 94 Sx:=I2 pT func94 bP A4 (A0 S4 (A1))
def XX:A8 prog 138 Ff:=I2 VE func138 MS A4 (A0 S4 (A1))
def XY:A8 prog 95 Ta:=I2 pW func95 bS A4 (A0 S4 (A0 XX (A1)))
def bK:A8 prog 164 Hl:=I2 aY func164 QK A4 (A0 S4 (A1))
def nX:A8 prog 165 Nl:=I2 kW func165 ZQ A4 (A0 S4 (A1))
def A1v:A8 prog 166 Tb:=I2 pX func166 bU A4 (A1)
def HA:A8 prog 133 Hk:=I2 aX func133 QJ A4 (A0 Pm (A0 XW (A0 XY (A0 S4 (A0 bK (A0 nX (A0 A1v (A1))))))))
def A1t:A8 prog 132 Sy:=I2 pU func132 bQ A4 (A0 HA (A0 S4 (A1)))
def A1x:A8 prog 87 Te:=I2 A0a func87 bX A4 (A0 Ba (A0 A1t (A1)))
def Mu:A8 prog 50 Fg:=I2 VF func50 MX A4 (A0 Ba (A0 Pm (A1)))
def IV:A8 prog 60 Td:=I2 pZ func60 bW A4 (A0 Ba (A0 XW (A0 XY (A1))))
def A1w:A8 prog 134 Tc:=I2 pY func134 bV A4 (A0 Ba (A1))
def A1z:A8 prog 135 Ti:=I2 A0d func135 cA A4 (A0 IW (A0 IV (A1)))
def bL:A8 prog 88 Hm:=I2 aZ func88 QL A4 (A0 Mu (A0 IV (A0 Ba (A0 HA (A0 A1w (A0 A1z (A1)))))))
def Jt:A8 prog 49 Nr:=I2 lC func49 aH A4 (A0 Pn (A0 RJ (A0 Vp (A0 IW (A0 RI (A0 A1x (A0 bL (A1))))))))
def PN:A8 prog 40 Tk:=I2 A5v func40 kE A4 (A0 Jt (A0 Mu (A1)))
def Ya:A8 prog 33 O9:=I2 Xr func33 Re A4 (A0 Hc (A0 PN (A1)))
def PK:A8 prog 35 Bt:=I2 NT func35 GK A4 (A0 Hc (A0 PN (A1)))
def TM:A8 prog 8 Dk:=I2 SQ func8 JL A4 (A0 nW (A0 Hc (A0 Ya (A0 Pn (A0 PK (A1))))))
def H3:A8 prog 141 Cg:=I2 VD func141 MR A4 (A1)
def L2:A8 prog 101 X0:=I2 HV func101 Yz A4 (A0 H3 (A1))
def W4:A8 prog 100 Aq:=I2 KL func100 CY A4 (A0 L2 (A1))
def Wv:A8 prog 130 Dj:=I2 SP func130 JK A4 (A0 L2 (A1))
def G7:A8 prog 82 W0:=I2 OB func82 GT A4 (A0 W4 (A0 Wv (A1)))
def TJ:A8 prog 70 Dh:=I2 SL func70 JH A4 (A0 G7 (A1))
def Kt:A8 prog 167 Dm:=I2 SU func167 JO A4 (A1)
def LJ:A8 prog 139 Aj:=I2 KH func139 CM A4 (A0 H3 (A0 Kt (A1)))
def Cl:A8 prog 98 Ar:=I2 KM func98 CZ A4 (A0 LJ (A1))
def J6:A8 prog 140 P3:=I2 Xs func140 Rf A4 (A0 H3 (A1))
def Dd:A8 prog 99 R1:=I2 Zl func99 Um A4 (A0 J6 (A1))
def Bo:A8 prog 143 Dl:=I2 SS func143 JN A4 (A0 H3 (A1))
def W3:A8 prog 146 Ag:=I2 KD func146 CC A4 (A1)
def TL:A8 prog 142 Di:=I2 SO func142 JJ A4 (A0 Bo (A0 W3 (A1)))
def So:A8 prog 170 M7:=I2 Rx func170 Od A4 (A0 J6 (A0 H3 (A1)))
def bJ:A8 prog 182 Hj:=I2 aW func182 QH A4 (A1)
def Hb:A8 prog 188 J7:=I2 Uq func188 Ov A4 (A0 bJ (A1))
def IU:A8 prog 190 Q3:=I2 HY func190 Zd A4 (A1)
def Yb:A8 prog 192 L8:=I2 Xt func192 Rh A4 (A0 H3 (A1))
def Yc:A8 prog 171 P4:=I2 (sp:=Ys) Xu func171 Ri A4 (A0 H3 (A0 Hb (A0 IU (A0 Yb (Fo (IH (cx:=⟨prog,tys⟩) (fn:=f191) (c:=f191.body.getD .skip) func191 (by kernel_rfl) (by kernel_rfl) A4 (T7 (A1) (Iu))) (A1))))))
def Pj:A8 prog 145 Ai:=I2 KG func145 CH A4 (A0 L2 (A0 J6 (A0 H3 (A0 Bo (A0 Kt (A0 So (A0 Yc (A1))))))))
def FY:A8 prog 201 U6:=I2 FK func201 Wl A4 (A1)
def LK:A8 prog 189 Ak:=I2 KI func189 CO A4 (A0 FY (A1))
def IT:A8 prog 168 X4:=I2 HX func168 Zb A4 (A0 Hb (A0 LK (A1)))
def Hd:A8 prog 105 Fc:=I2 VB func105 MP A4 (A0 H3 (A1))
def AS:A8 prog 148 Fe:=I2 VC func148 MQ A4 (A0 L2 (A0 H3 (A1)))
def IS:A8 prog 169 X1:=I2 HW func169 Za A4 (A0 Hd (A0 J6 (A0 AS (A1))))
def XV:A8 prog 144 Fb:=I2 VA func144 MO A4 (A0 L2 (A0 J6 (A0 H3 (A0 Bo (A0 Pj (A0 Kt (A0 IT (A0 IS (A1)))))))))
def Fz:A8 prog 102 X5:=I2 HZ func102 Ze A4 (A0 TL (A0 Bo (A0 XV (A0 Pj (A1)))))
def S7:A8 prog 97 V9:=I2 OA func97 GR A4 (A0 Cl (A0 Dd (A0 W4 (A0 Fz (A1)))))
def XS:A8 prog 110 Ez:=I2 UY func110 MI A4 (A0 Bo (A0 W3 (A1)))
def Ww:A8 prog 71 Ao:=I2 TB func71 JU A4 (A0 S7 (A0 XS (A1)))
def Wx:A8 prog 111 Dr:=I2 TE func111 JX A4 (A0 G7 (A1))
def XU:A8 prog 147 Fa:=I2 UZ func147 MN A4 (A0 H3 (A1))
def XR:A8 prog 103 Ex:=I2 UW func103 MG A4 (A0 W3 (A0 XU (A0 AS (A1))))
def Mt:A8 prog 104 Ey:=I2 UX func104 MH A4 (A0 Hd (A0 W3 (A1)))
def Bp:A8 prog 65 Dn:=I2 SX func65 JP A4 (A0 G7 (A0 S7 (A0 Cl (A0 Dd (A0 W4 (A0 L2 (A0 Fz (A0 XR (A0 Mt (A0 Hd (A1)))))))))))
def La:A8 prog 151 V2:=I2 FP func151 Wr A4 (A1)
def Ep:A8 prog 174 F3:=I2 Eo func174 Ct A4 (A1)
def Ic:A8 prog 193 Jg:=nO fun _ h=>h
def Jv:A8 prog 173 H4:=I2 Jq func173 Hu A4 (A0 Ep (A0 Ic (A1)))
def Eg:A8 prog 152 E8:=I2 Dy func152 Ck A4 (A0 Jv (A1))
def PG:A8 prog 157 Br:=I2 NS func157 GH A4 (A1)
def Ms:A8 prog 121 W6:=I2 HR func121 Yv A4 (A0 PG (A1))
def LP:A8 prog 153 Aw:=I2 KR func153 DJ A4 (A0 Ms (A1))
def Pp:A8 prog 112 Av:=I2 KQ func112 DI A4 (A0 Bp (A0 La (A0 Eg (A0 LP (A1)))))
def PS:A8 prog 113 Ca:=I2 OC func113 GU A4 (A0 S7 (A1))
def Mx:A8 prog 72 Ci:=I2 VL func72 NH A4 (A0 Wx (A0 Pp (A0 PS (A1))))
def FX:A8 prog 36 U4:=I2 FE func36 Wk UP (A0 TJ (A0 Ww (A0 Mx (A1))))
def LN:A8 prog 73 Au:=I2 KO func73 DD A4 (A1)
def AV:A8 prog 74 R2:=I2 Zm func74 Un A4 (A1)
def He:A8 prog 76 O0:=I2 Uy func76 Oy A4 (A1)
def Yf:A8 prog 75 P7:=I2 Xx func75 Rm A4 (A0 He (A1))
def GA:A8 prog 37 U9:=I2 FN func37 Wo A4 (A0 LN (A0 AV (A0 Yf (A0 He (A1)))))
def Fw:A8 prog 44 Ap:=I2 TC func44 JV A4 (A0 Bp (A1))
def V6:A8 prog 67 U8:=I2 TA func67 JS A4 (A0 Cl (A0 Dd (A0 W4 (A0 Fz (A0 Mt (A0 Hd (A1)))))))
def Ph:A8 prog 117 S9:=I2 KF func117 CF A4 (A1)
def TP:A8 prog 131 Dq:=I2 TD func131 JW A4 (A0 G7 (A0 La (A1)))
def Fv:A8 prog 85 U5:=I2 SR func85 JM A4 (A0 Ph (A0 TP (A1)))
def Ku:A8 prog 154 H9:=I2 Km func154 Ie A4 (A1)
def Ib:A8 prog 116 F4:=I2 Hz func116 Gb A4 (A0 Ku (A1))
def PL:A8 prog 77 V7:=I2 (sp:=QB) NU func77 GL UP (A0 Fv (A0 S7 (Fo (C2s AR) (A0 Ib (A0 Ph (Fo B8v (Fo (IH (cx:=⟨prog,B9o⟩) (fn:=f118) (c:=f118.body.getD .skip) func118 (by kernel_rfl) (by kernel_rfl) UP (T7 (A1) (Iu))) (A1))))))))
def IR:A8 prog 126 W9:=I2 HU func126 Yy A4 (A0 J6 (A0 W3 (A1)))
def N0:A8 prog 79 L3:=I2 FM func79 Wn A4 (A0 IR (A1))
def Qu:A8 prog 45 Ej:=I2 bA func45 QM A4 (A0 Bp (A0 N0 (A1)))
def Sp:A8 prog 162 M8:=I2 Ry func162 Oi A4 (A1)
def LO:A8 prog 125 T5:=I2 KP func125 DG A4 (A0 Mx (Fo B4u (A0 Sp (A1))))
def TO:A8 prog 160 Am:=I2 SZ func160 JR A4 (A0 G7 (A0 S7 (A1)))
def Yg:A8 prog 184 P8:=I2 Xy func184 Rn A4 (A0 Bp (A0 V6 (A0 G7 (A0 S7 (A1)))))
def GB:A8 prog 161 O3:=I2 FO func161 Wq A4 (A0 Wx (A0 Pp (A0 Yg (A1))))
def PH:A8 prog 78 N3:=I2 (sp:=Tv) Rt func78 GJ FA (A0 N0 (A0 Fv (A0 LO (Fo (IH (cx:=⟨prog,TR⟩) (fn:=f122) (c:=f122.body.getD .skip) func122 (by kernel_rfl) (by kernel_rfl) FA (T7 (A0 Mx (A1)) (Iu))) (Fo (IH (cx:=⟨prog,TR⟩) (fn:=f123) (c:=f123.body.getD .skip) func123 (by kernel_rfl) (by kernel_rfl) FA (T7 (Fo (IH (cx:=⟨prog,TR⟩) (fn:=f158) (c:=f158.body.getD .skip) func158 (by kernel_rfl) (by kernel_rfl) FA (T7 (A1) (T7 (A1) (T7 (A1) (T7 (A1) (Iu)))))) (A1)) (Iu))) (Fo (IH (cx:=⟨prog,TR⟩) (fn:=f124) (c:=f124.body.getD .skip) func124 (by kernel_rfl) (by kernel_rfl) FA (T7 (A0 Qu (A0 V6 (A0 Ww (A0 TO (A0 GB (Fo (IH (cx:=⟨prog,TR⟩) (fn:=f159) (c:=f159.body.getD .skip) func159 (by kernel_rfl) (by kernel_rfl) FA (T7 (A1) (T7 (A1) (Iu)))) (A1))))))) (Iu))) (A1))))))) GI
def Sn:A8 prog 185 M6:=I2 Rw func185 Ny A4 (A1)
def Vo:A8 prog 186 N8:=I2 Uw func186 Ow A4 (A0 Fv (A1))
def IP:A8 prog 204 W7:=I2 HS func204 Yw A4 (A1)
def AP:A8 prog 199 Q9:=I2 Zi func199 Ua A4 (A0 IP (A1))
def IQ:A8 prog 200 W8:=I2 HT func200 Yx A4 (A0 L2 (A0 Wv (A1)))
def FZ:A8 prog 187 U7:=I2 FL func187 Wm A4 (A0 G7 (A0 Cl (A0 W4 (A0 Mt (A0 Ms (A0 AP (A0 IQ (A1))))))))
def AQ:A8 prog 163 R0:=I2 Zj func163 Ub A4 (A0 N0 (A0 Sn (A0 Vo (A0 FZ (A1)))))
def LH:A8 prog 127 Af:=I2 KB func127 BS A4 (A0 AQ (A1))
def XQ:A8 prog 128 Ew:=I2 UV func128 MF A4 (A0 Fw (A0 V6 (A0 G7 (A1))))
def TN:A8 prog 129 Dp:=I2 SY func129 JQ A4 (A0 V6 (A0 G7 (A1)))
def TK:A8 prog 80 Ae:=I2 SN func80 JI A4 (A0 LH (A0 XQ (A0 TN (A1))))
def Mw:A8 prog 81 H0:=I2 Mk func81 Kh A4 (A0 N0 (A1))
def Qt:A8 prog 38 G8:=I2 Er func38 Lz UP (A0 Fw (A0 V6 (A0 PL (A0 PH (A0 N0 (A0 TK (A0 Mw (A0 G7 (A1))))))))) Ly
def Ye:A8 prog 39 P6:=I2 Xw func39 Rl A4 (A0 Fw (A0 Qu (A0 Bp (A0 V6 (A0 N0 (A0 G7 (A1)))))))
def Po:A8 prog 9 T4:=I2 KN func9 DC A4 (A0 FX (A0 GA (A0 Qt (A0 Ye (A1)))))
def AT:A8 prog 16 Ch:=I2 VH func16 NA A4 (A0 Jt (A0 Mu (A1)))
def Ju:A8 prog 47 Ns:=I2 lD func47 aJ A4 (A0 Jt (A1))
def AU:A8 prog 14 Nt:=I2 lE func14 aK A4 (A0 RJ (A0 Ju (A1)))
def A1u:A8 prog 93 Sz:=I2 pV func93 bR A4 (A0 S4 (A1))
def A1y:A8 prog 56 Tf:=I2 A0b func56 bY A4 (A0 Ba (A0 A1u (A1)))
def YC:A8 prog 57 Tm:=I2 A0h func57 cE A4 (A0 Ju (A1))
def XZ:A8 prog 24 Tj:=I2 A0e func24 cB A4 (A0 Ju (A0 Jt (A0 A1y (A0 YC (A0 IV (A1))))))
def A2b:A8 prog 61 Tn:=I2 A0i func61 cF A4 (A0 XZ (A0 Pn (A1)))
def YD:A8 prog 137 Fi:=I2 VI func137 NC A4 (A1)
def nY:A8 prog 91 Nu:=I2 lG func91 aP A4 (A0 AU (A0 A2b (A0 YD (A1))))
def PO:A8 prog 51 Bv:=I2 NW func51 GN A4 (A0 nY (A1))
def nZ:A8 prog 17 Jf:=I2 lH func17 aQ A4 (A0 PO (A1))
def jH:A8 prog 54 Jx:=I2 fR func54 TU A4 (A0 Vp (A1))
def LM:A8 prog 20 Jy:=I2 fS func20 TV A4 (A0 jH (A0 Vp (A1)))
def PM:A8 prog 68 Bu:=I2 NV func68 GM A4 (A0 LM (A0 Ju (A1)))
def PP:A8 prog 53 Bw:=I2 NX func53 GO A4 (A0 LM (A0 PM (A1)))
def PQ:A8 prog 19 V8:=I2 NY func19 GP A4 (A0 PP (A1))
def YB:A8 prog 23 Mg:=I2 A0f func23 cC A4 (A0 Ju (A0 Jt (A0 YC (A0 IW (A1)))))
def LI:A8 prog 41 S8:=I2 KC func41 BV A4 (A1)
def XT:A8 prog 10 H7:=bH (A0 Po (A0 AT (A0 nZ (A0 PQ (A0 YB (A0 Pn (A0 PN (A0 LI (A1))))))))) MK
def YE:A8 prog 63 Fj:=I2 VJ func63 ND A4 (A1)
def A2c:A8 prog 83 Tp:=I2 A0j func83 cG A4 (A1)
def jI:A8 prog 84 Jz:=I2 fT func84 TW A4 (A1)
def PR:A8 prog 42 Bz:=I2 NZ func42 GQ A4 (A0 YE (A0 A2c (A0 jI (A1))))
def YF:A8 prog 11 Fl:=I2 VK func11 NF A4 (A0 PR (A1))
def jJ:A8 prog 12 Ka:=I2 fU func12 TX A4 (A1)
def Yd:A8 prog 43 P5:=I2 Xv func43 Rj A4 (A0 Fv (A1))
def Vq:A8 prog 13 N9:=I2 Ux func13 Ox A4 (A0 Yd (A0 Fw (A0 Qu (A1))))
def A2a:A8 prog 48 Tl:=I2 A0g func48 cD A4 (A0 YB (A0 XZ (A1)))
def YA:A8 prog 15 Fh:=I2 VG func15 MY A4 (A0 AU (A0 A2a (A1)))
def Lu:A8 prog 3 F7:=I2 Lk func3 Jk A4 (A0 TM (A0 Po (A0 XT (A0 YF (A0 jJ (A0 Vq (A0 AU (A0 YA (A0 AT (A1))))))))))
end Go.Proofs.YtiflhbllbgajeaaGreat
