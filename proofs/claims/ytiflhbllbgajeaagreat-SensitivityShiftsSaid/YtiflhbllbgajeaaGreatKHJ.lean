/- Part. -/
import Derived.Shelf.SlSortCmp.NoneTotal
import Derived.Lib.QuietBelow
import Derived.Shelf.SlGeneric
import Derived.Shelf.SlicesG.Cmp
import Derived.Ground.SlsfProg
import Derived.Ground.SlgcProg
import Derived.Test.YtiflhbllbgajeaaGreatProg
import Derived.Test.YtiflhbllbgajeaaGreatKHI
set_option linter.all false
namespace Go.Proofs.YtiflhbllbgajeaaGreat
open Go.Proofs.Tryz
open Go.Vc Go.Gw
open Go.IntKind (i64)
def A4h {R C:Nat} {f:Nat->Nat->Rat} {m:Dn} (h:Pw R C f m):∀v∈m.2.2,∀e∈v,e.2=rc (rv e.2):=fun v c e a=>by
 obtain⟨i,b,rfl⟩:=Be [] c;exact((h.2.2.2 i (by rw[<-h.2.2.1];exact b)).1.2 e a).2
def C2a {N:Ge} {G:Nat->Nat->Rat} {f:TFV} (h:I2 N) (g:Al N) (n:∀e∈N.2,Ik e.2.2.1) (j:∀a b,a<N.1.toNat->b<N.1.toNat->qs K0 (G a b)) (i:f.1=Ap N.1 (KO N.2)) (c:Pw N.2.length N.1.toNat (Kn N.2 G) f.2.1) (d:Pw N.2.length N.2.length (shF N.2 G) f.2.2):Ql f/\Ax K3 f.2.1:=by
 have k:=g.2.1;have k:=g.1;refine⟨⟨DC c (by omega) (by omega),DC d (by omega) (by omega),d.1.trans c.1.symm,d.2.1.trans c.1.symm, ?_⟩,VH c (by decide) fun o r k l=>K7 (OD h g n j k l) (by decide)⟩;rw[i,(Fu h).1];exact c.2.1
def btw {N:Ge} {G:Nat->Nat->Rat} {f:TFV} (d:I2 N) (j:f.1=Ap N.1 (KO N.2)) (a:Pw N.2.length N.1.toNat (Kn N.2 G) f.2.1) {k:Nat} (i:k<N.2.length):((0<=(Ez N.2 k:Int)/\(Ez N.2 k:Int)<(f.1.length:Int)/\0<=(Fa N.2 k:Int)/\(Fa N.2 k:Int)<(f.1.length:Int))/\f.1.getD (Ez N.2 k:Int).toNat 0=f.1.getD (Fa N.2 k:Int).toNat 0)/\
 cH f.2.1.1.toNat (fun l=>A5 (f.2.1.2.2.getD l []) (Ez N.2 k:Int)-A5 (f.2.1.2.2.getD l []) (Fa N.2 k:Int))=cH N.2.length fun l=>Oe N.2 l*xch N.2 G l k:=by
 obtain⟨g,h⟩:=UD d i;obtain⟨c,b⟩:=Fu d;rw[<-j]at c b;refine⟨⟨⟨qD _,by omega,qD _,by omega⟩, ?_⟩, ?_⟩
 . rw[qM,qM,(b _ g).1,(b _ h).1,pB d i]
 . rw[a.1,qM];unfold cH;refine g3f fun l c=> ?_
   have b:=wY.1 c;show rc (A5 (f.2.1.2.2.getD l []) (Ez N.2 k:Int)-A5 (f.2.1.2.2.getD l []) (Fa N.2 k:Int))=rc (Oe N.2 l*xch N.2 G l k);rw[(a.2.2.2 l b).2.2 _ g,(a.2.2.2 l b).2.2 _ h,gM]
def A9b {N:Ge} (b:A9a N):∀e∈N.2,Ik e.2.2.1:=fun e a=>by
 obtain⟨⟨q,_,h⟩,_⟩:=b.2.2.2.2 e a;rw[h];exact SN q
def C0e {N:Ge} {G:Nat->Nat->Rat} (c:I2 N) (h:Al N) (g:∀e∈N.2,Ik e.2.2.1) (d:∀a b,a<N.1.toNat->b<N.1.toNat->qs K0 (G a b)) {l k:Nat} (f:l<N.2.length) (n:k<N.2.length):qs (K2+K2+1) (Oe N.2 l*xch N.2 G l k):=by
 obtain⟨i,j⟩:=UD c n;rw[<-gM];exact HX (K7 (OD c h g d f i) (by decide)) (K7 (OD c h g d f j) (by decide))
def XR:qs 1 (Rat.divInt 1 3)/\qs 1 (Rat.divInt 2 3):=by
 obtain⟨q,d,c⟩:=Oh (a:=1) (b:=3) (by omega) (by omega) (by omega);obtain⟨h,f,g⟩:=Oh (a:=2) (b:=3) (by omega) (by omega) (by omega);have e:Rat.divInt 1 3=q:=by rw[<-E6 (Rat.divInt 1 3),c,E6]
 have c:Rat.divInt 2 3=h:=by rw[<-E6 (Rat.divInt 2 3),g,E6]
 rw[e,c];exact⟨d,f⟩
def A1b:∀i j,i<3->j<3->rv (((TZ (rc (Rat.divInt 1 3)) (rc (Rat.divInt 2 3)) (rc 0)).getD i []).getD j zr)=B7d i j:=by
 intro i j c d;have a:Rat.divInt 1 3=1/3:=by decide+kernel
 have b:Rat.divInt 2 3=2/3:=by decide+kernel
 rcases(show i=0\/i=1\/i=2 by omega)with rfl|rfl|rfl<;>rcases(show j=0\/j=1\/j=2 by omega)with rfl|rfl|rfl
 . show rv (rc 0)= _;rw[E6];decide+kernel
 . show rv (rc (-rv (rc (Rat.divInt 2 3))))= _;rw[E6,E6,b];decide+kernel
 . show rv (rc (-rv (rc (Rat.divInt 1 3))))= _;rw[E6,E6,a];decide+kernel
 . show rv (rc 0)= _;rw[E6];decide+kernel
 . show rv (rc (Rat.divInt 1 3))= _;rw[E6,a];decide+kernel
 . show rv (rc (-rv (rc (Rat.divInt 1 3))))= _;rw[E6,E6,a];decide+kernel
 . show rv (rc 0)= _;rw[E6];decide+kernel
 . show rv (rc (-rv (rc (Rat.divInt 1 3))))= _;rw[E6,E6,a];decide+kernel
 . show rv (rc (-rv (rc (Rat.divInt 2 3))))= _;rw[E6,E6,b];decide+kernel
def jP:∀l∈TZ (rc (Rat.divInt 1 3)) (rc (Rat.divInt 2 3)) (rc 0),KV K1 l/\(l.length:Int)=3:=by
 obtain⟨b,d⟩:=XR;have c:∀ {q:Rat},qs 1 q->sz K1 (rc (-rv (rc q))):=fun {q} h=>by rw[E6];exact G1 (KW (OF h)) (by decide)
 have f:sz K1 (rc 0):=KW (P9 (by decide));intro l a;unfold TZ at a;simp only[qG,rY,vF]at a;rcases a with rfl|rfl|rfl<;>refine⟨fun e a=> ?_,rfl⟩<;>simp only[qG,rY,vF]at a<;>rcases a with rfl|rfl|rfl<;>first
  |exact f
  |exact c b
  |exact c d
  |exact G1 (KW b) (by decide)
def LH (x:A2 H7.args) (b:awf H7.args x) (a:H7.pre x):Hk x:=by
 obtain⟨_⟩:=x;simp only[Hk];refine⟨trivial, ?_⟩;rintro⟨one,_⟩ _ a;simp only at a⊢;subst a;have a:awE (ri 1)=Am:=by unfold awE Am;rw[KQ];rfl
 rw[a];refine⟨fun _=>A0m, ?_⟩;rintro⟨f,e,_⟩ _ ⟨_,a⟩;change TFV at f;change Int at e;simp only at a⊢;obtain⟨c,g,G,d,k,b,h⟩:=a B9y;clear a;subst c;refine⟨trivial, ?_⟩;rintro⟨h,_⟩ _ a;simp only at a⊢;subst a;refine⟨trivial, ?_⟩;rintro⟨h,_⟩ _ a;simp only at a⊢;subst a;refine⟨trivial, ?_⟩;rintro⟨z,_⟩ _ a;simp only at a⊢;subst a;refine⟨⟨Q7 XR.1 (by decide),Q7 XR.2 (by decide),jP⟩, ?_⟩;intro M _ a;have h:f.2.1=M:=B4f b a fun i j hi hj=>(dL d i j hi hj).trans (A1b i j hi hj).symm
 have k:Ax K1 f.2.1:=VH b (by decide) fun i j hi hj=>by
  rw[dL d i j hi hj, <-A1b i j hi hj];have a:((TZ (rc (Rat.divInt 1 3)) (rc (Rat.divInt 2 3)) (rc 0)).getD i []).getD j zr∈(TZ (rc (Rat.divInt 1 3)) (rc (Rat.divInt 2 3)) (rc 0)).getD i []:=C6 (by
   rcases(show i=0\/i=1\/i=2 by have:i<3:=hi;omega)with rfl|rfl|rfl<;>exact hj)
  have d:=(jP _ (C6 (show i<3 from hi))).1 _ a;refine Gz ?_ d (by decide);rcases(show i=0\/i=1\/i=2 by have:i<3:=hi;omega)with rfl|rfl|rfl<;>rcases(show j=0\/j=1\/j=2 by have:j<3:=hj;omega)with rfl|rfl|rfl<;>exact SN _
 simp only[g3a,true_implies];rw[g,dK];refine⟨trivial, ?_⟩;rintro⟨r,_⟩ ⟨_,a⟩;simp only at a⊢;rw[rF (by trivial)]at a;subst a;refine⟨fun _=>k, ?_⟩;rintro⟨d,_⟩ a;simp only at a⊢;have a:=(a rfl).2;rw[a.2 ⟨h,fun v d e c=> ?_⟩]
 . rfl
 . exact A4h b v d e c
def IY:An:= {loop:= [(4,⟨[0,1],[],[(5,false,vI)],[],[]⟩)],plan:= [(6,[3,7],[],true,(pZ9 0 3 (.q 3 (pZ9 4 3 (.q 7 (.p 8 .done))))))]}
def Pa:A2 S6.args->Prop:=fun(x:Ey)=>let f:Prop:=(x.1=x.2.1);let e:=(0:Int);let b:=(x.2.1.length:Int);let a:=(x.1.length:Int);(iB (decide (a≠b)) (false=decide f) (∃(I:C5->Prop),∃(c: _->Nat),I (e,())/\∀(p:C5),let d:=(i64.wrap (p.1+1),());let g:Prop:=(gx e x.1 p.1≠gx e x.2.1 p.1);(Ty.int i64).wf p.1/\True->I p->(iB (decide (p.1<a)) ((e<=p.1/\p.1<a)/\(e<=p.1/\p.1<b)/\(iB (decide g) (false=decide f) (I d/\c d<c p))) (true=decide f))))
def BA (x:A2 S6.args) (b:awf S6.args x) (_:S6.pre x):Pa x:=by
 obtain⟨a,f,_⟩:=x;have c:a.length<=9223372036854775807:=b.1.1;change List Int at a f;simp only[Pa,iB];refine⟨fun h=> ?_,fun h=> ?_⟩
 . have h:=qA h;exact(rE fun e=>h (by rw[e])).symm
 . have b:a.length=f.length:=by have:=qB h;omega
   refine⟨fun p=>0<=p.1/\p.1<=(a.length:Int)/\a.take p.1.toNat=f.take p.1.toNat,fun p=>((a.length:Int)-p.1).toNat,⟨qI _,qD _,by simp⟩, ?_⟩;rintro⟨i,_⟩ _ ⟨c,b,g⟩;change Int at i;simp only at c b g⊢;refine⟨fun h=> ?_,fun h=> ?_⟩
   . have h:=qA h;refine⟨⟨c,h⟩,⟨c,by omega⟩,fun b=> ?_,fun b=> ?_⟩
     . have b:=qA b;exact(rE fun e=>b (by rw[e])).symm
     . have b:gx 0 a i=gx 0 f i:=by simpa using b
       rw[wv (by omega)];refine⟨⟨by omega,by omega, ?_⟩,by omega⟩;rw[show(i+1).toNat=i.toNat+1 from by omega,rQ,rQ,G5 (d:=(0:Int)) c h,G5 (d:=(0:Int)) c (by omega),g,b]
   . have h:=qB h;rw[D7 (by omega),D7 (by omega)]at g;exact(rF g).symm
def B9p {N:Ge} {G:Nat->Nat->Rat} (f:I2 N) (d:Al N) (c:∀e∈N.2,Ik e.2.2.1) (g:∀a b,a<N.1.toNat->b<N.1.toNat->qs K0 (G a b)) {l k:Nat} (h:l<N.2.length) (i:k<N.2.length):qs (2+(K2+K2+1+1+1)) (shF N.2 G l k):=by
 obtain⟨o,r⟩:=UD f i;have n:N.2.getD k dB∈N.2:=C6 i;have i:qs (K2+K2+1) (Kn N.2 G l (Fa N.2 k)-Kn N.2 G l (Ez N.2 k)):=HX (K7 (OD f d c g h r) (by decide)) (K7 (OD f d c g h o) (by decide));have f:qs 1 (if k=l then(1:Rat)else 0):=by
  split
  . exact XC (qZ 1)
  . exact P9 (qZ 1)
 exact Zz (Gz (c _ n) (d.2.2 _ n).1 (by decide)) (OE (j:=K2+K2+1) (k:=1) i f)
def Js (x:A2 F6.args) (b:awf F6.args x) (a:F6.pre x):Di x:=by
 obtain⟨a,_⟩:=x;simp only[Di,iB,H6,Nw,g4o];refine⟨trivial, ?_⟩;rintro⟨⟨n,E⟩,_⟩ _ a;change Int at n;change List Yd at E;have a:A9a (n,E):=a;obtain⟨f,g,h,b,c⟩:=id a;have d:=A4c a;have o:=A9b a;simp only at g h b c f o⊢;refine⟨fun _=>d, ?_⟩;rintro⟨b,e,_⟩ _ ⟨_,a⟩;change TFV at b;change Int at e;simp only at a⊢;obtain⟨t,y,G,c,u,z,k⟩:=a f;clear a;subst t;obtain⟨w,D⟩:=C2a f d o u y z k;have A:Ax K1 b.2.2:=VH k (by decide) fun i j c a=>K7 (B9p f d o u c a) (by decide)
 have g:b.2.2.1=(E.length:Int):=k.1;have h:b.2.2.2.1=(E.length:Int):=k.2.1;refine⟨trivial, ?_⟩;rintro⟨n,_⟩ _ b;simp only at b⊢;subst b;rw[g,h];simp only[g4n,g4a,zQ,I9,rD,true_implies,yV];refine⟨A, ?_⟩;rintro⟨g,_⟩ ⟨_,b⟩;simp only at b⊢;rw[rF w.2.1]at b;subst b;refine⟨fun h=>(by cases h),fun _=> ?_⟩;refine⟨fun p=>0<=p.1/\p.1<=(E.length:Int),fun p=>((E.length:Int)-p.1).toNat,⟨qI _,qD _⟩, ?_⟩;rintro⟨i,_⟩ _ ⟨s,g⟩;change Int at i;simp only at s g⊢;refine⟨fun c=> ?_,fun c=>by trivial⟩;have c:=qA c;have n:i.toNat<E.length:=by omega
 have B:gx (0,0,dQ,(false,[]),[]) E i=E.getD i.toNat dB:=G9 s c;obtain⟨g,v⟩:=eM f n;simp only at g v;have r:E.getD i.toNat dB∈E:=C6 n;rw[B,g,v];refine⟨⟨s,c⟩,D, ?_⟩;rintro⟨X,e,_⟩ _ ⟨_,g⟩;change List D5 at X;change Int at e;simp only at g⊢;obtain⟨⟨B,D⟩,F⟩:=btw f y z n;obtain⟨t,v⟩:=((g w).2 B).2 D;clear g;subst t;have g:X=cH E.length fun l=>Oe E l*xch E G l i.toNat:=v.trans F
 clear v;have t:X.length=E.length:=by rw[g,A1z]
 rw[t];simp only[g4a,zQ,rD];refine⟨fun h=>(by cases h),fun _=> ?_⟩;refine⟨fun p=>0<=p.1/\p.1<=(E.length:Int),fun p=>((E.length:Int)-p.1).toNat,⟨qI _,qD _⟩, ?_⟩;rintro⟨j,_⟩ _ ⟨t,v⟩;change Int at j;simp only at t v⊢;refine⟨fun a=> ?_,fun a=> ?_⟩
 . have a:=qA a;have v:j.toNat<E.length:=by omega
   have y:gx dQ X j=rc (Oe E j.toNat*xch E G j.toNat i.toNat):=(show gx dQ X j=X.getD j.toNat zr from G9 t (by omega)).trans (by rw[g,B0b v]);have g:=C0e f d o u v n;have u:qs 2 (Oe E i.toNat):=Gz (o _ r) (d.2.2 _ r).1 (by decide);rw[y];refine⟨⟨t,a⟩,⟨U8 (d.2.2 _ r).1 (by decide),Q7 g (by decide)⟩, ?_⟩;rintro⟨y,_⟩ _ f;simp only at f⊢;rw[E6]at f;have o:qs (2+(K2+K2+1)) (Oe E i.toNat*(Oe E j.toNat*xch E G j.toNat i.toNat)):=Zz u g;have f:y=rc (Oe E i.toNat*(Oe E j.toNat*xch E G j.toNat i.toNat)):=f;refine⟨by rw[f];exact Q7 o (by decide), ?_⟩;rintro⟨g,_⟩ _ b;simp only at b⊢;rw[f,E6]at b;refine⟨fun q=>((q.1,q.2.1),q.2.2.1)=rc (-(Oe E i.toNat*(Oe E j.toNat*xch E G j.toNat i.toNat))+if j=i then Oe E i.toNat else 0),⟨fun f=>⟨⟨by rw[b];exact Q7 (OF o) (by decide),U8 (d.2.2 _ r).1 (by decide)⟩, ?_⟩,fun f=> ?_⟩, ?_⟩
   . rintro⟨g,_⟩ _ d;simp only at d⊢;rw[d,b,E6,qS (qA f)];rfl
   . rw[qL (qB f),rN];exact b
   . rintro⟨b,f,g,_⟩ _ d;simp only at d⊢;rw[d];refine⟨A, ?_⟩;rintro⟨f,_⟩ _ b;simp only at b⊢;rw[qS ⟨w.2.1,t,a,s,c⟩,fT k v n]at b;refine⟨trivial, ?_⟩;rintro⟨d,_⟩ c;simp only at c⊢;have d:f=rc (-(Oe E i.toNat*(Oe E j.toNat*xch E G j.toNat i.toNat))+if j=i then Oe E i.toNat else 0):=by
      rw[b];congr 1;have e:=gM E G j.toNat i.toNat;rw[<-e];show Oe E i.toNat*(Kn E G j.toNat (Fa E i.toNat)-Kn E G j.toNat (Ez E i.toNat)+if i.toNat=j.toNat then 1 else 0)= _;by_cases b:j=i
      . subst b;rw[qS rfl,qS rfl];grind
      . rw[qL b,qL (show¬i.toNat=j.toNat by omega)];grind
     rw[c,rF d,wv (by omega)];exact⟨fun h=>(by cases h),fun _=>⟨⟨by omega,by omega⟩,by omega⟩⟩
 . have a:=qB a;rw[wv (by omega)];exact⟨⟨by omega,by omega⟩,by omega⟩
end Go.Proofs.YtiflhbllbgajeaaGreat
namespace Go.Vc
open Go Go.RowKit Go.Gw Go.Shelf
open Go.IntKind (i64)
structure El (t:Ty) (w:World) (Z:Nat->Prop) where
 c:List Value
 v:t.den
 h:C4 t w Z c v
def kE {t:Ty} {w:World} {Z:Nat->Prop} :∀ {l:List t.den} {xs:List Value},F8 (C4 t w Z) xs l->∃L:List (El t w Z),L.flatMap El.c=xs/\L.map El.v=l
 | [],_,h=>⟨[],h.symm,rfl⟩
 |x::l,_,⟨c1,d,e,a,b⟩=>by
  obtain⟨L,d,f⟩:=kE b;exact⟨⟨c1,x,a⟩::L,by rw[yG,d,e],by rw[rZ,f]⟩
def kF {t:Ty} {w w':World} {Z Z':Nat->Prop} (a:∀c x,C4 t w Z c x->C4 t w' Z' c x):∀L:List (El t w Z),F8 (C4 t w' Z') (L.flatMap El.c) (L.map El.v)
 | []=>rfl
 |p::L=>⟨p.c,L.flatMap El.c,rfl,a _ _ p.h,kF a L⟩
def kO {b:Type} {enc:b->List Value} {k:Nat} (a:∀x,(enc x).length=k):∀(L:List b) (i r:Nat) {x:b},L[i]? =some x->r<k->(L.flatMap enc)[i*k+r]? =(enc x)[r]?
 | [],_,_,_,h,_=>by cases h
 |y::L,0,r,x,h,b=>by
  simp only[g1k,rC]at h;subst h;rw[yG,xX,sE,wA (by rw[a];exact b)]
 |y::L,i+1,r,x,h,b=>by
  rw[uF]at h;have e:(i+1)*k+r-k=i*k+r:=by rw[uJ];omega
  rw[yG,uC (by rw[a,uJ];omega),a,e];exact kO a L i r h b
def kP {b:Type} {enc:b->List Value} {k:Nat} (a:∀x,(enc x).length=k):∀L:List b,(L.flatMap enc).length=L.length*k
 | []=>by simp
 |x::L=>by rw[yG,rO,kP a L,a,rI,uJ];omega
def kN {b:Type} [Inhabited b] {enc:b->List Value} {k:Nat} (c:∀x,(enc x).length=k) (d:Array b) {j:Nat} (a:j<d.size*k):(d.toList.flatMap enc)[j]? =some (Go.Sort.flatK enc k d)[j]!:=by
 have f:0<k:=by
  rcases vE k with h|h
  . rw[h,wH]at a;omega
  . exact h
 have b:j/k<d.size:=(tN f).2 a;have g:j%k<k:=vX _ f;have e:j=j/k*k+j%k:=by rw[tD];exact(wQ j k).symm
 rw[Go.Sort.get_flatK enc k d j a];have a:d.toList[j/k]? =some d[j/k]!:=by
  rw[wC,tX b,g0m d _ b]
 have:=kO c d.toList (j/k) (j%k) a g;rw[<-e]at this;have a:j%k<(enc d[j/k]!).length:=by rw[c];exact g
 rw[this,qT a,g0m (enc d[j/k]!) (j%k) a]
def A5f {F cur:Array Value} {n:Nat} {xs:List Value} (c:xs.length=n) (a:F.size=n) (b:n<=cur.size) (h:∀j,j<n->xs[j]? =some F[j]!):(Go.Sort.putCells id 0 F cur).size=cur.size/\(Go.Sort.putCells id 0 F cur).toList.take n=xs:=by
 refine⟨by simp[Go.Sort.putCells], ?_⟩;apply wN;intro j;by_cases a:j<n
 . rw[rS a,h j a,wC];unfold Go.Sort.putCells;rw[Array.getElem?_mapIdx,tX (by omega)];simp only[vR];rw[qS ⟨rM _,by omega⟩];rfl
 . rw[rV (by simp;omega),rV (by omega)]
def B1j {b:Type} [Inhabited b] {d a:Array b} (h:Go.Sort.PermIn 0 d.size d a):a.toList.Perm d.toList:=by
 obtain⟨b,_,a⟩:=h;rw[g2j,g2j]at a;simpa[List.extract_eq_take_drop,qV,b]using a
def A0f {d:Type} [Inhabited d] {lt:d->d->Bool} {c:Array d} {n:Nat} (f:c.size=n) (h:Go.Sort.SortedIn lt 0 n c):c.toList.Pairwise fun a b=>lt b a=false:=by
 rw[tY];intro i j d k g;have f:i<c.size:=by simpa using d
 have d:j<c.size:=by simpa using k
 have:=h i j (rM _) g (by omega);rw[g0m c i f,g0m c j d]at this;simpa using this
def B5s {w:World} {b m:Nat} {f:Array Value->Array Value} {a:Array Obj} :w.heap.size<=(Go.Sort.grow (Go.Sort.mapBlock (Go.Sort.ahead w m) b f) a).heap.size:=by
 simp[Go.Sort.grow,Go.Sort.mapBlock,Go.Sort.ahead]
def mV {w:World} {b m j:Nat} {f:Array Value->Array Value} {d:Array Obj} (a:j<w.heap.size) (c:j≠b):(Go.Sort.grow (Go.Sort.mapBlock (Go.Sort.ahead w m) b f) d).heap[j]? =w.heap[j]?:=by
 rw[Go.Sort.heap_grow_old _ _ (by simpa[Go.Sort.mapBlock,Go.Sort.ahead]using a)];unfold Go.Sort.mapBlock;simp only;rw[g2f,qL (Ne.symm c)];rfl
def B5r {w:World} {b m:Nat} {f:Array Value->Array Value} {c:Array Obj} {cur:Array Value} {e:TypeId} (a:w.heap[b]? =some (.cells cur e (0,0))):(Go.Sort.grow (Go.Sort.mapBlock (Go.Sort.ahead w m) b f) c).heap[b]? =some (.cells (f cur) e (0,0)):=by
 have c:b<w.heap.size:=(rT.1 a).1;rw[Go.Sort.heap_grow_old _ _ (by simpa[Go.Sort.mapBlock,Go.Sort.ahead]using c)];unfold Go.Sort.mapBlock;simp only;rw[g2f,qS rfl];have:(Go.Sort.ahead w m).heap[b]? =some (.cells cur e (0,0)):=a;rw[this];rfl
def HC {P:Program} {f:FuncId} (a:Gh P f=true) (args:Array Value) (w:World):(callFunc f args).run P w= .ok (.enter f args) w:=by
 unfold Gh at a;split at a
 . rename_i fn d;simp only[qC,rP]at a;have c:¬fn.body=none:=by intro hb;rw[hb]at a;simp at a
   have b:¬fn.name= "runtime.NumGoroutine" :=by simpa using a.1
   simp[callFunc,d,b,c,go_sem]
 . cases a
def B5t {d f:Type} {φ:d->d->Int} (v:f->d) (g:∀a,¬φ a a<0) (i:∀a b c,φ a b<0->φ b c<0->φ a c<0) (j:∀a b c,¬φ a b<0->¬φ b c<0->¬φ a c<0):
 Go.Sort.SWO (Go.Proofs.ltOf fun x y:f=>φ (v x) (v y)):=by
 refine⟨fun x=> ?_,fun x y z h d=> ?_,fun x y z h d=> ?_⟩
 . exact rE (g _)
 . exact rF (i _ _ _ (qA h) (qA d))
 . exact rE (j _ _ _ (qB h) (qB d))
def A5s {t:Ty} {φ:t.den->t.den->Int} {e:TypeId} {w w':World} {Z:Nat->Prop} {fv:Value} {g c:Nat} {cur F:Array Value} {k:Nat} {x:List t.den} {L L':List (El t w Z)}
 (B:∀b,Z b->b<w.heap.size) (G:¬Z g) (i:t.size=k)
 (d:w.heap[g]? =some (.cells cur e (0,0))) (n:L.length<=c) (H:c<=maxLen) (s:cur.size=c*k) (A:L.map El.v=x)
 (u:L'.Perm L) (M:L'.Pairwise fun a b=>¬φ b.v a.v<0)
 (d:F.size=L.length*k) (z:∀j,j<L.length*k->(L'.flatMap El.c)[j]? =some F[j]!)
 (I:w'.os=w.os) (P:w'.tape=w.tape) (J:w'.output=w.output) (O:w.heap.size<=w'.heap.size)
 (l:∀j,j<w.heap.size->j≠g->w'.heap[j]? =w.heap[j]?) (E:w'.heap[g]? =some (.cells (Go.Sort.putCells id 0 F cur) e (0,0))):
 Ig (lN w (Bp t e φ).args [.slice (some ⟨g,0,none⟩) L.length c,fv]) w w'/\∃(r:Bh (Bp t e φ).res) (o:Nv (Bp t e φ).args) (us:List Value) (Zn:Nat->Prop),(Bp t e φ).post (x,()) r/\(N3 (Bp t e φ).args=true->(Bp t e φ).mpost (x,()) r o)/\Value.tuple #[]=Wd us/\(∀b,Zn b->(w.heap.size<=b/\b<w'.heap.size)\/((Bp t e φ).shared=true/\Z b))/\Od w.heap.size w' Zn (Bp t e φ).res us r/\Ww w w' Zn (Bp t e φ).args [.slice (some ⟨g,0,none⟩) L.length c,fv] o:=by
 have f:L'.length=L.length:=u.length_eq;have D:∀p:El t w Z,p.c.length=k:=fun p=>by rw[<-i];exact C4.length p.h
 have y:(L'.flatMap El.c).length=L.length*k:=by rw[kP D,f]
 obtain⟨Q,R⟩:=A5f y d (by rw[s];exact rL _ n) z;have N:O3 Z w w':=fun b d=>l b (B b d) (fun e=>G (e▸d))
 refine⟨⟨I,P,J,O,fun j B D=>l j B (fun z=>D ?_),trivial⟩,(),(L'.map El.v,()),[],Z,trivial,fun _=>⟨?_, ?_⟩,rfl,fun b d=> .inr ⟨rfl,d⟩,rfl, ?_⟩
 . subst z;refine⟨(.row t e, .slice (some ⟨j,0,none⟩) L.length c),rA, ?_⟩;rfl
 . rw[<-A];exact u.map _
 . exact vK.2 M
 . refine⟨⟨L'.flatMap El.c,⟨?_, .inr ⟨g,c,Go.Sort.putCells id 0 F cur, ?_,rM _,E, ?_,H, ?_, ?_⟩⟩, ?_⟩,trivial⟩
   . simp only[tK];rw[y,f,i]
   . simp only[tK,f]
   . simp only[tK,f];exact n
   . rw[Q,s,i]
   . simp only[tK,f,i];exact R
   . refine kF (fun f y c=> ?_) L';exact C4.mono (fun b d=>d) N c
def A6q (P:Program) (g:FuncId) (t:Ty) (φ:t.den->t.den->Int):Prop:=
 ∀(w:World) (Z:Nat->Prop) (c1 a:List Value) (x y:t.den),C4 t w Z c1 x->C4 t w Z a y->Calls P g #[.agg c1.toArray, .agg a.toArray] w fun e b=>e= .returned (.int .i64 (φ x y))/\∃q a,b=Go.Sort.grow (w.drewN q) a
def mR {P:Program} {ρ:Ren} (LL:Go.Proofs.SlLaysF0.n6 P ρ) {t:Ty} {e:TypeId} {g:FuncId} {φ:t.den->t.den->Int} (R:∀w,(isAgg (ρ.t 24)).run P w= .ok true w) (ah:∀w,(Go.sizeOf (ρ.t 24)).run P w= .ok t.size w)
 (U:∀a,¬φ a a<0) (V:∀a b c,φ a b<0->φ b c<0->φ a c<0) (W:∀a b c,¬φ a b<0->¬φ b c<0->¬φ a c<0) (a6:Gh P g=true) (a3:A6q P g t φ):A0y P (ρ.f 6) g t e φ:=by
 rintro w Z am aj D ⟨an,M,a5,a0⟩ a8;obtain⟨L,rfl,rfl⟩:=kE a5;have Y:(L.map El.v).length=L.length:=tK ..;rw[Y]at M a8;obtain⟨ai,af⟩:=M;have z:∀(p:Option Addr) (d:Nat),L= []->Gw.aT P (ρ.f 6) [.slice p 0 d, .func (.func g) #[] #[]] w fun u Q=>u= .tuple #[]/\Q=w:=fun p d _=>
  Calls.mono (Go.Proofs.AnyF.slices_SortFunc_none LL p d (.func (.func g) #[] #[]) w) fun _ _ ⟨N,hw⟩=>⟨_,N,rfl,hw⟩
 rcases af with⟨rfl,a9⟩ | ⟨b,d,cur,rfl,_,h,G,J,H,ae⟩
 . have n:L= []:=qO a9;subst n;refine(z none 0 rfl).mono ?_;rintro _ _ ⟨rfl,rfl⟩;refine⟨Ig.of (R7.refl _),(),([],()),[],(fun _=>False),trivial,fun _=>⟨wK _,List.Pairwise.nil⟩,rfl,fun _ s=>s.elim,rfl,⟨⟨[],World.ownsRow_nil _ _ _ _,rfl⟩,trivial⟩⟩
 . have E:¬Z b:=a0 b rfl;have v:∀p:El t w Z,p.c.length=t.size:=fun p=>C4.length p.h
   have a1:b<w.heap.size:=(rT.1 h).1;rcases n:L with _ | ⟨ag,L0⟩
   . subst n;refine(z _ d rfl).mono ?_;rintro _ _ ⟨rfl,rfl⟩;refine⟨Ig.of (R7.refl _),(),([],()),[],(fun _=>False),trivial,fun _=>⟨wK _,List.Pairwise.nil⟩,rfl,fun _ s=>s.elim,rfl,⟨⟨[],⟨by simp, .inr ⟨b,d,cur,rfl,rM _,h,G,J,H,by simp⟩⟩,rfl⟩,trivial⟩⟩
   . rw[<-n];clear z
     haveI:Inhabited (El t w Z):=⟨ag⟩
     have X:Go.Sort.HoldsK El.c t.size w b 0 L.toArray:=by
      intro r j;rw[Go.Sort.size_flatK]at j;have a7:r<L.length*t.size:=by simpa using j
      have N:=kN v L.toArray j;rw[sE];refine⟨?_, ?_⟩
      . have T:cur[r]? =some (Go.Sort.flatK El.c t.size L.toArray)[r]!:=by
         rw[<-N];simp only;rw[<-ae,rS a7,wC]
        simp only[World.cell?,h];exact T
      . simp[World.frozen?,h]
     have a4:Go.Proofs.CmpLays P g #[] El.c t.size (fun x y:El t w Z=>φ x.v y.v) b 0 L.toArray.size w:=by
      intro m O T a7 x y;have N:O3 Z w (Go.Proofs.sortWorldK El.c t.size w b 0 m T O):=by
       intro B o;have:B≠b:=fun e=>E (e▸o)
       exact mV (D B o) this
      exact a3 _ Z x.c y.c x.v y.v (C4.mono (fun _ i=>i) N x.h) (C4.mono (fun _ i=>i) N y.h)
     have a2:=Go.Proofs.AnyQ.slices_SortFunc LL t.size R ah El.c v (fun x=>C4.oneCell x.h) (fun x y:El t w Z=>φ x.v y.v) (B5t El.v U V W) g #[] b 0 d L.toArray w (HC a6) a4 X a1 (by simp;omega);refine Calls.mono a2 ?_;rintro _ Q ⟨rfl,l,ak,O,A,ad,rfl⟩;refine⟨_,rfl, ?_⟩;have ab:=B1j A;have ac:=A0f A.1 ad;have I:l.size=L.length:=by rw[A.1];simp
     refine A5s (k:=t.size) (F:=Go.Sort.flatK El.c t.size l) (L:=L) (L':=l.toList) (cur:=cur) (x:=L.map El.v) D E rfl h G J H rfl ab ?_ ?_ ?_ rfl rfl rfl ?_ ?_ ?_
     . exact ac.imp fun i=>qB i
     . rw[Go.Sort.size_flatK,I]
     . intro r j;exact kN v l (by rw[I];exact j)
     . exact B5s
     . intro B o aa;exact mV o aa
     . exact B5r h
end Go.Vc
namespace Go.Proofs
open Go.Proofs.Tryz
open Go.Shelf
open Go.IntKind (i64)
def Tryz.sortEnt_ren:Go.Shelf.Ren:=⟨fun|6=>119|15=>156|14=>155|28=>182|29=>183|20=>174|21=>175|22=>176|23=>177|24=>178|25=>179|26=>180|27=>181|46=>194|47=>195|48=>196|49=>197|50=>198|57=>203|n=>n,fun|22=>79|24=>106|25=>147|3=>3|39=>165|0=>0|53=>103|55=>124|4=>4|46=>193|45=>192|50=>197|5=>5|9=>9|66=>206|70=>210|76=>215|77=>216|n=>n,fun|n=>n⟩
def Tryz.sortEnt:Go.Proofs.SlLaysF0.n6 prog sortEnt_ren:= {
 mixed:=by kernel_rfl
 f6:=⟨f119.name,by decide,func119.trans (tS some (by kernel_rfl))⟩
 f14:=⟨f155.name,by decide,func155.trans (tS some (by kernel_rfl))⟩
 f15:=func156.trans (tS some (by kernel_rfl))
 f20:=⟨f174.name,by decide,func174.trans (tS some (by kernel_rfl))⟩
 f21:=⟨f175.name,by decide,func175.trans (tS some (by kernel_rfl))⟩
 f22:=⟨f176.name,by decide,func176.trans (tS some (by kernel_rfl))⟩
 f23:=⟨f177.name,by decide,func177.trans (tS some (by kernel_rfl))⟩
 f24:=⟨f178.name,by decide,func178.trans (tS some (by kernel_rfl))⟩
 f25:=⟨f179.name,by decide,func179.trans (tS some (by kernel_rfl))⟩
 f26:=⟨f180.name,by decide,func180.trans (tS some (by kernel_rfl))⟩
 f27:=⟨f181.name,by decide,func181.trans (tS some (by kernel_rfl))⟩
 f28:=func182.trans (tS some (by kernel_rfl))
 f29:=func183.trans (tS some (by kernel_rfl))
 f46:=⟨f194.name,by decide,func194.trans (tS some (by kernel_rfl))⟩
 f47:=func195.trans (tS some (by kernel_rfl))
 f48:=func196.trans (tS some (by kernel_rfl))
 f49:=⟨f197.name,by decide,func197.trans (tS some (by kernel_rfl))⟩
 f50:=⟨f198.name,by decide,func198.trans (tS some (by kernel_rfl))⟩
 f57:=⟨f203.name,by decide,func203.trans (tS some (by kernel_rfl))⟩
 t0:=underlying0
 a0:=isAgg0
 z0:=sizeOf0
 v0:=zeroValue0
 t3:=underlying3
 a3:=isAgg3
 z3:=sizeOf3
 v3:=zeroValue3
 t4:=underlying4
 a4:=isAgg4
 z4:=sizeOf4
 v4:=zeroValue4
 t5:=underlying5
 a5:=isAgg5
 z5:=sizeOf5
 v5:=zeroValue5
 t9:=underlying9
 a9:=isAgg9
 z9:=sizeOf9
 v9:=zeroValue9
 t22:=underlying79
 a22:=isAgg79
 z22:=sizeOf79
 v22:=zeroValue79
 t25:=underlying147
 a25:=isAgg147
 z25:=sizeOf147
 v25:=zeroValue147
 t39:=underlying165
 a39:=isAgg165
 z39:=sizeOf165
 v39:=zeroValue165
 t45:=underlying192
 a45:=isAgg192
 z45:=sizeOf192
 v45:=zeroValue192
 t46:=underlying193
 a46:=isAgg193
 z46:=sizeOf193
 v46:=zeroValue193
 t50:=underlying197
 a50:=isAgg197
 z50:=sizeOf197
 v50:=zeroValue197
 t53:=underlying103
 a53:=isAgg103
 z53:=sizeOf103
 v53:=zeroValue103
 t55:=underlying124
 a55:=isAgg124
 z55:=sizeOf124
 v55:=zeroValue124
 t66:=underlying206
 a66:=isAgg206
 z66:=sizeOf206
 v66:=zeroValue206
 t70:=underlying210
 a70:=isAgg210
 z70:=sizeOf210
 v70:=zeroValue210
 t76:=underlying215
 a76:=isAgg215
 z76:=sizeOf215
 v76:=zeroValue215
 t77:=underlying216
 a77:=isAgg216
 z77:=sizeOf216
 v77:=zeroValue216}
def Tryz.cmpInt_ren:Go.Shelf.Ren:=⟨fun|5=>121|7=>157|n=>n,fun|22=>3|3=>3|4=>4|n=>n,fun|n=>n⟩
def Tryz.cmpInt:Go.Proofs.SlLaysC2.n5 prog cmpInt_ren:= {
 mixed:=by kernel_rfl
 f5:=⟨f121.name,by decide,func121.trans (tS some (by kernel_rfl))⟩
 f7:=⟨f157.name,by decide,func157.trans (tS some (by kernel_rfl))⟩
 t3:=underlying3
 a3:=isAgg3
 z3:=sizeOf3
 v3:=zeroValue3
 t4:=underlying4
 a4:=isAgg4
 z4:=sizeOf4
 v4:=zeroValue4
 t22:=underlying3
 a22:=isAgg3
 z22:=sizeOf3
 v22:=zeroValue3}
end Go.Proofs
namespace Go.Proofs.YtiflhbllbgajeaaGreat
open Go.Proofs.Tryz
open Go.Vc Go.Gw Go.Lib Go.Shelf
open Go.IntKind (i64)
def Yg (w:World) (o:Obj):w.alloc o= {w with heap:=w.heap.push o} :=rfl
def A7x (a b:Int) (c d:List Value) (w:World):Calls prog 120 #[.agg (.int .i64 a::c).toArray, .agg (.int .i64 b::d).toArray] w fun e w'=>e= .returned (.int .i64 (Lib.compareInt a b))/\∃q f,w'=Go.Sort.grow (w.drewN q) f:=by
 have f:∀args w,(callFunc 121 args).run prog w= .ok (.enter 121 args) w:=Go.Vc.HC (by kernel_rfl);have f:=fun(w:World)=>AnyG.cmp_Compare_int cmpInt a b w
 go_enter func120,ntmps120
 go_wp2_with (go_at_fn (121);refine(f _).mono ?_;rintro e w' ⟨rfl,f⟩;rw[f])
 go_ret
 refine⟨rfl,0, #[.cells (Value.int .i64 a::c).toArray 106, .cells (Value.int .i64 b::d).toArray 106], ?_⟩;rw[Yg,Yg];simp[Go.Sort.grow,World.drewN];apply zS.1;simp
def A7w (a b:Int):Lib.compareInt a b=K6 a b:=by
 unfold Lib.compareInt K6
 (repeat' split)<;>first|rfl|omega
def B7z:A6q prog 120 tE (fun a b:C9=>K6 a.1 b.1):=by
 rintro w Z c1 f x y ⟨g,c,rfl,⟨rfl,_⟩,_⟩ ⟨h,d,rfl,⟨rfl,_⟩,_⟩;have:=A7x x.1 y.1 c d w;rw[A7w]at this;exact this
def B5o:OZ prog 119 (SY 120 tE 106 (fun a b=>K6 a.1 b.1)):=by
 refine XO (tys:= []) (mR (ρ:=sortEnt_ren) sortEnt (t:=tE) (e:=106) (g:=120) (φ:=fun a b:C9=>K6 a.1 b.1) isAgg106 sizeOf106 (fun a=> ?_) (fun a b c=> ?_) (fun a b c=> ?_) (by kernel_rfl) B7z);all_goals (simp only[K6];(repeat' split)<;>omega)
def A3q (a b:Int) (c d:List Value) (w:World):Calls prog 153 #[.agg (.int .i64 a::c).toArray, .agg (.int .i64 b::d).toArray] w fun e w'=>e= .returned (.int .i64 (Lib.compareInt a b))/\∃q f,w'=Go.Sort.grow (w.drewN q) f:=by
 have f:∀args w,(callFunc 121 args).run prog w= .ok (.enter 121 args) w:=Go.Vc.HC (by kernel_rfl);have f:=fun(w:World)=>AnyG.cmp_Compare_int cmpInt a b w
 go_enter func153,ntmps153
 go_wp2_with (go_at_fn (121);refine(f _).mono ?_;rintro e w' ⟨rfl,f⟩;rw[f])
 go_ret
 refine⟨rfl,0, #[.cells (Value.int .i64 a::c).toArray 106, .cells (Value.int .i64 b::d).toArray 106], ?_⟩;rw[Yg,Yg];simp[Go.Sort.grow,World.drewN];apply zS.1;simp
def B3o:A6q prog 153 tE (fun a b:C9=>K6 a.1 b.1):=by
 rintro w Z c1 f x y ⟨g,c,rfl,⟨rfl,_⟩,_⟩ ⟨h,d,rfl,⟨rfl,_⟩,_⟩;have:=A3q x.1 y.1 c d w;rw[A7w]at this;exact this
def B2d:OZ prog 119 (SY 153 tE 106 (fun a b=>K6 a.1 b.1)):=by
 refine XO (tys:= []) (mR (ρ:=sortEnt_ren) sortEnt (t:=tE) (e:=106) (g:=153) (φ:=fun a b:C9=>K6 a.1 b.1) isAgg106 sizeOf106 (fun a=> ?_) (fun a b c=> ?_) (fun a b c=> ?_) (by kernel_rfl) B3o);all_goals (simp only[K6];(repeat' split)<;>omega)
def B1e (n:Int) (w:World):Calls prog 114 #[.int .i64 n] w fun e w'=>e= .returned (.func (.func 115) #[] #[.pointer (some ⟨w.heap.size,0,none⟩)])/\w'=w.alloc (.cells #[.int .i64 n] 3):=by
 go_enter func114,ntmps114
 go_wp2
 go_ret
 exact⟨rfl,rfl⟩
def B9g (k:A8 prog 115 J5):OZ prog 114 (A8v prog [(false, .int .i64)] false .bool (.int .i64) (fun n x=>decide (x.1<0\/n<=x.1))):=by
 refine A8w ?_;rintro w Z v n ⟨a,l⟩;obtain rfl:v= .int .i64 n:=by simpa using a
 refine Calls.mono (B1e _ w) ?_;rintro _ _ ⟨rfl,rfl⟩;have c:(w.alloc (.cells #[Value.int .i64 n] 3)).heap.size=w.heap.size+1:=by simp
 refine⟨_,rfl,R7.alloc w _,(fun b=>b=w.heap.size),fun b a=> .inr ⟨by omega,by rw[c,a];omega⟩,115,[.pointer (some ⟨w.heap.size,0,none⟩)],rfl,by kernel_rfl, ?_⟩;rintro d Z1 c ⟨i,_⟩ j g s ⟨f,h,rfl,r,rfl⟩ _;have c:(w.alloc (.cells #[Value.int .i64 n] 3)).heap[w.heap.size]? =some (.cells #[Value.int .i64 n] 3 (0,0)):=by rw[Yg];simp
 have h:d.heap[w.heap.size]? =some (.cells #[Value.int .i64 n] 3 (0,0)):=(j _ rfl).trans c;have o:Y6 prog d (fun b=>Z1 b\/b=w.heap.size) J5.args [f, .pointer (some ⟨w.heap.size,0,none⟩)] (i,n,()):=by
  refine⟨_,_,rfl, ?_,_,_,rfl, ?_,rfl⟩
  . exact r
  . exact⟨w.heap.size,0,[Value.int .i64 n],rfl, .inr rfl,fun j u c=>by
     rcases j with _ |j
     . simp only[g1k,rC]at c;subst c;rw[K5];simp[World.cell?,h]
     . simp at c,rfl,l⟩
 have:=k d (fun b=>Z1 b\/b=w.heap.size) [f, .pointer (some ⟨w.heap.size,0,none⟩)] (i,n,()) (fun b a=>a.elim (s b) fun e=>g b e) o trivial trivial;refine Gw.aT.mono this ?_;rintro u k ⟨c,⟨r,_⟩,o,h,Zn,d,_,rfl,g,⟨j,l,rfl,f,_,rfl⟩,_⟩;refine⟨c.ext fun b a=> ?_,Zn,fun b a=> ?_, ?_⟩
 . obtain⟨p,c,_⟩:=a;cases c
 . rcases g b a with h| ⟨h,_⟩
   . exact .inl h
   . cases h
 . have a:r=decide (i<0\/n<=i):=d;show Bb false .bool k Zn j (decide (i<0\/n<=i));rw[<-a];exact f
end Go.Proofs.YtiflhbllbgajeaaGreat
namespace Go.Proofs.YtiflhbllbgajeaaGreat
open Go.Proofs.Tryz
open Go.Vc Go.Gw
open Go.IntKind (i64)
def I6 {P:Program} {tys:List (Nat×TI)} {sp:H0} {f:FuncId} {fn:Func} {s:A7} {a:A2 s.args->Prop} (an:An) (c:P.funcs[f]? =some fn) (j:∀x,awf s.args x->s.pre x->a x) (i:H3 P tys=true) (h:Jc P sp) (b:∀x,B5m P tys sp an s fn x=a x:=by intro x;kernel_rfl) (a:fn.body.isSome=true:=by kernel_rfl) (d:Nat.ble s.args.length fn.ntmps=true:=by kernel_rfl) (g:X5 fn.ntmps (fn.body.getD .skip)=true:=by kernel_rfl):A8 P f s:=
 B0j c a d g i h b j
def Zp:A8 prog 115 J5:=I6 Yj func115 Tf A4 (A1)
def lW:A8 prog 26 Mu:=I6 jB func26 XZ A4 (A1)
def lV:A8 prog 69 Mt:=I6 jA func69 XY A4 (A1)
def Gr:A8 prog 32 Z8:=I6 JA func32 BF A4 (A0 lV (A1))
def Jh:A8 prog 34 Ir:=I6 jK func34 YW A4 (A1)
def R9:A8 prog 136 Mw:=I6 jD func136 YF A4 (A1)
def Ar:A8 prog 89 Mx:=I6 jE func89 YK A4 (A0 R9 (A1))
def PT:A8 prog 86 My:=I6 jF func86 YN A4 (A0 Ar (A1))
def PU:A8 prog 46 Mz:=I6 jG func46 YO A4 (A0 PT (A1))
def Ut:A8 prog 55 Jj:=I6 dW func55 SC A4 (A1)
def HT:A8 prog 59 Sl:=I6 oA func59 aK A4 (A0 Ar (A1))
def Oq:A8 prog 90 Ac:=I6 JF func90 BR A4 (A0 R9 (A1))
def WI:A8 prog 94 Sb:=I6 nR func94 aA A4 (A0 R9 (A1))
def WJ:A8 prog 138 Eu:=I6 TR func138 LO A4 (A0 R9 (A1))
def WK:A8 prog 95 Se:=I6 nU func95 aD A4 (A0 R9 (A0 WJ (A1)))
def ZU:A8 prog 164 Hd:=I6 ZI func164 OW A4 (A0 R9 (A1))
def lX:A8 prog 165 Mv:=I6 jC func165 YB A4 (A0 R9 (A1))
def pP:A8 prog 166 Sf:=I6 nV func166 aF A4 (A1)
def FY:A8 prog 133 Hc:=I6 ZH func133 OV A4 (A0 Oq (A0 WI (A0 WK (A0 R9 (A0 ZU (A0 lX (A0 pP (A1))))))))
def pN:A8 prog 132 Sc:=I6 nS func132 aB A4 (A0 FY (A0 R9 (A1)))
def pR:A8 prog 87 Sj:=I6 nY func87 aI A4 (A0 Ar (A0 pN (A1)))
def Mi:A8 prog 50 Ev:=I6 TS func50 LR A4 (A0 Ar (A0 Oq (A1)))
def HS:A8 prog 60 Si:=I6 nX func60 aH A4 (A0 Ar (A0 WI (A0 WK (A1))))
def pQ:A8 prog 134 Sg:=I6 nW func134 aG A4 (A0 Ar (A1))
def pS:A8 prog 135 Sm:=I6 oB func135 aL A4 (A0 HT (A0 HS (A1)))
def ZV:A8 prog 88 He:=I6 ZJ func88 OX A4 (A0 Mi (A0 HS (A0 Ar (A0 FY (A0 pQ (A0 pS (A1)))))))
def Fw:A8 prog 49 Na:=I6 jH func49 YR A4 (A0 Jh (A0 PU (A0 Ut (A0 HT (A0 PT (A0 pR (A0 ZV (A1))))))))
def NY:A8 prog 40 Sp:=I6 A3g func40 iI A4 (A0 Fw (A0 Mi (A1)))
def Xg:A8 prog 33 O8:=I6 Wx func33 Qm A4 (A0 Gr (A0 NY (A1)))
def NV:A8 prog 35 Bj:=I6 MH func35 FJ A4 (A0 Gr (A0 NY (A1)))
def RV:A8 prog 8 Da:=I6 QV func8 IH A4 (A0 lW (A0 Gr (A0 Xg (A0 Jh (A0 NV (A1))))))
def H1:A8 prog 141 Bv:=I6 TQ func141 LN A4 (A1)
def L2:A8 prog 101 W7:=I6 GR func101 Xy A4 (A0 H1 (A1))
def W1:A8 prog 100 Ag:=I6 JG func100 BY A4 (A0 L2 (A1))
def Wa:A8 prog 130 Cz:=I6 QU func130 IG A4 (A0 L2 (A1))
def G3:A8 prog 82 V7:=I6 MQ func82 FQ A4 (A0 W1 (A0 Wa (A1)))
def RQ:A8 prog 70 Cw:=I6 QP func70 ID A4 (A0 G3 (A1))
def Kg:A8 prog 167 Dc:=I6 QY func167 IK A4 (A1)
def KD:A8 prog 139 Aa:=I6 JD func139 BN A4 (A0 H1 (A0 Kg (A1)))
def Cc:A8 prog 98 Ah:=I6 JH func98 BZ A4 (A0 KD (A1))
def J8:A8 prog 140 O9:=I6 Wy func140 Qn A4 (A0 H1 (A1))
def Cs:A8 prog 99 R2:=I6 Yk func99 Tn A4 (A0 J8 (A1))
def Bf:A8 prog 143 Db:=I6 QX func143 IJ A4 (A0 H1 (A1))
def W0:A8 prog 146 Z7:=I6 IZ func146 BE A4 (A1)
def RU:A8 prog 142 Cy:=I6 QT func142 IF A4 (A0 Bf (A0 W0 (A1)))
def Rs:A8 prog 170 M6:=I6 Rb func170 Nn A4 (A0 J8 (A0 H1 (A1)))
def ZT:A8 prog 182 Hb:=I6 ZG func182 OT A4 (A1)
def Gq:A8 prog 188 J9:=I6 Tr func188 Nz A4 (A0 ZT (A1))
def HR:A8 prog 190 Q3:=I6 GV func190 Yb A4 (A1)
def Xh:A8 prog 192 L8:=I6 Wz func192 Qo A4 (A0 H1 (A1))
def Xi:A8 prog 171 P3:=I6 (sp:=Xr) Xa func171 Qp A4 (A0 H1 (A0 Gq (A0 HR (A0 Xh (Ex (HF (cx:=⟨prog,tys⟩) (fn:=f191) (c:=f191.body.getD .skip) func191 (by kernel_rfl) (by kernel_rfl) A4 (T5 (A1) (Ih))) (A1))))))
def Oo:A8 prog 145 Z9:=I6 JC func145 BJ A4 (A0 L2 (A0 J8 (A0 H1 (A0 Bf (A0 Kg (A0 Rs (A0 Xi (A1))))))))
def EX:A8 prog 201 U3:=I6 EL func201 Vs A4 (A1)
def KE:A8 prog 189 Ab:=I6 JE func189 BP A4 (A0 EX (A1))
def HQ:A8 prog 168 W9:=I6 GU func168 Ya A4 (A0 Gq (A0 KE (A1)))
def Gt:A8 prog 105 Es:=I6 TO func105 LK A4 (A0 H1 (A1))
def Zq:A8 prog 148 Et:=I6 TP func148 LM A4 (A0 L2 (A0 H1 (A1)))
def HP:A8 prog 169 W8:=I6 GT func169 Xz A4 (A0 Gt (A0 J8 (A0 Zq (A1))))
def WH:A8 prog 144 Er:=I6 TN func144 LJ A4 (A0 L2 (A0 J8 (A0 H1 (A0 Bf (A0 Oo (A0 Kg (A0 HQ (A0 HP (A1)))))))))
def Fi:A8 prog 102 X0:=I6 GW func102 Yc A4 (A0 RU (A0 Bf (A0 WH (A0 Oo (A1)))))
def S5:A8 prog 97 V6:=I6 MP func97 FP A4 (A0 Cc (A0 Cs (A0 W1 (A0 Fi (A1)))))
def WE:A8 prog 110 Eo:=I6 TL func110 LF A4 (A0 Bf (A0 W0 (A1)))
def Wb:A8 prog 71 Ae:=I6 RG func71 IQ A4 (A0 S5 (A0 WE (A1)))
def Wc:A8 prog 111 Dg:=I6 RJ func111 IT A4 (A0 G3 (A1))
def WG:A8 prog 147 Ep:=I6 TM func147 LI A4 (A0 H1 (A1))
def WC:A8 prog 103 Em:=I6 TJ func103 LD A4 (A0 W0 (A0 WG (A0 Zq (A1))))
def Mg:A8 prog 104 En:=I6 TK func104 LE A4 (A0 Gt (A0 W0 (A1)))
def Bg:A8 prog 65 Dd:=I6 QZ func65 IL A4 (A0 G3 (A0 S5 (A0 Cc (A0 Cs (A0 W1 (A0 L2 (A0 Fi (A0 WC (A0 Mg (A0 Gt (A1)))))))))))
def Km:A8 prog 151 U7:=I6 EQ func151 Vx A4 (A1)
def Ef:A8 prog 174 F1:=I6 Ed func174 Cj A4 (A1)
def Hs:A8 prog 193 Iv:=lJ fun _ h=>h
def Ji:A8 prog 173 H2:=I6 Je func173 Hm A4 (A0 Ef (A0 Hs (A1)))
def Dw:A8 prog 152 E8:=I6 Dp func152 Cb A4 (A0 Ji (A1))
def NT:A8 prog 157 Bi:=I6 MG func157 FF A4 (A1)
def Mf:A8 prog 121 W3:=I6 GN func121 Xu A4 (A0 NT (A1))
def KI:A8 prog 153 Ak:=I6 JM func153 CH A4 (A0 Mf (A1))
def Ou:A8 prog 112 Aj:=I6 JL func112 CG A4 (A0 Bg (A0 Km (A0 Dw (A0 KI (A1)))))
def OC:A8 prog 113 Bo:=I6 MR func113 FR A4 (A0 S5 (A1))
def Mk:A8 prog 72 Bz:=I6 TV func72 LY A4 (A0 Wc (A0 Ou (A0 OC (A1))))
def EW:A8 prog 36 T9:=I6 EF func36 Vr TB (A0 RQ (A0 Wb (A0 Mk (A1))))
def KG:A8 prog 73 Ai:=I6 JJ func73 CC A4 (A1)
def Zr:A8 prog 74 R3:=I6 Yl func74 Tp A4 (A1)
def Gu:A8 prog 76 N8:=I6 Ua func76 Oc A4 (A1)
def Xm:A8 prog 75 P6:=I6 Xd func75 Qs A4 (A0 Gu (A1))
def EZ:A8 prog 37 U6:=I6 EO func37 Vv A4 (A0 KG (A0 Zr (A0 Xm (A0 Gu (A1)))))
def Ff:A8 prog 44 Af:=I6 RH func44 IR A4 (A0 Bg (A1))
def V3:A8 prog 67 U5:=I6 RE func67 IP A4 (A0 Cc (A0 Cs (A0 W1 (A0 Fi (A0 Mg (A0 Gt (A1)))))))
def Om:A8 prog 117 S7:=I6 JB func117 BG A4 (A1)
def RZ:A8 prog 131 Df:=I6 RI func131 IS A4 (A0 G3 (A0 Km (A1)))
def Fe:A8 prog 85 U2:=I6 QW func85 II A4 (A0 Om (A0 RZ (A1)))
def Kh:A8 prog 154 I0:=I6 Jz func154 Ht A4 (A1)
def Hr:A8 prog 116 F2:=I6 Hq func116 Fl A4 (A0 Kh (A1))
def NW:A8 prog 77 V4:=I6 (sp:=OM) MI func77 FK TB (A0 Fe (A0 S5 (Ex (B9g Zp) (A0 Hr (A0 Om (Ex B5o (Ex (HF (cx:=⟨prog,B6h⟩) (fn:=f118) (c:=f118.body.getD .skip) func118 (by kernel_rfl) (by kernel_rfl) TB (T5 (A1) (Ih))) (A1))))))))
def HO:A8 prog 126 W6:=I6 GQ func126 Xx A4 (A0 J8 (A0 W0 (A1)))
def M9:A8 prog 79 L3:=I6 EN func79 Vu A4 (A0 HO (A1))
def Qd:A8 prog 45 Dz:=I6 ZK func45 OY A4 (A0 Bg (A0 M9 (A1)))
def Rt:A8 prog 162 M7:=I6 Rc func162 Ns A4 (A1)
def KH:A8 prog 125 S9:=I6 JK func125 CF A4 (A0 Mk (Ex B2d (A0 Rt (A1))))
def RY:A8 prog 160 Ad:=I6 RB func160 IN A4 (A0 G3 (A0 S5 (A1)))
def Xn:A8 prog 184 P7:=I6 Xe func184 Qt A4 (A0 Bg (A0 V3 (A0 G3 (A0 S5 (A1)))))
def FA:A8 prog 161 O1:=I6 EP func161 Vw A4 (A0 Wc (A0 Ou (A0 Xn (A1))))
def NU:A8 prog 78 N2:=I6 (sp:=Sw) Qy func78 FH EB (A0 M9 (A0 Fe (A0 KH (Ex (HF (cx:=⟨prog,SB⟩) (fn:=f122) (c:=f122.body.getD .skip) func122 (by kernel_rfl) (by kernel_rfl) EB (T5 (A0 Mk (A1)) (Ih))) (Ex (HF (cx:=⟨prog,SB⟩) (fn:=f123) (c:=f123.body.getD .skip) func123 (by kernel_rfl) (by kernel_rfl) EB (T5 (Ex (HF (cx:=⟨prog,SB⟩) (fn:=f158) (c:=f158.body.getD .skip) func158 (by kernel_rfl) (by kernel_rfl) EB (T5 (A1) (T5 (A1) (T5 (A1) (T5 (A1) (Ih)))))) (A1)) (Ih))) (Ex (HF (cx:=⟨prog,SB⟩) (fn:=f124) (c:=f124.body.getD .skip) func124 (by kernel_rfl) (by kernel_rfl) EB (T5 (A0 Qd (A0 V3 (A0 Wb (A0 RY (A0 FA (Ex (HF (cx:=⟨prog,SB⟩) (fn:=f159) (c:=f159.body.getD .skip) func159 (by kernel_rfl) (by kernel_rfl) EB (T5 (A1) (T5 (A1) (Ih)))) (A1))))))) (Ih))) (A1))))))) FG
def Rr:A8 prog 185 M5:=I6 Ra func185 Ni A4 (A1)
def Us:A8 prog 186 N6:=I6 Tx func186 Oa A4 (A0 Fe (A1))
def HM:A8 prog 204 W4:=I6 GO func204 Xv A4 (A1)
def Zm:A8 prog 199 R0:=I6 Yh func199 Tb A4 (A0 HM (A1))
def HN:A8 prog 200 W5:=I6 GP func200 Xw A4 (A0 L2 (A0 Wa (A1)))
def EY:A8 prog 187 U4:=I6 EM func187 Vt A4 (A0 G3 (A0 Cc (A0 W1 (A0 Mg (A0 Mf (A0 Zm (A0 HN (A1))))))))
def Zo:A8 prog 163 R1:=I6 Yi func163 Tc A4 (A0 M9 (A0 Rr (A0 Us (A0 EY (A1)))))
def KB:A8 prog 127 Z6:=I6 IX func127 AY A4 (A0 Zo (A1))
def WB:A8 prog 128 Ek:=I6 TH func128 LB A4 (A0 Ff (A0 V3 (A0 G3 (A1))))
def RX:A8 prog 129 De:=I6 RA func129 IM A4 (A0 V3 (A0 G3 (A1)))
def RR:A8 prog 80 Z4:=I6 QR func80 IE A4 (A0 KB (A0 WB (A0 RX (A1))))
def Mj:A8 prog 81 G8:=I6 Lv func81 Jv A4 (A0 M9 (A1))
def Qc:A8 prog 38 G4:=I6 Eh func38 Lh TB (A0 Ff (A0 V3 (A0 NW (A0 NU (A0 M9 (A0 RR (A0 Mj (A0 G3 (A1))))))))) Lg
def Xk:A8 prog 39 P5:=I6 Xc func39 Qr A4 (A0 Ff (A0 Qd (A0 Bg (A0 V3 (A0 M9 (A0 G3 (A1)))))))
def Ot:A8 prog 9 S8:=I6 JI func9 CB A4 (A0 EW (A0 EZ (A0 Qc (A0 Xk (A1)))))
def WN:A8 prog 16 Bw:=I6 TT func16 LU A4 (A0 Fw (A0 Mi (A1)))
def Fx:A8 prog 47 Nb:=I6 jI func47 YU A4 (A0 Fw (A1))
def PV:A8 prog 14 Nc:=I6 jJ func14 YV A4 (A0 PU (A0 Fx (A1)))
def pO:A8 prog 93 Sd:=I6 nT func93 aC A4 (A0 R9 (A1))
def WL:A8 prog 56 Sk:=I6 nZ func56 aJ A4 (A0 Ar (A0 pO (A1)))
def HU:A8 prog 57 Sq:=I6 oF func57 aP A4 (A0 Fx (A1))
def WM:A8 prog 24 Sn:=I6 oC func24 aM A4 (A0 Fx (A0 Fw (A0 WL (A0 HU (A0 HS (A1))))))
def WP:A8 prog 61 Sr:=I6 oG func61 aQ A4 (A0 WM (A0 Jh (A1)))
def WQ:A8 prog 137 Ew:=I6 TU func137 LV A4 (A1)
def lY:A8 prog 91 Nf:=I6 jL func91 YZ A4 (A0 PV (A0 WP (A0 WQ (A1))))
def NZ:A8 prog 51 Bm:=I6 MK func51 FM A4 (A0 lY (A1))
def lZ:A8 prog 17 Iu:=I6 jM func17 ZA A4 (A0 NZ (A1))
def gJ:A8 prog 54 Jk:=I6 dX func54 SD A4 (A0 Ut (A1))
def Uu:A8 prog 20 Jl:=I6 dY func20 SE A4 (A0 gJ (A0 Ut (A1)))
def NX:A8 prog 68 Bl:=I6 MJ func68 FL A4 (A0 Uu (A0 Fx (A1)))
def OA:A8 prog 53 Bn:=I6 MN func53 FN A4 (A0 Uu (A0 NX (A1)))
def OB:A8 prog 19 V5:=I6 MO func19 FO A4 (A0 OA (A1))
def WO:A8 prog 23 Lq:=I6 oE func23 aO A4 (A0 Fx (A0 Fw (A0 HU (A0 HT (A1)))))
def KC:A8 prog 41 S6:=I6 IY func41 BA A4 (A1)
def WF:A8 prog 10 H7:=ZR (A0 Ot (A0 WN (A0 lZ (A0 OB (A0 WO (A0 Jh (A0 NY (A0 KC (A1))))))))) LH
def Xj:A8 prog 43 P4:=I6 Xb func43 Qq A4 (A0 Fe (A1))
def Uv:A8 prog 13 N7:=I6 Tz func13 Ob A4 (A0 Xj (A0 Ff (A0 Qd (A1))))
def pT:A8 prog 21 So:=I6 oD func21 aN A4 (A0 Fx (A0 Fw (A0 WL (A0 HU (A1)))))
def gL:A8 prog 58 Jm:=I6 dZ func58 SF A4 (A0 PV (A1))
def KF:A8 prog 22 Jn:=I6 eC func22 SG A4 (A0 gL (A1))
def A5a:A8 prog 25 AE:=I6 A3h func25 iJ A4 (A0 KF (A0 Jh (A0 WP (A1))))
def Mh:A8 prog 6 F6:=I6 Lu func6 Js A4 (A0 RV (A0 Ot (A0 WF (A0 Uv (A0 Uu (A0 pT (A0 KF (A0 WO (A0 WM (A0 A5a (A1)))))))))))
end Go.Proofs.YtiflhbllbgajeaaGreat
