/- Part. -/
import Derived.Shelf.SlSortCmp.NoneTotal
import Derived.Lib.QuietBelow
import Derived.Shelf.SlGeneric
import Derived.Shelf.SlicesG.Cmp
import Derived.Ground.SlsfProg
import Derived.Ground.SlgcProg
import Derived.Test.YtiflhbllbgajeaaGreatProg
import Derived.Test.YtiflhbllbgajeaaGreatKAI
set_option linter.all false
namespace Go.Proofs.YtiflhbllbgajeaaGreat
open Go.Proofs.Tryz
open Go.Vc Go.Gw
open Go.IntKind (i64 u32)
def C5u (s:Xr) (p:Int×List C0×Unit):Prop:=0<=p.1/\p.1<=(s.length:Int)/\p.2.1.length=s.length/\∀c,c<s.length->∃q,p.2.1.getD c zr=rc q/\qs (if s.getD c 0=(c:Int)then 2*p.1.toNat+1 else 1) q
def bS (s:Xr) (z:List C0) (k c:Nat):Rat:=B7 k fun j=>if j≠c/\s.getD j 0=(c:Int)then O3 z j else 0
def C5v (s:Xr) (z:List C0) (p:Int×List C0×Unit):Prop:=0<=p.1/\p.1<=(s.length:Int)/\p.2.1.length=s.length/\∀c,c<s.length->p.2.1.getD c zr=if s.getD c 0=(c:Int)/\(c:Int)<p.1 then rc (-bS s z s.length c)else z.getD c zr
def C5w (s:Xr) (z:List C0) (b:Nat) (p:Int×Bool×Xr×Xr×Unit):Prop:=0<=p.1/\p.1<=(s.length:Int)/\((p.2.1,p.2.2.1),p.2.2.2.1)=rc (bS s z p.1.toNat b)
def Sr (x:A2 Q6.args) (i:awf Q6.args x) (aw:Q6.pre x):Jf x:=by
 obtain⟨⟨aj,ti⟩,s,_⟩:=x;change Xr at aj s;change Int at ti;obtain⟨bf,ax,az,b0⟩:s.length<=7/\(∀b∈s,0<=b/\b<(s.length:Int)/\s.getD b.toNat 0=b)/\0<=ti/\ti<=(aj.length:Int):=aw;have aa:∀c,c<s.length->0<=s.getD c 0/\s.getD c 0<(s.length:Int)/\s.getD (s.getD c 0).toNat 0=s.getD c 0:=fun c a=>ax _ (B4 a)
 simp only[Jf,iB,H4];refine⟨⟨show(s.length:Int)<=1000 by omega,az,b0⟩, ?_⟩;rintro⟨a1,_⟩ ⟨⟨bh,bg⟩,_⟩ _ _ ⟨W,a9⟩ ⟨af,ag,ah⟩;change List C0 at a1;simp only at W a9 af ag ah⊢;have W:a1.length=s.length:=by omega
 refine⟨C5u s,fun p=>((s.length:Int)-p.1).toNat,⟨qG _,qD _,W,fun c a=> ?_⟩, ?_⟩
 . obtain⟨q,b5,b6⟩:=a9 _ (B4 (d:=zr) (show c<a1.length by omega));exact⟨q,b6,F8 b5 (by split<;>omega)⟩
 rintro⟨r,z,_⟩ _ ⟨E,b3,B,A⟩;change Int at r;change List C0 at z;simp only at E b3 B A⊢;refine⟨fun o=> ?_,fun o=> ?_⟩
 . have o:=qA o;have O:r.toNat<s.length:=by omega
   have U:gx 0 s r=s.getD r.toNat 0:=E5 E o;rw[U];obtain⟨b9,ba,ai⟩:=aa _ O;have au:((r.toNat:Nat):Int)=r:=by omega
   generalize a:s.getD r.toNat 0=c at*;have a6:c.toNat<s.length:=by omega
   have a5:((c.toNat:Nat):Int)=c:=by omega
   obtain⟨b7,c1,Q⟩:=A _ a6;obtain⟨b8,R,T⟩:=A _ O;rw[ai,a5,qP rfl]at Q;refine⟨fun p=>p.1.length=s.length/\∀c,c<s.length->∃q,p.1.getD c zr=rc q/\qs (if s.getD c 0=(c:Int)then 2*(r+1).toNat+1 else 1) q,⟨⟨E,o⟩,fun w=> ?_,fun N=>⟨B,fun c a=> ?_⟩⟩, ?_⟩
   . have w:=qA w;rw[a,au,qL w]at T;have c1:z.getD c.toNat dQ=rc b7:=c1;have R:z.getD r.toNat dQ=rc b8:=R;have a7:0<=c/\c<(z.length:Int):=⟨b9,by rw[B];exact ba⟩;rw[c1,R];refine⟨⟨E,o⟩,⟨E,o⟩,a7,⟨E,by rw[B];exact o⟩,⟨J7 Q (by omega),J7 T (by decide)⟩, ?_⟩;rintro⟨F,_⟩ _ i;change C0 at F;simp only at i⊢;rw[D7,D7]at i;refine⟨a7,by rw[qJ];exact B,fun a2 ap=> ?_⟩;by_cases a4:a2=c.toNat
     . subst a4;rw[A9 (by rw[B];exact a6),ai,a5,qP rfl,i];exact⟨_,rfl,F8 (Si Q T) (by omega)⟩
     . rw[C9 a4];obtain⟨q,n,g⟩:=A a2 ap;exact⟨q,n,F8 g (by split<;>omega)⟩
   . obtain⟨q,n,g⟩:=A c a;exact⟨q,n,F8 g (by split<;>omega)⟩
   . rintro⟨I,_⟩ _ ⟨u,y⟩;simp only at u y⊢;rw[wv (by omega)];exact⟨⟨by simp only;omega,by simp only;omega,u,y⟩,by omega⟩
 have o:=qB o;have O:r.toNat=s.length:=by omega
 rw[O]at A;have a0:∀c,c<s.length->s.getD c 0≠(c:Int)->∃q,z.getD c zr=rc q/\qs 1 q:=fun c a w=>by
  obtain⟨q,n,g⟩:=A c a;rw[qL w]at g;exact⟨q,n,g⟩
 have Y:∀k c,k<=s.length->qs (k*2+1) (bS s z k c):=fun k c v=>OH fun j hj=>by
  split
  . rename_i H;obtain⟨q,n,g⟩:=a0 j (by omega) (fun e=>H.1 (by omega));unfold O3;rw[n,D7];exact g
  . exact N3 (by decide)
 refine⟨C5v s z,fun p=>((s.length:Int)-p.1).toNat,⟨qG _,qD _,B,fun c a=>(qL (by simp only;omega)).symm⟩, ?_⟩;rintro⟨b,I,_⟩ _ ⟨J,am,u,y⟩;change Int at b;change List C0 at I;simp only at J am u y⊢;refine⟨fun l=> ?_,fun l=> ?_⟩
 . have l:=qA l;have aq:b.toNat<s.length:=by omega
   have M:((b.toNat:Nat):Int)=b:=by omega
   have U:gx 0 s b=s.getD b.toNat 0:=E5 J l;rw[U];refine⟨fun p=>p.1.length=s.length/\∀c,c<s.length->p.1.getD c zr=if s.getD c 0=(c:Int)/\(c:Int)<b+1 then rc (-bS s z s.length c)else z.getD c zr,⟨⟨J,l⟩,fun N=>⟨trivial, ?_⟩,fun w=>⟨u,fun c a=> ?_⟩⟩, ?_⟩
   . have N:=qA N;rintro⟨be,_⟩ _ ae;change C0 at be;simp only at ae⊢;refine⟨C5w s z b.toNat,fun p=>((s.length:Int)-p.1).toNat,⟨qG _,qD _,by rw[ae];rfl⟩, ?_⟩;rintro⟨k,bb,bc,bd,_⟩ _ ⟨P,b4,Z⟩;change Int at k;change Bool at bb;change Xr at bc bd;simp only at P b4 Z⊢;rw[Z];refine⟨fun v=> ?_,fun v=> ?_⟩
     . have v:=qA v;have a8:k.toNat<s.length:=by omega
       have an:gx 0 s k=s.getD k.toNat 0:=E5 P v;rw[an];have ab:bS s z (k+1).toNat b.toNat=bS s z k.toNat b.toNat+if k.toNat≠b.toNat/\s.getD k.toNat 0=((b.toNat:Nat):Int)then O3 z k.toNat else 0:=by
        rw[show(k+1).toNat=k.toNat+1 from by omega];rfl
       refine⟨fun p=>((p.1,p.2.1),p.2.2.1)=rc (bS s z (k+1).toNat b.toNat),⟨fun _=>⟨P,v⟩,fun a=> ?_,fun a=> ?_⟩, ?_⟩
       . rw[J6]at a;simp only[qC,rT]at a;obtain⟨n,g⟩:=a;have b2:I.getD k.toNat dQ=z.getD k.toNat zr:=by
          have:=y k.toNat a8;rw[qL (by rw[g];omega)]at this;exact this
         obtain⟨q,a3,ao⟩:=a0 k.toNat a8 (by rw[g];omega);rw[b2,a3];refine⟨⟨P,by rw[u];exact v⟩,⟨J7 (Y k.toNat b.toNat (by omega)) (by omega),J7 ao (by decide)⟩, ?_⟩;rintro⟨F,_⟩ _ i;change C0 at F;simp only at i⊢;rw[i,D7,D7,ab,qP ⟨by omega,by rw[g,M]⟩];unfold O3;rw[a3,D7]
       . have av:¬(k.toNat≠b.toNat/\s.getD k.toNat 0=((b.toNat:Nat):Int)):=fun⟨n,g⟩=>by
          rw[J6,rD (show k≠b by omega),rD (show s.getD k.toNat 0=b by rw[g,M])]at a;cases a
         simp only;rw[ab,qL av,rL];exact Z
       . rintro⟨bi,bj,bk,_⟩ _ ac;simp only at ac⊢;rw[wv (by omega)];exact⟨⟨by simp only;omega,by simp only;omega,ac⟩,by omega⟩
     . have v:=qB v;rw[show k.toNat=s.length from by omega];have b1:=Y s.length b.toNat (qZ _);refine⟨J7 b1 (by omega), ?_⟩;rintro⟨F,_⟩ _ i;change C0 at F;simp only at i⊢;rw[D7]at i;refine⟨⟨J,by rw[u];exact l⟩,by rw[qJ];exact u,fun c a=> ?_⟩;by_cases V:c=b.toNat
       . subst V;rw[A9 (by rw[u];exact aq),qP ⟨by rw[N,M],by omega⟩];exact i
       . rw[C9 V,y c a];by_cases f:s.getD c 0=(c:Int)
         . by_cases G:(c:Int)<b
           . rw[qP ⟨f,G⟩,qP ⟨f,by omega⟩]
           . rw[qL fun h=>G h.2,qL fun h=>by omega]
         . rw[qL fun h=>f h.1,qL fun h=>f h.1]
   . have w:=qB w;simp only;rw[y c a];by_cases f:s.getD c 0=(c:Int)
     . have V:c≠b.toNat:=fun e=>by subst e;exact w (by rw[f,M])
       by_cases G:(c:Int)<b
       . rw[qP ⟨f,G⟩,qP ⟨f,by omega⟩]
       . rw[qL fun h=>G h.2,qL fun h=>by omega]
     . rw[qL fun h=>f h.1,qL fun h=>f h.1]
   . rintro⟨F,_⟩ _ ⟨ak,i⟩;simp only at ak i⊢;rw[wv (by omega)];exact⟨⟨by simp only;omega,by simp only;omega,ak,i⟩,by omega⟩
 have l:=qB l;have ad:∀c,c<s.length->I.getD c zr=if s.getD c 0=(c:Int)then rc (-bS s z s.length c)else z.getD c zr:=fun c a=>by
  rw[y c a];by_cases f:s.getD c 0=(c:Int)
  . rw[qP ⟨f,by omega⟩,qP f]
  . rw[qL fun h=>f h.1,qL f]
 refine⟨⟨u,fun t ay=> ?_,fun e ar=> ?_⟩,af,ag,ah⟩
 . by_cases X:s.getD t 0=(t:Int)
   . have:B7 s.length (fun b=>(if s.getD b 0=(t:Int)then 1 else 0)*O3 I b)=B7 s.length (fun b=>(if b=t then-bS s z s.length t else 0)+if b≠t/\s.getD b 0=(t:Int)then O3 z b else 0):=B6 fun b l=>by
      unfold O3;rw[ad b l];by_cases D:b=t
      . subst D;rw[qP X,qP X,qP rfl,qL (show¬(b≠b/\s.getD b 0=(b:Int))from fun h=>h.1 rfl),D7,wU,rL]
      . by_cases H:s.getD b 0=(t:Int)
        . rw[qP H,qL (by rw[H];omega),qL D,qP ⟨D,H⟩,wU,tG]
        . rw[qL H,qL D,qL (show¬(b≠t/\s.getD b 0=(t:Int))from fun h=>H h.2),sZ,rL]
     rw[this,Ax,O4 ay fun b _ D=>qL D,qP rfl];show-bS s z s.length t+bS s z s.length t=0;grind
   . refine X6 fun b l=> ?_
     have:=aa b l;rw[qL (fun e=>X (by rw[e,qH]at this;exact this.2.2)),sZ]
 . obtain⟨c,a,rfl⟩:=P3 zr ar;rw[ad c (by omega)];split
   . exact⟨_,F8 (SG (Y s.length c (qZ _))) (by omega),rfl⟩
   . rename_i f;obtain⟨q,n,g⟩:=a0 c (by omega) f;exact⟨q,F8 g (by decide),n⟩
def Ss (x:A2 Q7.args) (y:awf Q7.args x) (o:Q7.pre x):Jg x:=by
 obtain⟨⟨l,i⟩,_⟩:=x;change Int at i;change Xr at l;obtain⟨v,w⟩:0<=i/\i<=(l.length:Int):=o;simp only[Jg,H4];refine⟨⟨by omega,v,w⟩, ?_⟩;rintro⟨f,_⟩ ⟨⟨t,r⟩,_⟩ _ _ k a;change Int at r f;change Xr at t;simp only at k a⊢;obtain⟨rfl,c,d⟩:=a;refine⟨⟨by omega,c,d⟩, ?_⟩;rintro⟨g,_⟩ ⟨⟨u,s⟩,_⟩ _ _ n a;change Int at s g;change Xr at u;simp only at n a⊢;obtain⟨rfl,c,d⟩:=a;refine⟨trivial, ?_⟩;rintro⟨q,_⟩ _ b;simp only at b⊢;rw[wv (by omega),wv (by omega)]at b;refine⟨⟨by rw[b];exact Ql (by omega) (by omega) (by omega), ?_⟩,by trivial,c,d⟩;rw[b,D7,KB (by omega),zW];have h:(0:Rat)<((1+f:Int):Rat):=Rat.intCast_pos.2 (by omega);have j:(0:Rat)<((1+g).natAbs:Rat):=g2i.2 (by omega);exact(Rat.lt_div_iff j).2 (by rw[sZ];exact h)
def Np:An:= {plan:= [(3,[0,1,4,6],[7],true,(.q 0 (.q 1 (.p 2 (.p 3 (.q 4 (.p 5 (.q 6 (.e 7 .done)))))))))]}
def Zy:An:= {join:= [(8,⟨[1,2,7,8,9,10,12,13,14],[1,2],[],[(3,43,[.val .bool, .val (.sl (.int .u32)), .val (.sl (.int .u32))])],[]⟩),(11,⟨[1,2,12,13,14],[],[(7,false,[.own tE 106])],[],[]⟩)],loop:= [(3,⟨[1,2,12,13],[],[(7,false,[.own tE 106]),(14,false,vI)],[],[]⟩)],plan:= [(5,[2,6],[10],true,(.p 0 (.p 1 (.q 2 (.p 4 (.p 5 (.q 6 (.or 3 (.or 7 (.or 8 (.e 9 (.e 10 .done)) (.e 9 (.e 8 (.e 10 .done)))) (.e 9 (.e 7 (.e 8 (.e 10 .done))))) (.e 9 (.e 3 (.e 7 (.e 8 (.e 10 .done))))))))))))),(7,[0],[3],true,(.q 0 (.e 1 (.e 2 (.e 3 .done)))))]}
def Zx:An:= {}
def Es:A2 H5.args->Prop:=fun(x:Int×Xr×List QQ×Unit)=>let a:=(0:Int);let b:Prop:=(a<=x.1/\x.1<(x.2.1.length:Int));b/\(iB (decide (gx a x.2.1 x.1<a)) (True/\H4 fun r=>r.1=ri a->(r.1=if D9 x.2.1 x.1<a then rc (0:Rat)else x.2.2.1.getD (D9 x.2.1 x.1).toNat zr)/\x.2.1=x.2.1/\x.2.2.1=x.2.2.1) (b/\(a<=gx a x.2.1 x.1/\gx a x.2.1 x.1<(x.2.2.1.length:Int))/\(gx dQ x.2.2.1 (gx a x.2.1 x.1)=if D9 x.2.1 x.1<a then rc (0:Rat)else x.2.2.1.getD (D9 x.2.1 x.1).toNat zr)/\x.2.1=x.2.1/\x.2.2.1=x.2.2.1))
def Jl:A2 R1.args->Prop:=fun(x:(Int×List (Int×Int×QQ×(Bool×Xr)×Xr))×Int×List EE×Unit)=>let u:=(64:Nat);let s:=(1:Int);let f:=(140737488355328:Nat);let d:=(x.1.2.length:Int);let c:=(0:Int);∃(I:SR->Prop),∃(B: _->Nat),I ([],c,())/\∀(p:SR),let t:=(p.1,());let b:Prop:=(p.2.1=x.2.1);let a:=(gx (c,c,dQ,(false,[]),[]) x.1.2 p.2.1);tE.sl.wf p.1/\(Ty.int i64).wf p.2.1/\True->I p->(iB (decide (p.2.1<d)) (∃(J:EH->Prop),((c<=p.2.1/\p.2.1<d)/\(KP K1 x.2.2.1/\H4 fun r=>r.1=rc (A5 x.2.2.1 a.2.1)->(KP K1 x.2.2.1/\H4 fun A=>let v:=(rv r.1-rv A.1);A.1=rc (A5 x.2.2.1 a.1)->((D8 r.1/\D8 A.1)/\H4 fun z=>z.1=rc v->∃(J_1:HZ->Prop),((iB (decide b) (True/\H4 fun r=>r.1=ri s->(D8 z.1/\D8 r.1)/\H4 fun y=>y.1=rc (rv z.1+rv r.1)->J_1 (y.1.1.1,y.1.1.2,y.1.2,())) (J_1 (z.1.1.1,z.1.1.2,z.1.2,()))))/\∀(w:HZ),let h:=((w.1,w.2.1),w.2.2.1);Ty.bool.wf w.1/\(Ty.int u32).sl.wf w.2.1/\(Ty.int u32).sl.wf w.2.2.1/\True->J_1 w->(D8 a.2.2.1/\D8 h)/\H4 fun r=>let m:=(p.2.1,r.1);r.1=rc (rv a.2.2.1*rv h)->True/\Cw fun y=>y.1=(rv r.1).num.sign->(iB (decide (y.1≠c)) (((p.1.length+ [m].length)*u<=f/\p.1.length+ [m].length<=9223372036854775807)/\J (p.1++ [m],())) (J t)))/\(D8 r.1/\D8 A.1)/\H4 fun z=>z.1=rc v->∃(J_1:HZ->Prop),((iB (decide b) (True/\H4 fun r=>r.1=ri s->(D8 z.1/\D8 r.1)/\H4 fun y=>y.1=rc (rv z.1+rv r.1)->J_1 (y.1.1.1,y.1.1.2,y.1.2,())) (J_1 (z.1.1.1,z.1.1.2,z.1.2,()))))/\∀(w:HZ),let i:=((w.1,w.2.1),w.2.2.1);Ty.bool.wf w.1/\(Ty.int u32).sl.wf w.2.1/\(Ty.int u32).sl.wf w.2.2.1/\True->J_1 w->(D8 a.2.2.1/\D8 i)/\H4 fun r=>let n:=(p.2.1,r.1);r.1=rc (rv a.2.2.1*rv i)->True/\Cw fun y=>y.1=(rv r.1).num.sign->(iB (decide (y.1≠c)) (((p.1.length+ [n].length)*u<=f/\p.1.length+ [n].length<=9223372036854775807)/\J (p.1++ [n],())) (J t)))/\KP K1 x.2.2.1/\H4 fun A=>A.1=rc (A5 x.2.2.1 a.1)->(D8 r.1/\D8 A.1)/\H4 fun z=>z.1=rc (rv r.1-rv A.1)->∃(J_1:HZ->Prop),((iB (decide b) (True/\H4 fun r=>r.1=ri s->(D8 z.1/\D8 r.1)/\H4 fun y=>y.1=rc (rv z.1+rv r.1)->J_1 (y.1.1.1,y.1.1.2,y.1.2,())) (J_1 (z.1.1.1,z.1.1.2,z.1.2,()))))/\∀(w:HZ),let k:=((w.1,w.2.1),w.2.2.1);Ty.bool.wf w.1/\(Ty.int u32).sl.wf w.2.1/\(Ty.int u32).sl.wf w.2.2.1/\True->J_1 w->(D8 a.2.2.1/\D8 k)/\H4 fun r=>let o:=(p.2.1,r.1);r.1=rc (rv a.2.2.1*rv k)->True/\Cw fun y=>y.1=(rv r.1).num.sign->(iB (decide (y.1≠c)) (((p.1.length+ [o].length)*u<=f/\p.1.length+ [o].length<=9223372036854775807)/\J (p.1++ [o],())) (J t)))/\KP K1 x.2.2.1/\H4 fun r=>r.1=rc (A5 x.2.2.1 a.2.1)->KP K1 x.2.2.1/\H4 fun A=>A.1=rc (A5 x.2.2.1 a.1)->(D8 r.1/\D8 A.1)/\H4 fun z=>z.1=rc (rv r.1-rv A.1)->∃(J_1:HZ->Prop),((iB (decide b) (True/\H4 fun r=>r.1=ri s->(D8 z.1/\D8 r.1)/\H4 fun y=>y.1=rc (rv z.1+rv r.1)->J_1 (y.1.1.1,y.1.1.2,y.1.2,())) (J_1 (z.1.1.1,z.1.1.2,z.1.2,()))))/\∀(w:HZ),let l:=((w.1,w.2.1),w.2.2.1);Ty.bool.wf w.1/\(Ty.int u32).sl.wf w.2.1/\(Ty.int u32).sl.wf w.2.2.1/\True->J_1 w->(D8 a.2.2.1/\D8 l)/\H4 fun r=>let q:=(p.2.1,r.1);r.1=rc (rv a.2.2.1*rv l)->True/\Cw fun y=>y.1=(rv r.1).num.sign->(iB (decide (y.1≠c)) (((p.1.length+ [q].length)*u<=f/\p.1.length+ [q].length<=9223372036854775807)/\J (p.1++ [q],())) (J t)))/\∀(w:EH),let g:=(w.1,i64.wrap (p.2.1+s),());tE.sl.wf w.1/\True->J w->I g/\B g<B p) (Ae p.1/\(∀(e:D6),e∈p.1->c<=e.1/\e.1<(↑x.1.2.length:Int))/\∀(j:Nat),j<x.1.2.length->A5 p.1 (↑j:Int)=Gz x.1.2 j*(A5 x.2.2.1 (↑(W9 x.1.2 j):Int)-A5 x.2.2.1 (↑(W8 x.1.2 j):Int)+if(↑j:Int)=x.2.1 then(1:Rat)else(0:Rat))))
def Jk:A2 R0.args->Prop:=fun(x:(Xr×MM×Int×Int×List (List EE))×Unit)=>True/\Ni fun r=>r.1=decide (D1 x.1.2.1)->((!r.1)=false->True)/\∀(a:V4),((!r.1)=false->(True/\True)/\a.1=decide (D1 x.1.2.2))->(iB ((L8 (!r.1) true !a.1)) (false=decide (Ph x.1)) (L8 (L8 (decide (x.1.2.2.1=x.1.2.1.1)) (decide (x.1.2.2.2.1=x.1.2.1.1)) false) (decide (x.1.2.1.2.1=(x.1.1.length:Int))) false=decide (Ph x.1)))
section
variable {N:Hj} {G:Nat->Nat->Rat}
def YB (b:E2 N) {i:Nat} (a:i<N.2.length):W8 N.2 i<N.1.toNat/\W9 N.2 i<N.1.toNat:=by
 obtain⟨c,f,g,d, -, -⟩:=b.2.2.2 _ (B4 (d:=dB) a);unfold W8 W9;omega
def C2p (b:E2 N) {i:Nat} (a:i<N.2.length):0<Gz N.2 i:=(b.2.2.2 _ (B4 (d:=dB) a)).2.2.2.2.2
end
section
variable {N:Hj}
def B5z (f g:Nat->Rat) (c:Nat):Ke N.2 (fun i=>f i+g i) c=Ke N.2 f c+Ke N.2 g c:=by
 unfold Ke GG;rw[<-Ax];exact B6 fun i _=>by grind
def B7f (d:E2 N) {b:Nat} (a:b<N.1.toNat) (t:Nat):B7 N.1.toNat (fun c=>(if J4 N c=t then 1 else 0)*((if b=c then 1 else 0)-(if J4 N b=c then 1 else 0)))=0:=by
 rw[B6 (g:=fun c=>(if b=c then 1 else 0)*(if J4 N c=t then 1 else 0)-(if J4 N b=c then 1 else 0)*(if J4 N c=t then 1 else 0)) fun c _=>by grind,Ot,Ul a,Ul (C3j d a),((Au d).2 b a).2.2];grind
def B3x (h:E2 N) (X:Nat->Nat->Rat) (s:∀b,b<N.1.toNat->J4 N b≠b->∀a,a<(I8 N N.1.toNat).length->B7 (I8 N N.1.toNat).length (fun c=>Hr N.2 (ix (I8 N N.1.toNat) a) (ix (I8 N N.1.toNat) c)*X b c)=if ix (I8 N N.1.toNat) a=b then 1 else 0):
 Kl N (fun c b=>if J4 N b=b then 0 else Qb (I8 N N.1.toNat).length (ix (I8 N N.1.toNat)) (X b) c):=by
 obtain⟨o,d,i⟩:=SF h;intro b k;by_cases d:J4 N b=b
 . refine⟨fun c _ _=>qP d,fun c _=> ?_⟩;rw[d];unfold Ke GG;rw[X6 fun i _=>by unfold Hl;simp only[qP d];grind];grind
 . refine⟨fun c r u=> ?_,fun c r=> ?_⟩
   . simp only[qL d];exact Ns _ fun a j e=>(o a j).2.1 (by rw[e];exact u)
   . have u:=A0i h (J:=fun c=>((if b=c then 1 else 0)-(if J4 N b=c then 1 else 0))+Ke N.2 (fun i=>Gz N.2 i*Tl N.2 i) c) (right:=fun a=>if ix (I8 N N.1.toNat) a=b then 1 else 0) (X:=X b) (s b k d) (fun a j=> ?_) (fun t _=> ?_) c r
     . have e:Ke N.2 (PX N.2 (Qb (I8 N N.1.toNat).length (ix (I8 N N.1.toNat)) (X b))) c=Ke N.2 (fun l=>Hl N.2 (fun c b=>if J4 N b=b then 0 else Qb (I8 N N.1.toNat).length (ix (I8 N N.1.toNat)) (X b) c) l b) c+Ke N.2 (fun i=>Gz N.2 i*Tl N.2 i) c:=by
        rw[<-B5z];refine Tp (fun i _=> ?_) c;unfold PX flw Hl;simp only[qL d];grind
       rw[e]at u;grind
     . obtain⟨d,r,s⟩:=o a j;have d:J4 N b≠ix (I8 N N.1.toNat) a:=fun e=>r (by rw[<-e];exact((Au h).2 b k).2.2)
       simp only[qL d];by_cases d:b=ix (I8 N N.1.toNat) a
       . rw[qP d,qP d.symm];grind
       . rw[qL d,qL (Ne.symm d)];grind
     . rw[B6 (g:=fun c=>(if J4 N c=t then 1 else 0)*((if b=c then 1 else 0)-(if J4 N b=c then 1 else 0))+(if J4 N c=t then 1 else 0)*Ke N.2 (fun i=>Gz N.2 i*Tl N.2 i) c) fun c _=>by grind,Ax,B7f h k t];have:=ZE (n:=N.1.toNat) (m:=N.2.length) (fr:=W8 N.2) (to:=W9 N.2) (f:=fun i=>Gz N.2 i*Tl N.2 i) (lab:=J4 N) (fun i hi=>YB h hi) (fun i hi=>A3i h hi) t;unfold Ke;rw[this];grind
end
def Ij (o:Xr) (E:List Pz) (G:Nat->Nat->Rat) (i l:Nat) (row:List D6):Prop:=Ae row/\(∀e∈row,∃a,a<i/\e.1=(ix o a:Int))/\∀a,a<i->A5 row (ix o a:Int)=Hl E G l (ix o a)
def B9o (N:Hj) (b:Nat) {a c:Nat} (f:a<c) (d:c<(I8 N b).length):ix (I8 N b) a<ix (I8 N b) c:=by
 have g:(I8 N b).Pairwise (· < ·):=by
  unfold I8;rw[vO];refine g3y (R:=fun a b:Nat=>a<b) (fun {a b} h=>by omega) ?_;exact List.pairwise_lt_range.filter _
 have h:=(tZ.1 g) a c (by omega) d f;have f:=(Ug.1 (wM (show a<(I8 N b).length by omega))).1;unfold ix;rw[G5 _ _ (by omega),G5 _ _ d];omega
section
variable {o:Xr} {E:List Pz} {G G':Nat->Nat->Rat} {i l:Nat} {row:List D6}
def Ij.zero:Ij o E G 0 l []:=⟨BQ,fun _ c=>absurd c rY,fun a b=>absurd b (uY a)⟩
def Ij.congr (h:Ij o E G i l row) (d:∀a,a<i->∀c,G c (ix o a)=G' c (ix o a)):Ij o E G' i l row:=⟨h.1,h.2.1,fun a b=>by rw[h.2.2 a b];unfold Hl;rw[d a b,d a b]⟩
def Ij.skip (h:Ij o E G i l row) (k:∀a,a<i->ix o a<ix o i) (n:Hl E G l (ix o i)=0):Ij o E G (i+1) l row:=by
 refine⟨h.1,fun e b=> ?_,fun a f=> ?_⟩
 . obtain⟨a,f,c⟩:=h.2.1 e b;exact⟨a,by omega,c⟩
 . by_cases j:a=i
   . subst j;rw[n];exact E3 fun e b c=>by
      obtain⟨d,g,r⟩:=h.2.1 e b;have:=k d g;omega
   . exact h.2.2 a (by omega)
def Ij.add (h:Ij o E G i l row) (f:∀a,a<i->ix o a<ix o i) (n:Hl E G l (ix o i)≠0):Ij o E G (i+1) l (row++ [((ix o i:Int),rc (Hl E G l (ix o i)))]):=by
 refine⟨Nc h.1 n fun x r=> ?_,fun e b=> ?_,fun a d=> ?_⟩
 . obtain⟨a,d,c⟩:=h.2.1 x r;have:=f a d;omega
 . rcases rA.1 b with b|b
   . obtain⟨a,d,c⟩:=h.2.1 e b;exact⟨a,by omega,c⟩
   . exact⟨i,by omega,by rw[qR.1 b]⟩
 . rw[Ha];by_cases k:a=i
   . subst k;rw[qP rfl,E3 fun e b c=>by
      obtain⟨g,j,s⟩:=h.2.1 e b;have:=f g j;omega,tG]
   . have:=f a (by omega);rw[h.2.2 a (by omega),qL (by omega),rL]
def Ij.len {n:Nat} (h:Ij o E G i l row) (d:∀a,a<i->ix o a<n):row.length<=n:=lA (f:=fun j=>A5 row (j:Int)) ⟨h.1,fun e c=>by
 obtain⟨a,b,g⟩:=h.2.1 e c;have:=d a b;omega,fun j _=>rfl⟩
end
def Ij.done {N:Hj} {G:Nat->Nat->Rat} {l:Nat} {row:List D6} (r:E2 N) (h:Ij (I8 N N.1.toNat) N.2 G (I8 N N.1.toNat).length l row) (j:∀c b,J4 N b=b->G c b=0):VP N.1.toNat (fun b=>Hl N.2 G l b) row:=by
 obtain⟨i,t,n⟩:=SF r;refine⟨h.1,fun e g=> ?_,fun b o=> ?_⟩
 . obtain⟨a,d,k⟩:=h.2.1 e g;have:=(i a d).1;omega
 . by_cases f:J4 N b=b
   . rw[E3 fun e g k=> ?_]
     . show 0=Gz N.2 l*(G (W8 N.2 l) b-G (W9 N.2 l) b);rw[j _ _ f,j _ _ f];grind
     . obtain⟨a,d,s⟩:=h.2.1 e g;have:=(i a d).2.1;exact this (by rw[show ix (I8 N N.1.toNat) a=b by omega];exact f)
   . obtain⟨a,d,rfl⟩:=n b o f;exact h.2.2 a d
def Lg (x:A2 H5.args) (k:awf H5.args x) (j:H5.pre x):Es x:=by
 obtain⟨b,a,X,_⟩:=x;change Int at b;change Xr at a;change List C0 at X;obtain⟨c,d,f⟩:0<=b/\b<(a.length:Int)/\D9 a b<(X.length:Int):=j;have i:gx 0 a b=D9 a b:=E5 c d;simp only[Es,iB,H4,i];refine⟨⟨c,d⟩,fun h=>⟨trivial, ?_⟩,fun h=> ?_⟩
 . rintro⟨r,_⟩ _ g;simp only at g⊢;exact⟨by rw[qP (qA h),g,DK];rfl,trivial,trivial⟩
 . have h:=qB h;refine⟨⟨c,d⟩,⟨by omega,f⟩, ?_⟩;rw[qL h];exact⟨E5 (by omega) f,trivial,trivial⟩
def Sy (x:A2 R1.args) (W:awf R1.args x) (a2:R1.pre x):Jl x:=by
 obtain⟨⟨n,E⟩,l,c,_⟩:=x;have ad:∀e∈E,Av e.2.2.1:=fun e a=>N7 (W.1.2.2 e a).2.2.1
 have a0:CK c:=fun e a=>N7 (W.2.2.1.2 e a).2
 change Int at n;change List Pz at E;change Int at l;change List D6 at c;obtain⟨a4,T,af,ag,B⟩:E2 (n,E)/\N5 (n,E)/\0<=l/\l<(E.length:Int)/\KP K2 c:=a2;have ab:E.length<=9:=T.2.1;have Q:KP K1 c:=B5n B (by decide);have t:∀i,qs K2 (A5 c i):=fun i=>NJ B.1 a0 B.2.1 (by decide) i
 simp only[Jl,iB,Cw,H4,g4t];generalize M:(fun k:Nat=>Gz E k*(A5 c (W9 E k:Int)-A5 c (W8 E k:Int)+if(k:Int)=l then 1 else 0))=S;refine⟨fun p=>0<=p.2.1/\p.2.1<=(E.length:Int)/\Ae p.1/\(∀e∈p.1,0<=e.1/\e.1<p.2.1)/\∀j:Nat,(j:Int)<p.2.1->A5 p.1 (j:Int)=S j,fun p=>((E.length:Int)-p.2.1).toNat,⟨qG _,qD _,BQ,fun e a=>(by cases a),fun j g=>by simp only at g;omega⟩, ?_⟩;rintro⟨row,k,_⟩ _ ⟨F,a6,o,a,g⟩;change List D6 at row;change Int at k;simp only at F a6 o a g⊢;refine⟨fun h=> ?_,fun h=> ?_⟩
 . have h:=qA h;have P:k.toNat<E.length:=by omega
   have Y:gx (0,0,dQ,(false,[]),[]) E k=E.getD k.toNat dB:=E5 F h;have a1:E.getD k.toNat dB∈E:=B4 P;obtain⟨G,H⟩:=jX a4 P;simp only at G H;have O:((k.toNat:Nat):Int)=k:=by omega
   have a3:sz 2 (E.getD k.toNat dB).2.2.1:=(T.2.2 _ a1).1;have ae:row.length<=9:=by
    have:=lA (n:=k.toNat) (f:=fun j=>A5 row (j:Int)) ⟨o,fun e hh=>⟨(a e hh).1,by have:=(a e hh).2;omega⟩,fun j _=>rfl⟩;omega
   rw[Y,G,H];refine⟨fun q=>Ae q.1/\(∀e∈q.1,0<=e.1/\e.1<k+1)/\∀j:Nat,(j:Int)<k+1->A5 q.1 (j:Int)=S j,⟨⟨F,h⟩,Q, ?_⟩, ?_⟩
   . rintro⟨ai,_⟩ _ z;simp only at z⊢;refine⟨Q, ?_⟩;rintro⟨aj,_⟩ _ A;simp only at A⊢;refine⟨⟨by rw[z];exact J7 (t _) (by decide),by rw[A];exact J7 (t _) (by decide)⟩, ?_⟩;rintro⟨ak,_⟩ _ r;simp only at r⊢;rw[z,A,D7,D7]at r;have X:qs (K2+K2+1) (A5 c (W9 E k.toNat:Int)-A5 c (W8 E k.toNat:Int)):=Si (t _) (t _);have a7:qs (K2+K2+1+1+1) (A5 c (W9 E k.toNat:Int)-A5 c (W8 E k.toNat:Int)+if k=l then 1 else 0):=by
      have:qs 1 (if k=l then(1:Rat)else 0):=by
       split
       . exact aX (qZ 1)
       . exact N3 (qZ 1)
      exact Sg (j:=K2+K2+1) (k:=1) X this
     refine⟨fun q=>((q.1,q.2.1),q.2.2.1)=rc (A5 c (W9 E k.toNat:Int)-A5 c (W8 E k.toNat:Int)+if k=l then 1 else 0),⟨fun hkl=>⟨trivial, ?_⟩,fun hkl=> ?_⟩, ?_⟩
     . rintro⟨ah,_⟩ _ y;simp only at y⊢;refine⟨⟨by rw[r];exact J7 X (by decide),by rw[y,DK];exact J7 (k:=1) (q:=1) (aX (qZ 1)) (by decide)⟩, ?_⟩;rintro⟨am,_⟩ _ R;simp only at R⊢;rw[R,r,y,D7,DK,D7,qP (qA hkl)];rfl
     . rw[qL (qB hkl),rL];exact r
     . rintro⟨ao,ap,aq,_⟩ _ U;simp only at U⊢;rw[U];refine⟨⟨J8 a3 (by decide),J7 a7 (by decide)⟩, ?_⟩;rintro⟨a9,_⟩ _ V;simp only at V⊢;have D:a9=rc (S k.toNat):=by
        rw[V,D7, <-M];simp only;rw[O];rfl
       have N:∀j:Nat,(j:Int)<k+1->(j:Int)<k\/j=k.toNat:=fun j g=>by omega
       refine⟨trivial, ?_⟩;rintro⟨a8,_⟩ _ s;simp only at s⊢;rw[D,D7]at s;refine⟨fun w=> ?_,fun u=> ?_⟩
       . have w:S k.toNat≠0:=fun e=>qA w (by rw[s,e];rfl)
         refine⟨⟨by rw[qY];omega,by rw[qY];omega⟩, ?_,fun e b=> ?_,fun j v=> ?_⟩
         . rw[D];exact Nc o w fun aa a5=>(a aa a5).2
         . rcases rA.1 b with b|b
           . have:=a e b;omega
           . rw[qR.1 b];simp only;omega
         . rw[D,Ha];rcases N j v with d|d
           . rw[g j d,qL (by omega),rL]
           . subst d;rw[qP O.symm,E3 fun e b Z=>by have:=(a e b).2;omega,tG]
       . have u:S k.toNat=0:=by
          have d:a8=0:=qQ (qB u);rw[d]at s;exact JC s.symm
         refine⟨o,fun e b=>by have:=a e b;omega,fun j v=> ?_⟩;rcases N j v with d|d
         . exact g j d
         . subst d;rw[u,E3 fun e b Z=>by have:=(a e b).2;omega]
   . rintro⟨an,_⟩ _ ⟨d,I,J⟩;simp only at d I J⊢;rw[wv (by omega)];exact⟨⟨by omega,by omega,d,I,J⟩,by omega⟩
 . have h:=qB h;refine⟨o,fun e b=> ?_,fun j ac=> ?_⟩
   . have:=a e b;omega
   . rw[g j (by omega), <-M]
def Sx (x:A2 R0.args) (t:awf R0.args x) (s:R0.pre x):Jk x:=by
 obtain⟨⟨sl,⟨f,j,r⟩,i,g,o⟩,_⟩:=x;simp only[Jk,iB,Ni];refine⟨trivial, ?_⟩;rintro⟨u,_⟩ _ b;simp only at b⊢;refine⟨fun _=>trivial, ?_⟩;rintro⟨v,_⟩ a;simp only at a⊢;by_cases d:D1 (f,j,r)
 . rw[rD d]at b;subst b;have a:=(a rfl).2;by_cases c:D1 (i,g,o)
   . rw[rD c]at a;subst a;refine⟨fun h=>(by cases h),fun _=> ?_⟩;by_cases k:i=f<;>by_cases l:g=f<;>by_cases n:j=(sl.length:Int)<;>simp[L8,Ph,d,c,k,l,n]<;>simp_all
   . rw[rE c]at a;subst a;exact⟨fun _=>(rE fun h=>c h.2.1).symm,fun h=>(by cases h)⟩
 . rw[rE d]at b;subst b;exact⟨fun _=>(rE fun h=>d h.1).symm,fun h=>(by cases h)⟩
def C6q (g:Nat->Pl):List Nat->Pl
 | []=> .done
 | [i]=> .e i (g i)
 |i::j::r=> .or i (g i) (C6q g (j::r))
def lin (D:List (Nat×List Nat)):Nat->List Nat->Pl
 |0,_=> .done
 |f+1,L=>C6q (fun i=>lin D f (i::L)) ((D.filter fun x=> !(L.any (Nat.beq x.1))&&x.2.all fun y=>L.any (Nat.beq y)).map Prod.fst)
def trA (b:Int) (n:Nat) (k:List QQ->Xr->List QQ->Prop) (l:List QQ) (a:Xr) (c:List QQ):Prop:=bif Nat.beq l.length n then((0:Int)<=b/\b<(↑(List.length a):Int)/\D9 a b<(↑(List.length c):Int))/\∀(r:QQ×Unit) (o:Xr×List QQ×Unit),Zr r.1/\True->(Ty.int i64).sl.wf o.1/\tQ.sl.wf o.2.1/\True->(r.1=if D9 a b<(0:Int)then rc (0:Rat)else List.getD c (D9 a b).toNat zr)->o.1=a/\o.2.1=c->k (l++ [r.1]) o.1 o.2.1 else True
def trE (d f:Int) (c:QQ) (i:Nat) (k:List QQ->Xr->List QQ->Prop) (l:List QQ) (b:Xr) (a:List QQ):Prop:=match i with
 |5=>trA d 0 k l b a
 |9=>trA f 1 k l b a
 |10=>bif Nat.beq l.length 2 then(D8 (l.getD 0 dQ)/\D8 (l.getD 1 dQ))/\∀(r:QQ×Unit),Zr r.1/\True->r.1=rc (rv (l.getD 0 dQ)-rv (l.getD 1 dQ))->k (l++ [r.1]) b a else True
 |11=>bif Nat.beq l.length 3 then(D8 c/\D8 (l.getD 2 dQ))/\∀(r:QQ×Unit),Zr r.1/\True->r.1=rc (rv c*rv (l.getD 2 dQ))->k (l++ [r.1]) b a else True
 | _=>k l b a
def trD (a b:Int) (c:QQ) (J:QQ->Xr->List QQ->Prop):Pl->List QQ->Xr->List QQ->Prop
 | .done,l,f,d=>bif Nat.beq l.length 4 then J (l.getD 3 dQ) f d else True
 | .q _ p,l,f,d=>trD a b c J p l f d
 | .p _ p,l,f,d=>trD a b c J p l f d
 | .e i p,l,f,d=>trE a b c i (trD a b c J p) l f d
 | .or i p q,l,f,d=>trE a b c i (trD a b c J p) l f d/\trD a b c J q l f d
 | .al _ _ _,_,_,_=>True
def C4m {g j:Int} {d:QQ} {J:QQ->Xr->List QQ->Prop} {c:Xr} {f:List QQ} (t:0<=g/\g<(c.length:Int)/\D9 c g<(f.length:Int)) (u:0<=j/\j<(c.length:Int)/\D9 c j<(f.length:Int)) {a b:QQ}
 (v:a=if D9 c g<0 then rc 0 else f.getD (D9 c g).toNat zr) (hb:b=if D9 c j<0 then rc 0 else f.getD (D9 c j).toNat zr) (s1:D8 a) (s2:D8 b) (s3:D8 d) (s4:D8 (rc (rv a-rv b))) (hJ:J (rc (rv d*rv (rc (rv a-rv b)))) c f):
 ∀(p:Pl) (n:Nat),trD g j d J p ([a,b,rc (rv a-rv b),rc (rv d*rv (rc (rv a-rv b)))].take n) c f:=by
 have step:∀(i:Nat) (r:List QQ->Xr->List QQ->Prop) (n:Nat),(∀n,r ([a,b,rc (rv a-rv b),rc (rv d*rv (rc (rv a-rv b)))].take n) c f)->trE g j d i r ([a,b,rc (rv a-rv b),rc (rv d*rv (rc (rv a-rv b)))].take n) c f:=by
  intro i r n k;have o:([a,b,rc (rv a-rv b),rc (rv d*rv (rc (rv a-rv b)))].take n).length=min n 4:=qU;have l:∀m,m<4->Nat.beq (min n 4) m=true->n=m:=fun m hm h=>by have:=qE h;omega
  unfold trE;split
  . unfold trA;rw[o];cases h:Nat.beq (min n 4) 0 with
    |false=>trivial
    |true=>
     have:=l 0 (by omega) h;subst this;refine⟨t,fun y x _ _ w s=> ?_⟩;rw[s.1,s.2,w, <-v];exact k 1
  . unfold trA;rw[o];cases h:Nat.beq (min n 4) 1 with
    |false=>trivial
    |true=>
     have:=l 1 (by omega) h;subst this;refine⟨u,fun y x _ _ w s=> ?_⟩;rw[s.1,s.2,w, <-hb];exact k 2
  . rw[o];cases h:Nat.beq (min n 4) 2 with
    |false=>trivial
    |true=>
     have:=l 2 (by omega) h;subst this;refine⟨⟨s1,s2⟩,fun w _ s=> ?_⟩;rw[s];exact k 3
  . rw[o];cases h:Nat.beq (min n 4) 3 with
    |false=>trivial
    |true=>
     have:=l 3 (by omega) h;subst this;refine⟨⟨s3,s4⟩,fun w _ s=> ?_⟩;rw[s];exact k 4
  . exact k n
 intro p
 induction p with
 |done=>
  intro n;have l:([a,b,rc (rv a-rv b),rc (rv d*rv (rc (rv a-rv b)))].take n).length=min n 4:=qU;unfold trD;rw[l];cases h:Nat.beq (min n 4) 4 with
  |false=>trivial
  |true=>
   have k:4<=n:=by have:=qE h;omega
   rw[qX (by simpa using k)];exact hJ
 |q i p h=>intro n;exact h n
 |p i p h=>intro n;exact h n
 |e i p h=>intro n;exact step i _ n h
 |or i p q h k=>intro n;exact⟨step i _ n h,k n⟩
 |al _ _ _ _=>intro n;trivial
def trP:Pl:=lin [(1,[]),(5,[]),(8,[]),(9,[5,8]),(10,[9]),(11,[1,10]),(12,[]),(13,[11,12])] 8 []
def Fs:An:= {join:= [(10,⟨[3,4,9,27,28,29],[0,1,3],[(8,false,[.own (.int .i64) 3])],[],[(2, .row (.int .i64) 3)]⟩),(33,⟨[3,8,9,13,14,16,20,72,73,74,97,98,99],[0,5],[],[(3,22,[.val (.sl (.int .i64))]),(8,46,[.val (.sl tQ)])],[(6, .rows tE 79 106)]⟩)],loop:= [(4,⟨[3,4,9,27,28],[0,1,3],[(8,false,[.own (.int .i64) 3]),(29,false,vI)],[],[(2, .row (.int .i64) 3)]⟩),(28,⟨[3,8,9,13,14,16,20,72,73,74,97,98],[0,5],[(99,false,vI)],[(3,22,[.val (.sl (.int .i64))]),(8,46,[.val (.sl tQ)])],[(6, .rows tE 79 106)]⟩),(19,⟨[3,8,9,13,14,72,73],[0,5],[(74,false,vI)],[(3,22,[.val (.sl (.int .i64))])],[(6, .rows tE 79 106)]⟩)],plan:= [(30,[4],[5,9,13],false,(.p 0 (.p 2 (.p 3 (.q 4 (.p 6 (.p 7 trP))))))),(32,[5,7],[10,12],false,(pZ9 0 5 (.q 5 (.p 6 (.q 7 (.p 8 (.e 9 (.e 10 (.p 11 (.e 12 .done))))))))))]}
def So:H8:= [(44,Bj),(67,W4),(77,X7),(78,O5),(79,M9),(80,Ay),(81,H5),(82,Y0)]
abbrev C8b:=Int×Xr×List (List EE)×Unit
abbrev C8d:=Int×Xr×List QQ×List (List EE)×Unit
abbrev C8p:=Xr×List QQ×List (List EE)×Unit
def Ah:A2 H2.args->Prop:=fun(x:(Int×List (Int×Int×QQ×(Bool×Xr)×Xr))×MM×Xr×Unit)=>let M:=(140737488355328:Nat);let E:=(281474976710656:Int);let D:=(1:Nat);let C:=(16384:Nat);let B:=(1:Int);let A:=(9223372036854775807:Int);let q:=(x.2.2.1.length:Int);let f:=(x.1.2.length:Int);let c:=(0:Int);(c<=x.1.1/\x.1.1<=x.1.1/\(↑(8:Nat):Int)*x.1.1<=E/\x.1.1<=A)/\∃(I:C0u->Prop),∃(h: _->Nat),I ([],c,List.replicate x.1.1.toNat c,())/\∀(p:C0u),let H:Prop:=(p.2.1≠gx c x.2.2.1 p.2.1);let w:=p.2.1.toNat;let K:=(List.set p.2.2.1 w (-1:Int));let a:Prop:=((∃(i:Int),i∈p.1/\(i<c\/x.2.1.1<=i))\/∃(i:Int),i∈p.1/\(i<c\/x.2.1.2.1<=i));let d:=(↑p.1.length:Int);(Ty.int i64).sl.wf p.1/\(Ty.int i64).wf p.2.1/\MK p.2.2.1/\True->I p->(decide (p.2.1<q)=true->∃(J:Fq->Prop),((c<=p.2.1/\p.2.1<q)/\(c<=p.2.1/\p.2.1<(p.2.2.1.length:Int))/\(decide H=true->(c<=p.2.1/\p.2.1<(↑K.length:Int))/\((p.1.length+ [p.2.1].length)*(8:Nat)<=M/\p.1.length+ [p.2.1].length<=9223372036854775807)/\J (p.1++ [p.2.1],K.set w d,()))/\(decide H=false->J (p.1,List.set p.2.2.1 w (-1:Int),())))/\∀(Q:Fq),let t:=(Q.1,i64.wrap (p.2.1+B),Q.2.1,());(Ty.int i64).sl.wf Q.1/\MK Q.2.1/\True->J Q->I t/\h t<h p)/\(decide (p.2.1<q)=false->(X0 K1 x.2.1/\p.1.length<=(1000:Nat)/\p.1.length<=(1000:Nat)/\p.1.Nodup)/\∀(r:OM),let y:=r.1.1.toNat;WfM r.1/\I2 r.2.1/\True->(¬D1 x.2.1->r.1=zm/\r.2.1=B)/\(D1 x.2.1->(a->r.1=zm/\r.2.1=3)/\(¬a->(C<p.1.length\/C<p.1.length->r.1=zm/\r.2.1=8)/\(p.1.length<=C/\p.1.length<=C->Qm p.1.length p.1.length (fun(i j:Nat)=>el x.2.1 (p.1.getD i c).toNat (p.1.getD j c).toNat) r.1/\r.2.1=c)))->(decide (r.2.1≠c)=true->r.2.1=c/\∃(G:Nat->Nat->Rat),Kl x.1 G/\(∀(a b:Nat),a<x.1.1.toNat->b<x.1.1.toNat->qs K0 (G a b))/\0=x.1.2.length/\∀(l:Nat),l<x.1.2.length->VP x.1.1.toNat (fun(b:Nat)=>Hl x.1.2 G l b) ([].getD l []))/\(decide (r.2.1≠c)=false->(∃(s:Nat),D<=s/\X0 s r.1/\s<=K1/\(D1 r.1->r.1.1=r.1.2.1->sK s (Int.toNat r.1.1-D)<=K1))/\∀(O:C4r),let g:=O.1.1.length;let N:=(↑g:Int);(MK O.1.1/\MK O.1.2.1/\WfM O.1.2.2.1/\I2 O.1.2.2.2.1/\I2 O.1.2.2.2.2.1/\Rw O.1.2.2.2.2.2)/\I2 O.2.1/\True->(¬D1 r.1->O.1=fB/\O.2.1=B)/\(D1 r.1->(r.1.1≠r.1.2.1->O.1=fB/\O.2.1=4)/\(r.1.1=r.1.2.1->(¬nonsing y (el r.1)->O.1=fB/\O.2.1=6)/\(nonsing y (el r.1)->Bz O.1 r.1.1/\O.2.1=c/\(∀(v:List EE),v∈O.1.2.2.1.2.2->Ae v)/\(∀(v:List EE),v∈O.1.2.2.2.2.2->Ae v)/\(∀(s:Nat),D<=s->X0 s r.1->∀(i j:Nat),i<Int.toNat r.1.1->qs (sK s y) (el O.1.2.2.1 i j)/\qs (sK s i) (el O.1.2.2.2 i j))/\∀(i j:Nat),i<Int.toNat r.1.1->j<Int.toNat r.1.1->luM O.1 y i j=el r.1 (ix O.1.1 i) (ix O.1.2.1 j))))->(decide (O.2.1≠c)=true->O.2.1=c/\∃(G:Nat->Nat->Rat),Kl x.1 G/\(∀(a b:Nat),a<x.1.1.toNat->b<x.1.1.toNat->qs K0 (G a b))/\0=x.1.2.length/\∀(l:Nat),l<x.1.2.length->VP x.1.1.toNat (fun(b:Nat)=>Hl x.1.2 G l b) ([].getD l []))/\(decide (O.2.1≠c)=false->(c<=f/\f<=f/\(↑(24:Nat):Int)*f<=E/\f<=A)/\∃(I:C8b->Prop),∃(h: _->Nat),I (c,p.2.2.1,List.replicate f.toNat [],())/\∀(Q:C8b),let m:=Q.1.toNat;(Ty.int i64).wf Q.1/\(Ty.int i64).sl.wf Q.2.1/\Rw Q.2.2.1/\True->I Q->(decide (Q.1<d)=true->(c<=Q.1/\Q.1<d)/\(c<=d/\d<=d/\(↑(56:Nat):Int)*d<=E/\d<=A)/\True/\∀(r:D5),Zr r.1/\True->r.1=ri B->(c<=Q.1/\Q.1<(↑(List.replicate d.toNat dQ).length:Int))/\(List.length O.1.1<=C/\X0 K1 O.1.2.2.1/\X0 K1 O.1.2.2.2/\(Bz O.1 N->((List.replicate d.toNat dQ).set m r.1).length=List.length O.1.1->∃(s:Nat),∃(T:Nat),D<=s/\D<=T/\X0 s O.1.2.2.1/\X0 s O.1.2.2.2/\Db T ((List.replicate d.toNat dQ).set m r.1)/\hK s (gK s T g) g+s<=K1))/\∀(R:Ra),MG R.1/\I2 R.2.1/\True->(¬Bz O.1 N->R.1= []/\R.2.1=B)/\(Bz O.1 N->(((List.replicate d.toNat dQ).set m r.1).length≠List.length O.1.1->R.1= []/\R.2.1=4)/\(((List.replicate d.toNat dQ).set m r.1).length=List.length O.1.1->R.2.1=c/\R.1.length=List.length O.1.1/\(∀(e:QQ),e∈R.1->e=rc (rv e))/\(∀(s T:Nat),D<=s->D<=T->X0 s O.1.2.2.1->X0 s O.1.2.2.2->Db T ((List.replicate d.toNat dQ).set m r.1)->Db (hK s (gK s T g) g+s) R.1)/\∀(i:Nat),i<List.length O.1.1->(B7 g fun(j:Nat)=>luM O.1 g i j*rv (R.1.getD (ix O.1.2.1 j) zr))=rv (((List.replicate d.toNat dQ).set m r.1).getD (ix O.1.1 i) zr)))->(decide (R.2.1≠c)=true->R.2.1=c/\∃(G:Nat->Nat->Rat),Kl x.1 G/\(∀(a b:Nat),a<x.1.1.toNat->b<x.1.1.toNat->qs K0 (G a b))/\0=x.1.2.length/\∀(l:Nat),l<x.1.2.length->VP x.1.1.toNat (fun(b:Nat)=>Hl x.1.2 G l b) ([].getD l []))/\(decide (R.2.1≠c)=false->∃(I_1:C8d->Prop),∃(j: _->Nat),I_1 (c,Q.2.1,R.1,Q.2.2.1,())/\∀(P:C8d),let z:=P.1.toNat;let L:=(List.getD P.2.2.2.1 z []);let u:Prop:=(c<=P.1/\P.1<(P.2.2.2.1.length:Int));let n:=(i64.wrap (Q.1+B),P.2.1,P.2.2.2.1,());let k:=(gx (c,c,dQ,(false,[]),[]) x.1.2 P.1);(Ty.int i64).wf P.1/\(Ty.int i64).sl.wf P.2.1/\tQ.sl.wf P.2.2.1/\Rw P.2.2.2.1/\True->I_1 P->(decide (P.1<f)=true->∃(J:C8p->Prop),((c<=P.1/\P.1<f)/\trD k.1 k.2.1 k.2.2.1 (fun v i g=>let F:=(gx c p.1 Q.1,v);True/\∀(S:C8),I2 S.1/\True->S.1=(rv v).num.sign->(decide (S.1≠c)=true->u/\((L.length+ [F].length)*(64:Nat)<=M/\L.length+ [F].length<=9223372036854775807)/\u/\Int.toNat P.1=Int.toNat P.1/\J (i,g,List.set P.2.2.2.1 z (List.getD P.2.2.2.1 z []++ [F]),()))/\(decide (S.1≠c)=false->J (i,g,P.2.2.2.1,()))) trP [] P.2.1 P.2.2.1)/\∀(p:C8p),let o:=(i64.wrap (P.1+B),p.1,p.2.1,p.2.2.1,());(Ty.int i64).sl.wf p.1/\tQ.sl.wf p.2.1/\Rw p.2.2.1/\True->J p->I_1 o/\j o<j P)/\(decide (P.1<f)=false->I n/\h n<h Q)))/\(decide (Q.1<d)=false->c=c/\∃(G:Nat->Nat->Rat),Kl x.1 G/\(∀(a b:Nat),a<x.1.1.toNat->b<x.1.1.toNat->qs K0 (G a b))/\List.length Q.2.2.1=x.1.2.length/\∀(l:Nat),l<x.1.2.length->VP x.1.1.toNat (fun(b:Nat)=>Hl x.1.2 G l b) (List.getD Q.2.2.1 l [])))))
def My (x:A2 H2.args):C0e prog C0w So Fs H2 f38 x=Ah x:=by kernel_rfl
def C3i {o:Xr} {v:Int} {k:Nat} (a:k<o.length):ix (o++ [v]) k=ix o k:=by
 unfold ix;rw[qF,wG a,qF]
def B8w {o:Xr} {v:Int} :ix (o++ [v]) o.length=v.toNat:=by
 unfold ix;rw[qF,uF (qZ _),xO];rfl
def A6x (N:Hj) (o a:Xr) (c:Nat):Prop:=(J4 N c=c->a.getD c 0= -1)/\(J4 N c≠c->0<=a.getD c 0/\(a.getD c 0).toNat<o.length/\ix o (a.getD c 0).toNat=c)
def GX (N:Hj) (o:Xr) (X:Nat->Nat->Rat) (c b:Nat):Rat:=if J4 N b=b then 0 else Qb o.length (ix o) (X b) c
def A2x {k:Nat} {o:Nat->Nat} (f:∀a c,a<k->c<k->o a=o c->a=c) (x:Nat->Rat) (b:Nat):Qb k o x b=0\/∃c,c<k/\o c=b/\Qb k o x b=x c:=by
 by_cases h:∃c,c<k/\o c=b
 . obtain⟨c,d,rfl⟩:=h;exact .inr ⟨c,d,rfl,WL f x d⟩
 . exact .inl (Ns x fun c d e=>h ⟨c,d,e⟩)
def A1c {n:Nat} {i:Nat} :Db 256 ((List.replicate n dQ).set i (ri 1)):=fun e a=>by
 rcases g1c a with a|rfl
 . rw[List.eq_of_mem_replicate a];exact⟨rM _,rM _⟩
 . rw[DK];exact F5 (Vm (k:=1) (q:=1) (aX (qZ 1))) (by decide)
def B6f {n i a:Nat} (c:i<n) (b:a<n):O3 ((List.replicate n dQ).set i (ri 1)) a=if a=i then 1 else 0:=by
 unfold O3;by_cases h:a=i
 . subst h;rw[qP rfl,A9 (by rw[rC];exact c),DK,D7];rfl
 . rw[qL h,C9 h,qF,tX,qP b];exact bE
set_option maxHeartbeats 4000000 in
def Mz (x:A2 H2.args) (dd:awf H2.args x) (da:H2.pre x):Ah x:=by
 obtain⟨⟨n,E⟩,m,sl,_⟩:=x;have cz:∀e∈E,Av e.2.2.1:=fun e he=>N7 (dd.1.2.2 e he).2.2.1
 change Int at n;change List Pz at E;change Xr at sl;change Dn at m;obtain⟨u,ak,U,db⟩:E2 (n,E)/\N5 (n,E)/\Qm n.toNat n.toNat (Hr E) m/\sl=K7 n (Nh E):=da;obtain⟨n,rfl⟩:∃Y:Nat,n=(Y:Int):=⟨n.toNat,by have:=u.1;simp only at this;omega⟩;have dt:n<=7:=by have:=ak.1;simp only at this;omega
 have ds:E.length<=9:=ak.2.1;simp only[qH]at U;have bp:∀b c,qs 28 (Hr E b c):=iX ak cz;obtain⟨bg,au⟩:=Au u;simp only[qH]at bg au;rw[<-db]at bg au;have bw:=A0h u;have b6:=SF u;have b9:=TV u;have bt:=fun a c=>B9o ((n:Int),E) n (a:=a) (c:=c)
 simp only[qH]at bw b6 b9;simp only[Ah,qH];refine⟨⟨qD _,qG _,by omega,by omega⟩,fun p=>0<=p.2.1/\p.2.1<=(n:Int)/\p.1=I8 ((n:Int),E) p.2.1.toNat/\p.2.2.1.length=n/\∀c:Nat,(c:Int)<p.2.1->A6x ((n:Int),E) p.1 p.2.2.1 c,fun p=>((n:Int)-p.2.1).toNat,⟨qG _,qD _,rfl,rC,fun c s=>by simp only at s;omega⟩, ?_⟩;rintro⟨o,b,B,_⟩ _ ⟨a1,a5,w,ba,ae⟩;change Xr at o;change Int at b;change Xr at B;simp only at a1 a5 w ba ae⊢;refine⟨fun I=> ?_,fun I=> ?_⟩
 . have I:=qA I;have b2:b.toNat<n:=by omega
   have cu:((b.toNat:Nat):Int)=b:=by omega
   have eL:gx 0 sl b=(J4 ((n:Int),E) b.toNat:Int):=by rw[E5 a1 I];exact(au _ b2).1
   have du:o.length<=b.toNat:=by rw[w];unfold I8;rw[sL];exact qW (g2m _ _) (by rw[zO];exact qZ _)
   have a3:=iG ((n:Int),E) b.toNat;rw[show b.toNat+1=(b+1).toNat from by omega]at a3;rw[eL];refine⟨fun q=>q.1=I8 ((n:Int),E) (b+1).toNat/\q.2.1.length=n/\∀c:Nat,(c:Int)<b+1->A6x ((n:Int),E) q.1 q.2.1 c,⟨⟨a1,I⟩,⟨a1,by omega⟩,fun M=> ?_,fun R=> ?_⟩, ?_⟩
   . have M:=qA M;have t:J4 ((n:Int),E) b.toNat≠b.toNat:=fun e=>M (by rw[e];omega)
     rw[qP t,cu, <-w]at a3;refine⟨⟨a1,by rw[qJ];omega⟩,⟨by rw[qY];omega,by rw[qY];omega⟩,a3.symm,by rw[qJ,qJ];exact ba,fun c s=> ?_⟩;by_cases Q:c=b.toNat
     . subst Q;refine⟨fun e=>absurd e t,fun _=> ?_⟩;rw[A9 (by rw[qJ];omega),qH,B8w];exact⟨qD _,by rw[rN,qY];omega,rfl⟩
     . obtain⟨D,k⟩:=ae c (by omega);unfold A6x;rw[C9 Q,C9 Q];refine⟨D,fun h=> ?_⟩;obtain⟨aq,ar,cg⟩:=k h;exact⟨aq,by rw[rN];omega,by rw[C3i ar];exact cg⟩
   . have R:b=(J4 ((n:Int),E) b.toNat:Int):=qQ (qB R);have t:J4 ((n:Int),E) b.toNat=b.toNat:=by omega
     rw[qL (fun h=>h t), <-w]at a3;refine⟨a3.symm,by rw[qJ];exact ba,fun c s=> ?_⟩;by_cases Q:c=b.toNat
     . subst Q;refine⟨fun _=>A9 (by omega),fun h=>absurd t h⟩
     . unfold A6x;rw[C9 Q];exact ae c (by omega)
   . rintro⟨dx,bc,_⟩ _ ⟨D,k,a6⟩;simp only at D k a6⊢;rw[wv (by omega)];exact⟨⟨by omega,by omega,D,k,a6⟩,by omega⟩
 have I:=qB I;have b2:b=(n:Int):=by omega
 subst b2;simp only[qH]at w;rw[<-w]at bw b6 b9;simp only[<-w]at bt;obtain⟨a0,an,c2⟩:=b6;have d6:o.length<=6:=by omega
 have d4:o.Nodup:=w▸Xi _ _;have d3:=Nf U (by omega) (by omega);have d9:∀c∈o,0<=c/\c<(n:Int):=fun c s=>by
  rw[w]at s;obtain⟨ab,c1,_⟩:=Ug.1 s;exact⟨ab,c1⟩
 refine⟨⟨KG U (by decide) fun i j _ _=>F8 (bp i j) (by decide),show o.length<=1000 by omega,show o.length<=1000 by omega,d4⟩, ?_⟩;rintro⟨Z,cc,_⟩ _ ⟨_,k⟩;change Int at cc;simp only at k⊢;have F:¬((∃i,i∈o/\(i<0\/m.1<=i))\/∃i,i∈o/\(i<0\/m.2.1<=i)):=by
  rw[U.1,U.2.1];rintro(⟨i,f,h⟩ | ⟨i,f,h⟩)<;>(have:=d9 i f;omega)
 obtain⟨V,cv⟩:=((k d3).2 F).2 ⟨show o.length<=16384 by omega,show o.length<=16384 by omega⟩;clear k;subst cv;refine⟨fun h=>absurd h (by simp),fun _=> ?_⟩;have b3:∀i j,i<o.length->j<o.length->el Z i j=Hr E (ix o i) (ix o j):=fun i j f r=>by
  rw[CH V f r];exact CH U (a0 i f).1 (a0 j r).1
 have d0:=Nf V (by omega) (by omega);have bu:X0 28 Z:=KG V (by decide) fun i j f r=>by
  rw[<-CH V f r,b3 i j f r];exact bp _ _
 obtain⟨c8,ap,dr,c9⟩:=B6p d6;have aw:Z.1=(o.length:Int):=V.1;have ch:Z.2.1=(o.length:Int):=V.2.1;have cl:Int.toNat Z.1=o.length:=by rw[aw,qH]
 rw[cl];refine⟨⟨28,by decide,bu,by decide,fun _ _=>dr⟩, ?_⟩;rintro⟨O,cd,_⟩ _ ⟨_,k⟩;change Int at cd;simp only at k⊢;have d5:nonsing o.length (el Z):=IV (fun i j f r=>(b3 i j f r).symm) b9;obtain⟨T,cw,c1,ca,ag,d2⟩:=((k d0).2 (aw.trans ch.symm)).2 d5;clear k;subst cw;refine⟨fun h=>absurd h (by simp),fun _=> ?_⟩;rw[aw]at T;have a7:=GT T.1;have av:=GT T.2.1;have ck:List.length O.1=o.length:=a7.1;obtain⟨dn,e0,dp⟩:=T.2.2.1;obtain⟨c7,e1,dq⟩:=T.2.2.2.1;have bz:=ag 28 (by decide) bu;have b7:X0 (sK 28 o.length) O.2.2.1:=lT dp c1 ap fun i j f=>(bz i j (by rw[dn]at f;omega)).1
 have b8:X0 (sK 28 o.length) O.2.2.2:=lT dq ca ap fun i j f=>F8 (bz i j (by rw[c7]at f;omega)).2 (Xo (by rw[c7]at f;omega))
 have d7:X0 K1 O.2.2.1:=fun v u e he=>F5 (b7 v u e he) c9
 have d8:X0 K1 O.2.2.2:=fun v u e he=>F5 (b8 v u e he) c9
 rw[ck];refine⟨⟨qD _,qG _,by omega,by omega⟩,fun p=>0<=p.1/\p.1<=(o.length:Int)/\p.2.1=B/\p.2.2.1.length=E.length/\∃X:Nat->Nat->Rat,(∀a,a<p.1.toNat->∀z,z<o.length->B7 o.length (fun c=>Hr E (ix o z) (ix o c)*X (ix o a) c)=if ix o z=ix o a then 1 else 0)/\(∀a,a<p.1.toNat->∀c,c<o.length->qs K0 (X (ix o a) c))/\∀l,l<E.length->Ij o E (GX ((n:Int),E) o X) p.1.toNat l (p.2.2.1.getD l []),fun p=>((o.length:Int)-p.1).toNat,⟨qG _,qD _,rfl,rC,fun _ _=>0,fun a g=>absurd g (uY a),fun a g=>absurd g (uY a),fun l A=> ?_⟩, ?_⟩
 . simp only;rw[qF,tX,qP A];exact Ij.zero
 rintro⟨i,dk,rows,_⟩ _ ⟨am,de,af,bb,X,a9,aa,aj⟩;change Int at i;change Xr at dk;change List (List D6)at rows;simp only at am de af bb a9 aa aj⊢;have af:=af.symm;subst af;refine⟨fun f=> ?_,fun f=> ?_⟩
 . have f:=qA f;have F:i.toNat<o.length:=by omega
   have cf:gx 0 o i=(ix o i.toNat:Int):=by rw[E5 am f];exact(a0 _ F).2.2
   rw[cf];refine⟨⟨am,f⟩,⟨qD _,qG _,by omega,by omega⟩,trivial, ?_⟩;rintro⟨one,_⟩ _ bv;simp only at bv⊢;subst bv;have dc:((List.replicate o.length dQ).set i.toNat (ri 1)).length=o.length:=by rw[qJ,rC]
   refine⟨⟨am,by rw[rC];exact f⟩,⟨show o.length<=16384 by omega,d7,d8,fun _ _=>⟨sK 28 o.length,256,ap,by decide,b7,b8,A1c,qW c8 (by decide)⟩⟩, ?_⟩;rintro⟨Xl,ce,_⟩ _ ⟨_,k⟩;change Int at ce;change List C0 at Xl;simp only at k⊢;obtain⟨cx,az,bj,cn,cm⟩:=(k T).2 dc;clear k;subst cx;have co:Db K0 Xl:=fun y hy=>F5 (cn _ _ ap (by decide) b7 b8 A1c y hy) c8
   have cp:∀z,z<o.length->B7 o.length (fun c=>Hr E (ix o z) (ix o c)*O3 Xl c)=if ix o z=ix o i.toNat then 1 else 0:=fun z W=>by
    obtain⟨j,r,rfl⟩:=Ft (fun a g=>(a7.2.1 a g).2) a7.2.2 W;have a6:=cm j r;rw[<-iS (fun a g=>(av.2.1 a g).2) av.2.2 (fun c=>Hr E (ix o (ix O.1 j)) (ix o c)*O3 Xl c)];refine Eq.trans (B6 fun q ag=> ?_) (a6.trans ?_)
    . rw[d2 j q r ag,b3 _ _ (a7.2.1 j r).2 (av.2.1 q ag).2];rfl
    . refine(B6f F W).trans ?_;by_cases ab:ix O.1 j=i.toNat
      . rw[qP ab,qP (by rw[ab])]
      . rw[qL ab,qL fun e=>ab (an _ _ W F e)]
   have bk:∀c,c<o.length->qs K0 (O3 Xl c):=fun c s=>by
    have D:=bj _ (B4 (d:=zr) (show c<Xl.length by rw[az];exact s));have k:=co _ (B4 (d:=zr) (show c<Xl.length by rw[az];exact s));rw[D]at k;exact k
   refine⟨fun h=>absurd h (by simp),fun _=> ?_⟩;generalize bh:(fun b:Nat=>if b=ix o i.toNat then O3 Xl else X b)=X';have ay:X' (ix o i.toNat)=O3 Xl:=by rw[<-bh];exact qP rfl
   have b0:∀a,a<i.toNat->X' (ix o a)=X (ix o a):=fun a g=>by
    rw[<-bh];exact qL fun e=>by have:=an _ _ (by omega) F e;omega
   have cj:∀a,a<i.toNat->∀c,GX ((n:Int),E) o X c (ix o a)=GX ((n:Int),E) o X' c (ix o a):=fun a g c=>by
    unfold GX;rw[b0 a g]
   have bq:∀a,a<i.toNat->ix o a<ix o i.toNat:=fun a g=>bt a i.toNat g F
   have ci:∀c,GX ((n:Int),E) o X' c (ix o i.toNat)=Qb o.length (ix o) (O3 Xl) c:=fun c=>by
    unfold GX;rw[qL (a0 _ F).2.1,ay]
   have bm:∀c,c<n->D9 B (c:Int)<(Xl.length:Int)/\∃q,(if D9 B (c:Int)<0 then rc 0 else Xl.getD (D9 B (c:Int)).toNat zr)=rc q/\qs K0 q/\q=GX ((n:Int),E) o X' c (ix o i.toNat):=fun c s=>by
    have el:D9 B (c:Int)=B.getD c 0:=rfl;rw[el,ci,az];obtain⟨aq,ar⟩:=ae c (by omega);by_cases t:J4 ((n:Int),E) c=c
    . rw[aq t,qP (by decide)];exact⟨by omega,0,rfl,N3 (by decide),(Ns _ fun a g e=>(a0 a g).2.1 (by rw[e];exact t)).symm⟩
    . obtain⟨dw,ab,dh⟩:=ar t;rw[qL (by omega)];refine⟨by omega,O3 Xl (B.getD c 0).toNat, ?_,bk _ ab, ?_⟩
      . exact bj _ (B4 (by omega))
      . conv=>rhs;rw[<-dh]
        exact(WL an _ ab).symm
   refine⟨fun p=>0<=p.1/\p.1<=(E.length:Int)/\p.2.1=B/\p.2.2.1=Xl/\p.2.2.2.1.length=E.length/\∀l:Nat,l<E.length->Ij o E (GX ((n:Int),E) o X') (if(l:Int)<p.1 then i.toNat+1 else i.toNat) l (p.2.2.2.1.getD l []),fun p=>((E.length:Int)-p.1).toNat,⟨qG _,qD _,rfl,rfl,bb,fun l A=> ?_⟩, ?_⟩
   . simp only;rw[qL (by omega)];exact(aj l A).congr cj
   rintro⟨j,bc,X2,H,_⟩ _ ⟨a4,df,bx,bi,ah,r⟩;change Int at j;change Xr at bc;change List C0 at X2;change List (List D6)at H;simp only at a4 df bx bi ah r⊢;subst bx bi;refine⟨fun J=> ?_,fun J=> ?_⟩
   . have J:=qA J;have ac:j.toNat<E.length:=by omega
     have cb:gx (0,0,dQ,(false,[]),[]) E j=E.getD j.toNat dB:=E5 a4 J;have d1:E.getD j.toNat dB∈E:=B4 ac;obtain⟨a5,bd⟩:=jX u ac;obtain⟨be,bf⟩:=YB u ac;simp only[qH]at a5 bd be bf;rw[cb,a5,bd];obtain⟨di,c5,cq,bl,cr⟩:=bm _ be;obtain⟨dj,c6,cs,bn,ct⟩:=bm _ bf;have ai:=r j.toNat ac;rw[qL (by omega)]at ai;have dv:=ai.len (n:=n) fun a g=>(a0 a (by omega)).1
     have c0:rc (rv (E.getD j.toNat dB).2.2.1*rv (rc (rv (rc c5)-rv (rc c6))))=rc (Hl E (GX ((n:Int),E) o X') j.toNat (ix o i.toNat)):=by
      rw[D7,D7,D7,cr,ct];rfl
     generalize ax:Hl E (GX ((n:Int),E) o X') j.toNat (ix o i.toNat)=S at c0;refine⟨fun q=>q.1=bc/\q.2.1=X2/\q.2.2.1=if S≠0 then H.set j.toNat (H.getD j.toNat []++ [((ix o i.toNat:Int),rc S)])else H,⟨⟨a4,J⟩, ?_⟩, ?_⟩
     . refine C4m (a:=rc c5) (b:=rc c6) ⟨qD _,by omega,di⟩ ⟨qD _,by omega,dj⟩ cq.symm cs.symm (J7 bl (by decide)) (J7 bn (by decide)) (J8 (ak.2.2 _ d1).1 (by decide)) (by rw[D7,D7];exact J7 (Si bl bn) (by decide)) ?_ trP 0;rw[c0];refine⟨trivial, ?_⟩;rintro⟨dm,_⟩ _ a2;simp only at a2⊢;rw[D7]at a2;refine⟨fun M=> ?_,fun R=> ?_⟩
       . have M:S≠0:=fun e=>qA M (by rw[a2,e];rfl)
         refine⟨⟨a4,by omega⟩,⟨by rw[qY];omega,by rw[qY];omega⟩,⟨a4,by omega⟩,by trivial,by trivial,by trivial, ?_⟩;rw[qP M]
       . have R:S=0:=by
          have D:dm=0:=qQ (qB R);rw[D]at a2;exact JC a2.symm
         exact⟨by trivial,by trivial,by rw[qL (fun h=>h R)]⟩
     . rintro⟨dy,X3,dz,_⟩ _ ⟨c3,c4,ao⟩;simp only at c3 c4 ao⊢;rw[wv (by omega)];refine⟨⟨by omega,by omega,c3,c4, ?_,fun l A=> ?_⟩,by omega⟩
       . rw[ao];split
         . rw[qJ];exact ah
         . exact ah
       . by_cases bo:l=j.toNat
         . subst bo;rw[qP (by omega),ao];by_cases a8:S≠0
           . rw[qP a8,A9 (by omega), <-ax];exact ai.add bq (by rw[ax];exact a8)
           . rw[qL a8];exact ai.skip bq (by rw[ax];exact qQ a8)
         . have ad:=r l A;rw[ao];have:(if S≠0 then H.set j.toNat (H.getD j.toNat []++ [((ix o i.toNat:Int),rc S)])else H).getD l []=H.getD l []:=by
            split
            . exact C9 bo
            . rfl
           rw[this];by_cases bs:(l:Int)<j
           . rw[qP bs]at ad;rw[qP (by omega)];exact ad
           . rw[qL bs]at ad;rw[qL (by omega)];exact ad
   . have J:=qB J;rw[wv (by omega)];refine⟨⟨by omega,by omega,rfl,ah,X',fun a g z W=> ?_,fun a g c s=> ?_,fun l A=> ?_⟩,by omega⟩
     . by_cases b1:a=i.toNat
       . subst b1;rw[ay];exact cp z W
       . rw[b0 a (by omega)];exact a9 a (by omega) z W
     . by_cases b1:a=i.toNat
       . subst b1;rw[ay];exact bk c s
       . rw[b0 a (by omega)];exact aa a (by omega) c s
     . have:=r l A;rw[qP (by omega)]at this;rw[show(i+1).toNat=i.toNat+1 from by omega];exact this
 . have f:=qB f;have cy:i.toNat=o.length:=by omega
   rw[cy]at a9 aa aj;refine⟨by trivial,GX ((n:Int),E) o X, ?_,fun a b g P=> ?_,bb,fun l A=> ?_⟩
   . have b4:=B3x (N:=((n:Int),E)) u X (fun b P t a g=> ?_)
     . simp only[qH]at b4;rw[<-w]at b4;exact b4
     . simp only[qH, <-w]at P g⊢;obtain⟨Y,b5,rfl⟩:=c2 b P t;exact a9 Y b5 a g
   . unfold GX;split
     . exact N3 (by decide)
     . rename_i t;obtain⟨Y,b5,rfl⟩:=c2 b P t;rcases A2x an (X (ix o Y)) a with h| ⟨c,s,_,h⟩
       . rw[h];exact N3 (by decide)
       . rw[h];exact aa Y b5 c s
   . have:=Ij.done (N:=((n:Int),E)) (G:=GX ((n:Int),E) o X) (l:=l) (row:=rows.getD l []) u (by simp only[qH];rw[<-w];exact aj l A) (fun c b P=>qP P);simp only[qH]at this;exact this
def NC:An:= {loop:= [(6,⟨[1,2,4,27,28],[0,1,2],[(6,false,[.own (.pair (.int .i64) (.int .i64)) 74]),(29,false,vI)],[],[]⟩),(18,⟨[1,2,9,10,11,70],[0,1],[(71,false,vI)],[],[(5, .row (.sl tE) 79)]⟩)],plan:= [(20,[2,7],[10],true,(.p 0 (.p 1 (.q 2 (pZ9 3 4 (.q 7 (.e 8 (.p 9 (.e 10 .done)))))))))]}
def BK:An:= {loop:= [(13,⟨[8,10,11,54],[],[(55,false,vI)],[],[(1, .row tQ 43)]⟩)],plan:= [(15,[5,9],[12],true,(pZ9 0 5 (.q 5 (pZ9 6 3 (.q 9 (.e 10 (.p 11 (.e 12 .done))))))))]}
def Rq:A2 V2.args->Prop:=fun(x:A4w)=>let u:=(281474976710656:Int);let q:=x.1.2.length;let s:=(9223372036854775807:Int);let j:=(1:Int);let i:=(Nh x.1.2);let g:=x.1.1.toNat;let e:=(0:Int);let c:=(↑q:Int);(E2 x.1->N5 x.1)/\∀(r:OM),WfM r.1/\I2 r.2.1/\True->(¬E2 x.1->r.1=zm/\r.2.1=j)/\(E2 x.1->Qm g g (Hr x.1.2) r.1/\r.2.1=e)->(iB (decide (r.2.1≠e)) ((¬E2 x.1->r.2.1=j)/\(E2 x.1->r.2.1=e/\O8 Int=K7 x.1.1 i/\∃(G:Nat->Nat->Rat),Kl x.1 G/\(∀(a b:Nat),a<x.1.1.toNat->b<x.1.1.toNat->qs K0 (G a b))/\Qm x.1.2.length x.1.1.toNat (Hl x.1.2 G) (e,e,[])/\Qm x.1.2.length x.1.2.length (shF x.1.2 G) (e,e,[]))) ((e<=e/\e<=c/\(↑(16:Nat):Int)*c<=u/\c<=s)/\∃(I:B0u->Prop),∃(d: _->Nat),I (List.replicate e.toNat (e,e),e,())/\∀(p:B0u),let f:=(gx (e,e,dQ,(false,[]),[]) x.1.2 p.2.1);let n:=(f.1,f.2.1);let o:=(p.1++ [n],i64.wrap (p.2.1+j),());((Ty.int i64).pair (Ty.int i64)).sl.wf p.1/\(Ty.int i64).wf p.2.1/\True->I p->(iB (decide (p.2.1<c)) ((e<=p.2.1/\p.2.1<c)/\((p.1.length+ [n].length)*(16:Nat)<=(140737488355328:Nat)/\p.1.length+ [n].length<=9223372036854775807)/\I o/\d o<d p) (True/\∀(t:WB),MK t.1/\I2 t.2.1/\True->(t.1=if Qd x.1.1 p.1=e then K7 x.1.1 p.1 else [])/\t.2.1=Qd x.1.1 p.1->(iB (decide (t.2.1≠e)) ((¬E2 x.1->t.2.1=j)/\(E2 x.1->t.2.1=e/\O8 Int=K7 x.1.1 i/\∃(G:Nat->Nat->Rat),Kl x.1 G/\(∀(a b:Nat),a<x.1.1.toNat->b<x.1.1.toNat->qs K0 (G a b))/\Qm x.1.2.length x.1.1.toNat (Hl x.1.2 G) (e,e,[])/\Qm x.1.2.length x.1.2.length (shF x.1.2 G) (e,e,[]))) ((E2 x.1/\N5 x.1/\Qm g g (Hr x.1.2) r.1/\t.1=K7 x.1.1 i)/\∀(r:List (List EE)×Int×Unit),Rw r.1/\I2 r.2.1/\True->(r.2.1=e/\∃(G:Nat->Nat->Rat),Kl x.1 G/\(∀(a b:Nat),a<Int.toNat x.1.1->b<Int.toNat x.1.1->qs K0 (G a b))/\r.1.length=List.length x.1.2/\∀(l:Nat),l<List.length x.1.2->VP g (fun(b:Nat)=>Hl x.1.2 G l b) (r.1.getD l []))->(iB (decide (r.2.1≠e)) ((¬E2 x.1->r.2.1=j)/\(E2 x.1->r.2.1=e/\O8 Int=K7 x.1.1 i/\∃(G:Nat->Nat->Rat),Kl x.1 G/\(∀(a b:Nat),a<x.1.1.toNat->b<x.1.1.toNat->qs K0 (G a b))/\Qm x.1.2.length x.1.1.toNat (Hl x.1.2 G) (e,e,[])/\Qm x.1.2.length x.1.2.length (shF x.1.2 G) (e,e,[]))) ((e<=c/\c<=c/\(↑(24:Nat):Int)*c<=u/\c<=s)/\∃(I:A1g->Prop),∃(d: _->Nat),I (e,List.replicate c.toNat [],())/\∀(p:A1g),let m:=(gx [] r.1 p.1);(Ty.int i64).wf p.1/\Rw p.2.1/\True->I p->(iB (decide (p.1<c)) ((e<=p.1/\p.1<(r.1.length:Int))/\(E2 x.1/\N5 x.1/\e<=p.1/\p.1<c/\KP K2 m)/\mE fun v=>let h:=(i64.wrap (p.1+j),List.set p.2.1 p.1.toNat v.1,());VP q (fun(k:Nat)=>Gz x.1.2 k*(A5 m (↑(W9 x.1.2 k):Int)-A5 m (↑(W8 x.1.2 k):Int)+if(↑k:Int)=p.1 then(1:Rat)else(0:Rat))) v.1->(e<=p.1/\p.1<(p.2.1.length:Int))/\I h/\d h<d p) ((¬E2 x.1->e=j)/\(E2 x.1->e=e/\t.1=K7 x.1.1 i/\∃(G:Nat->Nat->Rat),Kl x.1 G/\(∀(a b:Nat),a<x.1.1.toNat->b<x.1.1.toNat->qs K0 (G a b))/\Qm x.1.2.length x.1.1.toNat (Hl x.1.2 G) (c,x.1.1,r.1)/\Qm x.1.2.length x.1.2.length (shF x.1.2 G) (c,c,p.2.1))))))))))))
def Lf:A2 S8.args->Prop:=fun(x:(Xr×MM×Int×Int×List (List EE))×List QQ×List QQ×Unit)=>let u:=x.2.1.length;let t:=x.2.2.1.length;let n:=(1:Nat);let m:=(4:Int);let h:=(1:Int);let g:=(↑u:Int);let s:=(decide (g≠(x.1.1.length:Int)));let f:=(↑t:Int);let y:=(decide (f≠x.1.2.2.2.1));let e:=(0:Int);let d:=(↑x.2.2.1.length:Int);let a:Prop:=(x.2.1.length=x.1.1.length/\d=x.1.2.2.2.1);True/\Ni fun r=>r.1=decide (Ph x.1)->(iB ((!r.1)) ((¬Ph x.1->O8 QQ= []/\h=h)/\(Ph x.1->(¬a->O8 QQ= []/\h=m)/\(x.2.1.length=x.1.1.length/\d=x.1.2.2.2.1->h=e/\O8 QQ=IU x.1.2.1.1.toNat fun(l:Nat)=>(B7 x.2.1.length fun(j:Nat)=>el x.1.2.1 l j*O3 x.2.1 j)+B7 x.2.2.1.length fun(j:Nat)=>el x.1.2.2 l j*O3 x.2.2.1 j))) ((iB (L8 s true y) ((¬Ph x.1->O8 QQ= []/\m=h)/\(Ph x.1->(¬a->O8 QQ= []/\m=m)/\(x.2.1.length=x.1.1.length/\d=x.1.2.2.2.1->m=e/\O8 QQ=IU x.1.2.1.1.toNat fun(l:Nat)=>(B7 x.2.1.length fun(j:Nat)=>el x.1.2.1 l j*O3 x.2.1 j)+B7 x.2.2.1.length fun(j:Nat)=>el x.1.2.2 l j*O3 x.2.2.1 j))) ((∃(A:Nat),∃(T:Nat),∃(c:Nat),n<=A/\n<=T/\X0 A x.1.2.1/\Db T x.2.1/\x.1.2.1.2.1<=(↑c:Int)/\(A+T+n)*(c+n)<=(2199023255552:Nat)/\A<=K1)/\∀(r:Ra),let b:=(r.1.length:Int);MG r.1/\I2 r.2.1/\True->(¬D1 x.1.2.1->r.1= []/\r.2.1=h)/\(D1 x.1.2.1->(g≠x.1.2.1.2.1->r.1= []/\r.2.1=m)/\(g=x.1.2.1.2.1->r.1=List.map (fun(i:Nat)=>rc (B7 u fun(j:Nat)=>el x.1.2.1 i j*rv (List.getD x.2.1 j zr))) (List.range x.1.2.1.1.toNat)/\r.2.1=e))->(iB (decide (r.2.1≠e)) ((¬Ph x.1->O8 QQ= []/\r.2.1=h)/\(Ph x.1->(¬a->O8 QQ= []/\r.2.1=m)/\(x.2.1.length=x.1.1.length/\d=x.1.2.2.2.1->r.2.1=e/\O8 QQ=IU x.1.2.1.1.toNat fun(l:Nat)=>(B7 x.2.1.length fun(j:Nat)=>el x.1.2.1 l j*O3 x.2.1 j)+B7 x.2.2.1.length fun(j:Nat)=>el x.1.2.2 l j*O3 x.2.2.1 j))) ((∃(A:Nat),∃(T:Nat),∃(c:Nat),n<=A/\n<=T/\X0 A x.1.2.2/\Db T x.2.2.1/\x.1.2.2.2.1<=(↑c:Int)/\(A+T+n)*(c+n)<=(2199023255552:Nat)/\A<=K1)/\∀(v:Ra),MG v.1/\I2 v.2.1/\True->(¬D1 x.1.2.2->v.1= []/\v.2.1=h)/\(D1 x.1.2.2->(f≠x.1.2.2.2.1->v.1= []/\v.2.1=m)/\(f=x.1.2.2.2.1->v.1=List.map (fun(i:Nat)=>rc (B7 t fun(j:Nat)=>el x.1.2.2 i j*rv (List.getD x.2.2.1 j zr))) (List.range x.1.2.2.1.toNat)/\v.2.1=e))->(iB (decide (v.2.1≠e)) ((¬Ph x.1->O8 QQ= []/\v.2.1=h)/\(Ph x.1->(¬a->O8 QQ= []/\v.2.1=m)/\(x.2.1.length=x.1.1.length/\d=x.1.2.2.2.1->v.2.1=e/\O8 QQ=IU x.1.2.1.1.toNat fun(l:Nat)=>(B7 x.2.1.length fun(j:Nat)=>el x.1.2.1 l j*O3 x.2.1 j)+B7 x.2.2.1.length fun(j:Nat)=>el x.1.2.2 l j*O3 x.2.2.1 j))) ((e<=b/\b<=b/\(↑(56:Nat):Int)*b<=(281474976710656:Int)/\b<=(9223372036854775807:Int))/\∃(I:Ja->Prop),∃(o: _->Nat),I (e,List.replicate b.toNat dQ,())/\∀(p:Ja),let q:Prop:=(p.1<(↑(List.replicate b.toNat dQ).length:Int));(Ty.int i64).wf p.1/\MG p.2.1/\True->I p->(iB (decide q) ((e<=p.1/\p.1<b)/\(e<=p.1/\p.1<(v.1.length:Int))/\(D8 (gx dQ r.1 p.1)/\D8 (gx dQ v.1 p.1))/\H4 fun w=>let k:=(i64.wrap (p.1+h),List.set p.2.1 p.1.toNat w.1,());w.1=rc (rv (gx dQ r.1 p.1)+rv (gx dQ v.1 p.1))->(e<=p.1/\p.1<(p.2.1.length:Int))/\I k/\o k<o p) ((¬Ph x.1->p.2.1= []/\e=h)/\(Ph x.1->(¬a->p.2.1= []/\e=m)/\(x.2.1.length=x.1.1.length/\d=x.1.2.2.2.1->e=e/\p.2.1=IU x.1.2.1.1.toNat fun(l:Nat)=>(B7 x.2.1.length fun(j:Nat)=>el x.1.2.1 l j*O3 x.2.1 j)+B7 x.2.2.1.length fun(j:Nat)=>el x.1.2.2 l j*O3 x.2.2.1 j))))))))))))
def mA {N:Hj} {G:Nat->Nat->Rat} (n:E2 N) (k:N5 N) (j:∀e∈N.2,Av e.2.2.1) (c:∀a b,a<N.1.toNat->b<N.1.toNat->qs K0 (G a b)) {l b:Nat} (f:l<N.2.length) (d:b<N.1.toNat):qs (2+(K0+K0+1)) (Hl N.2 G l b):=by
 have g:N.2.getD l dB∈N.2:=B4 f;obtain⟨h,i⟩:=YB n f;exact Ju (U4 (j _ g) (k.2.2 _ g).1 (by decide)) (Si (c _ _ h d) (c _ _ i d))
def FM (x:A2 V2.args) (a5:awf V2.args x) (t:V2.pre x):Rq x:=by
 obtain⟨⟨n,E⟩,_⟩:=x;have a1:∀e∈E,Av e.2.2.1:=fun e s=>N7 (a5.1.2.2 e s).2.2.1
 change Int at n;change List Pz at E;have t:E2 (n,E)->N5 (n,E):=t;simp only[Rq,iB,mE,g4t];refine⟨t, ?_⟩;rintro⟨m,e,_⟩ _ ⟨D,F⟩;change Int at e;simp only at D F⊢;by_cases a:E2 (n,E)
 case neg=>
  obtain⟨_,rfl⟩:=D a;exact⟨fun _=>⟨fun _=>rfl,fun h=>absurd h a⟩,fun h=>by simp at h⟩
 obtain⟨a3,rfl⟩:=F a;clear D F;refine⟨fun h=>by simp at h,fun _=> ?_⟩;have l:=t a;have aa:E.length<=9:=l.2.1;have ac:n<=7:=l.1;have a4:0<=n:=a.1;refine⟨⟨qG _,qD _,by omega,by omega⟩,fun p=>0<=p.2.1/\p.2.1<=(E.length:Int)/\p.1=Nh (E.take p.2.1.toNat),fun p=>((E.length:Int)-p.2.1).toNat,⟨qG _,qD _,rfl⟩, ?_⟩;rintro⟨X,a6,_⟩ _ ⟨B,a7,i⟩;change List Ln at X;change Int at a6;simp only at B a7 i⊢;have a2:X.length<=16384:=by rw[i];unfold Nh;rw[sL,qU];omega
 refine⟨fun c=> ?_,fun c=>⟨trivial, ?_⟩⟩
 . have c:=qA c;rw[wv (by omega)];have W:∀z:Nat,z<=16384->(z+1)*16<=140737488355328/\z+1<=9223372036854775807:=fun z W=>⟨by omega,by omega⟩
   exact⟨⟨B,c⟩,W _ a2,⟨by omega,by omega,by rw[aT B c,i];rfl⟩,by omega⟩
 have c:=qB c;rw[D4 (by omega)]at i;subst i;rintro⟨sl,e,_⟩ _ ⟨r,u⟩;change Xr at sl;change Int at e;simp only at r u⊢;have U:Qd n (Nh E)=0:=lJ.2 (RU a);rw[qP U]at r;rw[U]at u;subst u;refine⟨fun h=>by simp at h,fun _=>⟨⟨a,l,a3,r⟩, ?_⟩⟩;rintro⟨T,e,_⟩ _ ⟨s,G,M,v,O,A⟩;change List (List D6)at T;change Int at e;simp only at s M v O A⊢;subst s;refine⟨fun h=>by simp at h,fun _=> ?_⟩;have Z:∀k b,k<E.length->b<n.toNat->qs K2 (Hl E G k b):=fun k b g hb=>F8 (mA (N:=(n,E)) a l a1 v g hb) (by decide)
 simp only[qH];refine⟨⟨qD _,qG _,by omega,by omega⟩,fun p=>0<=p.1/\p.1<=(E.length:Int)/\p.2.1.length=E.length/\∀k:Nat,(k:Int)<p.1->VP E.length (shF E G k) (p.2.1.getD k []),fun p=>((E.length:Int)-p.1).toNat,⟨qG _,qD _,rC,fun k g=>by simp only at g;omega⟩, ?_⟩;rintro⟨j,S,_⟩ _ ⟨o,a8,y,w⟩;change Int at j;change List (List D6)at S;simp only at o a8 y w⊢;refine⟨fun d=> ?_,fun d=> ?_⟩
 . have d:=qA d;have Q:j.toNat<E.length:=by omega
   have Y:gx [] T j=T.getD j.toNat []:=E5 o (by omega);have f:=A j.toNat Q;have ad:=lA f;have ab:((j.toNat:Nat):Int)=j:=by omega
   rw[Y];refine⟨⟨o,by omega⟩,⟨a,l,o,d,f.1.1,NI f.1 fun H=> ?_,by omega⟩, ?_⟩
   . rw[NN f];split
     . exact Z _ _ Q (by omega)
     . exact N3 (by decide)
   rintro⟨a9,_⟩ _ V;change List D6 at a9;simp only at V⊢;rw[wv (by omega)];refine⟨⟨o,by omega⟩,⟨by omega,by omega,by rw[qJ];exact y,fun k g=> ?_⟩,by omega⟩;by_cases R:k=j.toNat
   . subst R;rw[A9 (by omega)];refine A8y V fun H a0=> ?_
     obtain⟨I,J⟩:=YB a a0;simp only at I J;unfold shF;rw[f.2.2 _ I,f.2.2 _ J];by_cases P:H=j.toNat
     . rw[qP (by omega),qP P]
     . rw[qL (by omega),qL P]
   . rw[C9 R];exact w k (by omega)
 . have d:=qB d;refine⟨fun h=>absurd a h,fun _=>⟨by trivial,r,G,M,v,⟨rfl, ?_,O,A⟩,⟨rfl,rfl,y,fun k g=>w k (by omega)⟩⟩⟩;exact(sP a4).symm
open Go Go.Vc Go.Gw
def sq1:Code->Code
 | .seq a _=>a
 |c=>c
def sq2:Code->Code
 | .seq _ b=>b
 |c=>c
def C6v:Code->Array Oper
 | .region _ ops _=>ops
 | _=> #[]
noncomputable def awB (i:Nat):Code:=(List.range i).foldl (fun c _=>sq2 c) (f10.body.getD .skip)
noncomputable def Mb:List Oper:=(C6v (sq1 (awB 4))).toList
noncomputable def Di (i:Nat):Oper:=Mb.getD i default
noncomputable abbrev VM:Cx:=⟨prog,tys⟩
def PW (x:QQ):DV:= .one ⟨true,explode tQ x⟩
def awL (l:List QQ):DV:= .one ⟨false,[.val (.sl tQ) l]⟩
def awV (l:List (List QQ)):DV:= .one ⟨false,[.val (.sl (.sl tQ)) l]⟩
abbrev mO:Ty:= .pair (.int .i64) (.pair (.int .i64) (.sl (.sl tE)))
def awM (m:MM):DV:= .one ⟨true,explode mO m⟩
def XX (a b z:QQ):List (List QQ):= [[z,rc (-rv b),rc (-rv a)],[z,a,rc (-rv a)],[z,rc (-rv a),rc (-rv b)]]
def AN:H8:= [(9,V2),(16,Cz),(17,Ka),(19,X8),(23,Nj),(34,Jz),(40,Vb),(41,U8)]
def awZ:LC:= .box 29 (Ly mO)
def Dp (a b z:QQ) (m:MM):Nat->Option (Nat×DV)
 |24=>some (0,PW z)
 |25=>some (1,PW b)
 |26=>some (2,PW (rc (-rv b)))
 |27=>some (3,PW a)
 |28=>some (4,PW (rc (-rv a)))
 |29=>some (5,awL [z,rc (-rv b),rc (-rv a)])
 |30=>some (6,PW z)
 |31=>some (7,PW a)
 |32=>some (8,PW a)
 |33=>some (9,PW (rc (-rv a)))
 |34=>some (10,awL [z,a,rc (-rv a)])
 |35=>some (11,PW z)
 |36=>some (12,PW a)
 |37=>some (13,PW (rc (-rv a)))
 |38=>some (14,PW b)
 |39=>some (15,PW (rc (-rv b)))
 |40=>some (16,awL [z,rc (-rv a),rc (-rv b)])
 |41=>some (17,awV (XX a b z))
 |42=>some (18,awM m)
 |7=>some (19,one1 (.box 6 0))
 | _=>none
structure AwB (st:St) (a b z:QQ):Prop where
 nx:st.nx=6
 nm:st.nm<=6
 fr:st.fr= []
 s4:st.S 4=one1 (.box 3 0)
 s5:st.S 5=one1 (.box 4 0)
 s6:st.S 6=one1 (.box 5 0)
 l3:st.L 3= .box 43 (explode tQ a)
 l4:st.L 4= .box 43 (explode tQ b)
 l5:st.L 5= .box 43 (explode tQ z)
 dd:∀s,24<=s\/s=7->st.S s= .dead
 nc:∀d s,Nu d (st.S s)=false
 rf:∀s,Qf 6 (st.S s)
 rl:∀k,Mw 6 (st.L k)
 fh:∀k,6<=k->st.L k= .none
structure UP (s0:St) (a b z:QQ) (m:MM) (L:List Nat) (st:St):Prop where
 nx:st.nx=if 19∈L then 7 else 6
 nm:st.nm=s0.nm
 fr:st.fr= []
 S:∀s,st.S s=match Dp a b z m s with
  |some (i,v)=>if i∈L then v else .dead
  |none=>s0.S s
 L:∀k,st.L k=if k=6 then(if 19∈L then awZ else .none)else s0.L k
section
variable {s0 st:St} {a b z:QQ} {m:MM} {L:List Nat}
def B1v (a b z:QQ) (m:MM) {s i:Nat} {v:DV} (h:Dp a b z m s=some (i,v)) (d:Nat):Nu d v=false:=by
 unfold Dp at h;split at h<;>first| (cases h;rfl) |cases h
def B1w (a b z:QQ) (m:MM) {s i:Nat} {v:DV} (h:Dp a b z m s=some (i,v)):Qf (if i=19 then 7 else 0) v:=by
 unfold Dp at h;split at h<;>first
  | (cases h;intro d c;simp only[PW,awL,awV,awM,one1,explode,qI,rY,vH,wJ,vJ]at c;rcases c with rfl|rfl|rfl<;>trivial)
  | (cases h;intro d c;simp only[PW,awL,awV,awM,one1,explode,qI,rY,vH,wJ,vJ]at c;subst c;first|trivial| (show(6:Nat)<7;omega))
  |cases h
def UP.nc (h:UP s0 a b z m L st) (c:AwB s0 a b z) (d s:Nat):Nu d (st.S s)=false:=by
 rw[h.S];split
 . rename_i i v e;split
   . exact B1v a b z m e d
   . rfl
 . exact c.nc d s
def mH {n k:Nat} (a:n<=k):∀ {d:DV},Qf n d->Qf k d
 | .one _,h=>fun c b=>(h c b).le a
 | .tup _,h=>fun s f c b=>(h s f c b).le a
 | .cnd _ _ _,h=>fun c b=>(h c b).le a
 | .dead,_=>trivial
def UP.rf (h:UP s0 a b z m L st) (f:AwB s0 a b z) (s:Nat):Qf st.nx (st.S s):=by
 have d:6<=st.nx:=by rw[h.nx];split<;>omega
 rw[h.S];split
 . rename_i i v e;split
   . rename_i g;refine mH ?_ (B1w a b z m e);by_cases c:i=19
     . subst c;rw[h.nx,qP g,qP rfl];exact qZ _
     . rw[qL c];exact rM _
   . trivial
 . exact mH d (f.rf s)
def A7b {n k:Nat} (a:n<=k):∀ {l:LC},Mw n l->Mw k l:=fun {l} h=>by
 cases l with
 |box T d=>exact fun c b=>(h c b).le a
 |rows _ _ _ _ al _=>exact fun p b=>rF (h p b) a
 |mapE _ _ _ _ _ _ q=>exact rF h a
 |sbox q _ _=>exact rF h a
 |nest _ _ _ _ c _=>exact fun p b=>rF (h p b) a
 |itM _ _ _ _ _ _ _ q=>exact rF h a
 | _=>trivial
def C2g (n:Nat):Mw n awZ:=fun c a=>by
 obtain⟨v,_,rfl⟩:=sQ.1 (show c∈List.map Lp (Eu mO)from a);unfold Lp;split
 . rename_i k i h;generalize (decide (k.min<=i)&&decide (i<=k.max))=q;cases q<;>trivial
 . trivial
 . trivial
 . generalize Value.oneCell' _=q;cases q<;>trivial
def UP.rl (h:UP s0 a b z m L st) (d:AwB s0 a b z) (k:Nat):Mw st.nx (st.L k):=by
 have c:6<=st.nx:=by rw[h.nx];split<;>omega
 rw[h.L];split
 . split
   . exact C2g _
   . trivial
 . exact A7b c (d.rl k)
def UP.fh (h:UP s0 a b z m L st) (f:AwB s0 a b z) (k:Nat) (c:st.nx<=k):st.L k= .none:=by
 rw[h.nx]at c;rw[h.L];by_cases d:19∈L
 . rw[qP d]at c;rw[qL (by omega)];exact f.fh k (by omega)
 . rw[qL d]at c;split
   . rfl
   . exact f.fh k (by omega)
def UP.nn (h:UP s0 a b z m L st) (c:AwB s0 a b z):st.nm<=st.nx:=by
 have:=c.nm;rw[h.nm,h.nx];split<;>omega
def UP.at (h:UP s0 a b z m L st) {s i:Nat} {v:DV} (d:Dp a b z m s=some (i,v)) (c:i∈L):st.S s=v:=by
 rw[h.S,d];exact qP c
def fH (a b z:QQ) (m:MM) {s d i:Nat} {u v:DV} (h:Dp a b z m d=some (i,v)) (c:Dp a b z m s=some (i,u)):s=d:=by
 unfold Dp at h c;split at h<;>cases h<;>(split at c<;>first|rfl|cases c)
def UP.val (h:UP s0 a b z m L st) {i d:Nat} {v:DV} (k:Dp a b z m d=some (i,v)) (g:i≠19):UP s0 a b z m (i::L) (hd1 st d v):=by
 have c:∀j,j≠i->(j∈i::L↔j∈L):=fun j hj=>⟨fun hh=>(qI.1 hh).resolve_left hj,qM _⟩
 refine⟨?_,h.nm,h.fr,fun s=> ?_,fun o=> ?_⟩
 . show st.nx= _;rw[h.nx];simp only[c 19 (Ne.symm g)]
 . rw[IP];by_cases f:s=d
   . subst f;rw[qP rfl,k];exact(qP (rB)).symm
   . rw[qL f,h.S];cases l:Dp a b z m s with
     |none=>rfl
     |some p=>
      obtain⟨j,u⟩:=p;have n:j≠i:=fun e=>f (by subst e;exact fH a b z m k l)
      simp only[c j n]
 . show st.L o= _;rw[h.L];simp only[c 19 (Ne.symm g)]
end
section
variable {za:Zn} {w0:World} {s0 st:St} {a b z:QQ} {m:MM} {L:List Nat} {E:G8} {w:World} {Z:Nat->Prop} {B:Nat->Value}
def AwH (a b z:QQ) (m:MM) (L:List Nat):Prop:=18∈L->WfM m/\Qm 3 3 (fun i j=>rv (((XX a b z).getD i []).getD j zr)) m
def AwH.up {i:Nat} (h:AwH a b z m L) (d:18≠i):AwH a b z m (i::L):=fun c=>h ((qI.1 c).resolve_left d)
def AwI (za:Zn) (w0:World) (s0:St) (a b z:QQ) (L:List Nat) (E:G8) (w:World):Prop:=∃m st Z B,C1 za w0 st E w Z B/\UP s0 a b z m L st/\AwH a b z m L
def A2m (f:AwB s0 a b z) (g:UP s0 a b z m L st) {i d:Nat} {v:DV} (t:Dp a b z m d=some (i,v)) (j:i≠19) {c:St} (h:C1 za w0 (c.setS d v) E w Z B) (n:∀s,c.S s=st.S s) (l:∀k,c.L k=st.L k) (r:c.nm=st.nm) (o:c.fr= []):C1 za w0 (hd1 st d v) E w Z B:=by
 have c:=g.val t j;refine h.look (fun s=> .inl ?_) (fun k=>(l k).symm) r.symm (c.nn f) c.fr o (c.rf f) (c.rl f) (c.fh f);rw[IP,St.S_setS,n];by_cases c:s=d
 . rw[qP c,qP c]
 . rw[qL c,qL c,g.nc f d s];rfl
def Lj {st:St} {d:Nat} {v:DV} (h:st.S d=v) (s:Nat):(hd1 st d v).S s=st.S s:=by
 rw[IP];split
 . rename_i e;subst e;exact h.symm
 . rfl
def B1m {st:St} {d:Nat} {v:LC} (h:st.L d=v) (s:Nat):(hdL st d v).L s=st.L s:=by
 rw[A5e];split
 . rename_i e;subst e;exact h.symm
 . rfl
variable {i d s k:Nat} {v:QQ} (hsp:Ki prog AN) (hb0:za.b0=0) (hB:AwB s0 a b z) (h:C1 za w0 st E w Z B) (g:UP s0 a b z m L st)
include hsp hb0 hB h g
theorem Mo (t:AwH a b z m L) (e:∀K,Mf VM AN Mb (Di i) K (hdL (hd1 st s (one1 (.box k 0))) k (.box 43 (explode tQ v)))=K ((hdL (hd1 st s (one1 (.box k 0))) k (.box 43 (explode tQ v))).setS d (PW v))) (j:st.S s=one1 (.box k 0)) (r:st.L k= .box 43 (explode tQ v)) (l:Dp a b z m d=some (i,PW v)) (c:i≠19) (o:18≠i):Gw.J2 prog Mb (Di i) (AwI za w0 s0 a b z (i::L)) E w:=by
 have f:(hd1 st s (one1 (.box k 0))).L k= .box 43 (explode tQ v):=r;refine C3 ?_ (Ih (cx:=VM) (k:=fun u=>u=(hdL (hd1 st s (one1 (.box k 0))) k (.box 43 (explode tQ v))).setS d (PW v)) ((h.hd1 j).hdL f) (.inl hb0) A3 hsp (by rw[e]));rintro E' x ⟨_,_,Z',B',n,rfl⟩;exact⟨m,_,Z',B',A2m hB g l c n (Lj j) (B1m f) rfl g.fr,g.val l c,t.up o⟩
theorem XY (o:AwH a b z m L) (e:∀K,Mf VM AN Mb (Di i) K (hd1 st s (PW v))=(D8 v/\∀r:QQ×Unit,Zr r.1/\True->r.1=rc (-rv v)->K ((hd1 st s (PW v)).setS d (PW r.1)))) (f:st.S s=PW v) (j:Dp a b z m d=some (i,PW (rc (-rv v)))) (c:i≠19) (n:18≠i) (t:D8 v):Gw.J2 prog Mb (Di i) (AwI za w0 s0 a b z (i::L)) E w:=by
 refine C3 ?_ (Ih (cx:=VM) (k:=fun x=>x=(hd1 st s (PW v)).setS d (PW (rc (-rv v)))) (h.hd1 f) (.inl hb0) A3 hsp ((e _).mpr ⟨t,fun r _ u=>tL (fun q=>(hd1 st s (PW v)).setS d (PW q)) u⟩));rintro E' y ⟨_,_,Z',B',l,rfl⟩;exact⟨m,_,Z',B',A2m hB g j c l (Lj f) (fun _=>rfl) rfl g.fr,g.val j c,o.up n⟩
theorem jR (F:AwH a b z m L) {t:Ty} {q:Nat} {l:List t.den} {c f j:Nat} {v1 v2 n:DV} (e:∀K,Mf VM AN Mb (Di i) K (hd1 (hd1 (hd1 st c v1) f v2) j n)=K (rowS (hd1 (hd1 (hd1 st c v1) f v2) j n) d t q l)) (r:st.S c=v1) (G:st.S f=v2) (H:st.S j=n) (I:Dp a b z m d=some (i, .one ⟨false,[.val (.sl t) l]⟩)) (B:i≠19) (A:18≠i):Gw.J2 prog Mb (Di i) (AwI za w0 s0 a b z (i::L)) E w:=by
 have v:(hd1 st c v1).S f=v2:=(Lj r _).trans G;have x:(hd1 (hd1 st c v1) f v2).S j=n:=((Lj v _).trans (Lj r _)).trans H;have u:∀s,(hd1 (hd1 (hd1 st c v1) f v2) j n).S s=st.S s:=fun s=>((Lj x s).trans (Lj v s)).trans (Lj r s)
 refine C3 ?_ (Ih (cx:=VM) (k:=fun s0=>s0=rowS (hd1 (hd1 (hd1 st c v1) f v2) j n) d t q l) (((h.hd1 r).hd1 v).hd1 x) (.inl hb0) A3 hsp (by rw[e]));rintro E' J ⟨_,_,Z',B',y,rfl⟩;obtain⟨Z2,D⟩:=y.unrow (g.nn hB) g.fr (fun s=>by rw[u];exact g.rf hB s) (g.rl hB) (g.fh hB) (fun s=>by rw[u];exact g.nc hB _ s);have o:=g.val I B;refine⟨m,hd1 st d (.one ⟨false,[.val (.sl t) l]⟩),Z2,B',D.look (fun s=> .inl ?_) (fun _=>rfl) rfl (o.nn hB) o.fr g.fr (o.rf hB) (o.rl hB) (o.fh hB),o,F.up A⟩;rw[IP st,IP (hd1 (hd1 (hd1 st c v1) f v2) j n),u]
omit hsp hb0 hB h g
theorem B7t {a b z:QQ} (m M:MM) {s:Nat} (c:s≠42):Dp a b z m s=Dp a b z M s:=by
 unfold Dp;split<;>first|rfl|exact absurd rfl c
theorem UP.chg (g:UP s0 a b z m L st) (c:18∉L) (M:MM):UP s0 a b z M L st:=by
 refine⟨g.nx,g.nm,g.fr,fun s=> ?_,g.L⟩;rw[g.S];by_cases d:s=42
 . subst d;show(if 18∈L then _ else _)=(if 18∈L then _ else _);rw[qL c,qL c]
 . rw[B7t m M d]
set_option maxRecDepth 100000 in
theorem C5l (hsp:Ki prog AN) (hb0:za.b0=0) (hB:AwB s0 a b z) (h:C1 za w0 st E w Z B) (g:UP s0 a b z m L st) (n:18∉L) (t:17∈L) (s:∀l∈XX a b z,Db K1 l/\(l.length:Int)=3):Gw.J2 prog Mb (Di 18) (AwI za w0 s0 a b z (18::L)) E w:=by
 have d:st.S 41=awV (XX a b z):=g.at (i:=17) rfl t;have e:∀K,Mf VM AN Mb (Di 18) K (hd1 st 41 (awV (XX a b z)))=(((∀(l:List QQ),l∈XX a b z->Db K1 l/\(↑l.length:Int)=(3:Int))/\(0:Int)<=(3:Int)/\(3:Int)<=(16384:Int)/\(XX a b z).length<=(16384:Nat))/\∀(r:MM×Unit),WfM r.1/\True->Qm (XX a b z).length (Int.toNat (3:Int)) (fun(i j:Nat)=>rv (((XX a b z).getD i []).getD j zr)) r.1->K ((hd1 st 41 (awV (XX a b z))).setS 42 (awM r.1))):=fun K=>by kernel_rfl
 refine C3 ?_ (Ih (cx:=VM) (k:=fun x=>∃M,(WfM M/\Qm 3 3 (fun i j=>rv (((XX a b z).getD i []).getD j zr)) M)/\x=(hd1 st 41 (awV (XX a b z))).setS 42 (awM M)) (h.hd1 d) (.inl hb0) A3 hsp ((e _).mpr ⟨⟨s,by decide,by decide,(by decide:3<=16384)⟩,fun r v u=>⟨r.1,⟨v.1,u⟩,rfl⟩⟩));rintro E' y ⟨_,_,Z',B',f,M,o,rfl⟩;have c:=g.chg n M;exact⟨M,_,Z',B',A2m hB c rfl (by decide) f (Lj d) (fun _=>rfl) rfl g.fr,c.val rfl (by decide),fun _=>o⟩
set_option maxRecDepth 100000 in
theorem C5m (hsp:Ki prog AN) (hb0:za.b0=0) (hB:AwB s0 a b z) (h:C1 za w0 st E w Z B) (g:UP s0 a b z m L st) (x:AwH a b z m L) (o:19∉L):Gw.J2 prog Mb (Di 19) (AwI za w0 s0 a b z (19::L)) E w:=by
 have e:∀K,Mf VM AN Mb (Di 19) K st=K (boxS st 7 29 (Ly mO)):=fun K=>by kernel_rfl
 refine C3 ?_ (Ih (cx:=VM) (k:=fun y=>y=boxS st 7 29 (Ly mO)) h (.inl hb0) A3 hsp (by rw[e]));rintro E' D ⟨_,_,Z',B',n,rfl⟩;have l:st.nx=6:=by rw[g.nx,qL o]
 have u:∀j,j≠19->(j∈19::L↔j∈L):=fun j hj=>⟨fun hh=>(qI.1 hh).resolve_left hj,qM _⟩
 have f:UP s0 a b z m (19::L) ⟨(7,0,one1 (.box 6 0))::st.sl,(6,0,awZ)::st.lc,7,st.ct,st.nm,st.fr⟩:=by
  refine⟨(qP rB).symm,g.nm,g.fr,fun s=> ?_,fun k=> ?_⟩
  . refine(IP st 7 s (one1 (.box 6 0))).trans ?_;by_cases c:s=7
    . subst c;rw[qP rfl];exact(qP (rB)).symm
    . rw[qL c,g.S];cases r:Dp a b z m s with
      |none=>rfl
      |some p=>
       obtain⟨j,A⟩:=p;have t:j≠19:=fun e=>c (by subst e;exact fH a b z m (d:=7) (v:=one1 (.box 6 0)) rfl r)
       simp only[u j t]
  . refine(A5e st 6 k awZ).trans ?_;by_cases i:k=6
    . rw[qP i,qP i];exact(qP rB).symm
    . rw[qL i,qL i,g.L,qL i]
 refine⟨m,⟨(7,0,one1 (.box 6 0))::st.sl,(6,0,awZ)::st.lc,7,st.ct,st.nm,st.fr⟩,Z',B',n.look (fun s=> .inl ?_) (fun k=> ?_) rfl (f.nn hB) f.fr g.fr (f.rf hB) (f.rl hB) (f.fh hB),f,x.up (by decide)⟩
 . refine(IP st 7 s (one1 (.box 6 0))).trans ?_;show _=((st.newL _).setS 7 (one1 (.box st.nx 0))).S s;rw[St.S_setS,St.S_newL,l];by_cases c:s=7
   . rw[qP c,qP c]
   . rw[qL c,qL c,g.nc hB 7 s];rfl
 . refine(A5e st 6 k awZ).trans ?_;show _=(st.newL (.box 29 (Ly mO))).L k;rw[St.L_newL,l];rfl
set_option maxRecDepth 100000 in
theorem C5n (hsp:Ki prog AN) (hb0:za.b0=0) (hB:AwB s0 a b z) (h:C1 za w0 st E w Z B) (g:UP s0 a b z m L st) (A:18∈L) (n:19∈L) {k:St->Prop} (hK:k (boxS s0 7 29 (explode mO m))):Gw.J2 prog Mb (Di 20) (Nx za w0 k) E w:=by
 have c:st.S 7=one1 (.box 6 0):=g.at (i:=19) rfl n;have F:st.S 42=awM m:=g.at (i:=18) rfl A;have D:st.L 6=awZ:=(g.L 6).trans ((qP rfl).trans (qP n));have t:(hd1 st 7 (one1 (.box 6 0))).S 42=awM m:=(Lj c _).trans F;have u:(hd1 (hd1 st 7 (one1 (.box 6 0))) 42 (awM m)).L 6=awZ:=D;have e:∀K,Mf VM AN Mb (Di 20) K (hdL (hd1 (hd1 st 7 (one1 (.box 6 0))) 42 (awM m)) 6 awZ)=K ((hdL (hd1 (hd1 st 7 (one1 (.box 6 0))) 42 (awM m)) 6 awZ).setL 6 (.box 29 (explode mO m))):=fun K=>by kernel_rfl
 refine C3 ?_ (Ih (cx:=VM) (k:=fun G=>G=(hdL (hd1 (hd1 st 7 (one1 (.box 6 0))) 42 (awM m)) 6 awZ).setL 6 (.box 29 (explode mO m))) (((h.hd1 c).hd1 t).hdL u) (.inl hb0) A3 hsp (by rw[e]));rintro E' H ⟨_,_,Z',B',x,rfl⟩;have o:∀s,(boxS s0 7 29 (explode mO m)).S s=if s=7 then one1 (.box 6 0)else s0.S s:=fun s=>by
  show((s0.newL _).setS 7 (one1 (.box s0.nx 0))).S s= _;rw[St.S_setS,St.S_newL,hB.nx];by_cases c:s=7
  . rw[qP c,qP c]
  . rw[qL c,qL c,hB.nc 7 s];rfl
 have l:∀q,(boxS s0 7 29 (explode mO m)).L q=if q=6 then .box 29 (explode mO m)else s0.L q:=fun q=>by
  show(s0.newL (.box 29 (explode mO m))).L q= _;rw[St.L_newL,hB.nx]
 have j:(boxS s0 7 29 (explode mO m)).nx=7:=by show s0.nx+1=7;rw[hB.nx]
 refine⟨boxS s0 7 29 (explode mO m),Z',B',x.look (fun s=> ?_) (fun q=> ?_) g.nm.symm (by rw[j];exact qW hB.nm (by omega)) hB.fr g.fr (fun s=> ?_) (fun q=> ?_) (fun q d=> ?_),hK⟩
 . show(boxS s0 7 29 (explode mO m)).S s=(hd1 (hd1 st 7 (one1 (.box 6 0))) 42 (awM m)).S s\/ _;rw[o,Lj t,Lj c,g.S];by_cases r:s=7
   . subst r;exact .inl ((qP rfl).trans (qP n).symm)
   . rw[qL r];by_cases y:24<=s
     . exact .inr (hB.dd s (.inl y))
     . refine .inl ?_;have:Dp a b z m s=none:=by
        unfold Dp;split<;>first|rfl|omega
       rw[this]
 . show(boxS s0 7 29 (explode mO m)).L q= _;rw[l,St.L_setL];by_cases d:q=6
   . rw[qP d,qP d]
   . rw[qL d,qL d,B1m u];show s0.L q=st.L q;rw[g.L,qL d]
 . rw[o,j];split
   . intro v f;simp only[one1,qR]at f;subst f;show(6:Nat)<7;omega
   . exact mH (by omega) (hB.rf s)
 . rw[l,j];split
   . intro v f;simp only[explode,qI,rY,vH,wJ,vJ]at f;rcases f with rfl|rfl|rfl<;>trivial
   . exact A7b (by omega) (hB.rl q)
 . rw[j]at d;rw[l,qL (by omega)];exact hB.fh q (by omega)
theorem C5o:P7 (Di 0)= []:=by kernel_rfl
theorem C5p:P7 (Di 1)= []:=by kernel_rfl
theorem C1f:P7 (Di 2)= [1]:=by kernel_rfl
theorem C5q:P7 (Di 3)= []:=by kernel_rfl
theorem C1g:P7 (Di 4)= [3,2]:=by kernel_rfl
theorem A5m:P7 (Di 5)= [0,2,4]:=by kernel_rfl
theorem C5r:P7 (Di 6)= []:=by kernel_rfl
theorem C5s:P7 (Di 7)= []:=by kernel_rfl
theorem C5t:P7 (Di 8)= []:=by kernel_rfl
theorem C1h:P7 (Di 9)= [8,4]:=by kernel_rfl
theorem jS:P7 (Di 10)= [6,7,9]:=by kernel_rfl
theorem C2j:P7 (Di 11)= []:=by kernel_rfl
theorem C2k:P7 (Di 12)= []:=by kernel_rfl
theorem B2b:P7 (Di 13)= [12,9]:=by kernel_rfl
theorem C2l:P7 (Di 14)= []:=by kernel_rfl
theorem B2c:P7 (Di 15)= [14,13]:=by kernel_rfl
theorem jT:P7 (Di 16)= [11,13,15]:=by kernel_rfl
theorem jU:P7 (Di 17)= [5,10,16]:=by kernel_rfl
theorem B2d:P7 (Di 18)= [17,15]:=by kernel_rfl
theorem C2m:P7 (Di 19)= []:=by kernel_rfl
theorem QN:P7 (Di 20)= [19,18,18,0,1,2,3,4,5,6,7,8,9,10,11,12,13,14,15,16,17,18,19]:=by kernel_rfl
theorem B1z:Mb.length=21:=by kernel_rfl
theorem B7u:sq1 (awB 4)= .region 4 (C6v (sq1 (awB 4))) true:=by kernel_rfl
theorem B2a:prog.follows .mixedOrders=true:=by kernel_rfl
theorem B1y {i:Nat} {o:Oper} (h:Mb[i]? =some o):i<21/\o=Di i:=by
 have a:=(sC.1 h).1;rw[B1z]at a;refine⟨a, ?_⟩;unfold Di;rw[qF,h];rfl
theorem C2h {i j:Nat} (b:i<21) (a:j∈P7 (Di i)):j<i:=by
 rcases(show i=0\/i=1\/i=2\/i=3\/i=4\/i=5\/i=6\/i=7\/i=8\/i=9\/i=10\/i=11\/i=12\/i=13\/i=14\/i=15\/i=16\/i=17\/i=18\/i=19\/i=20 by omega)with rfl|rfl|rfl|rfl|rfl|rfl|rfl|rfl|rfl|rfl|rfl|rfl|rfl|rfl|rfl|rfl|rfl|rfl|rfl|rfl|rfl
 . rw[C5o]at a;cases a
 . rw[C5p]at a;cases a
 . rw[C1f]at a;simp only[qI,rY,vH]at a;omega
 . rw[C5q]at a;cases a
 . rw[C1g]at a;simp only[qI,rY,vH]at a;omega
 . rw[A5m]at a;simp only[qI,rY,vH]at a;omega
 . rw[C5r]at a;cases a
 . rw[C5s]at a;cases a
 . rw[C5t]at a;cases a
 . rw[C1h]at a;simp only[qI,rY,vH]at a;omega
 . rw[jS]at a;simp only[qI,rY,vH]at a;omega
 . rw[C2j]at a;cases a
 . rw[C2k]at a;cases a
 . rw[B2b]at a;simp only[qI,rY,vH]at a;omega
 . rw[C2l]at a;cases a
 . rw[B2c]at a;simp only[qI,rY,vH]at a;omega
 . rw[jT]at a;simp only[qI,rY,vH]at a;omega
 . rw[jU]at a;simp only[qI,rY,vH]at a;omega
 . rw[B2d]at a;simp only[qI,rY,vH]at a;omega
 . rw[C2m]at a;cases a
 . rw[QN]at a;simp only[qI,rY,vH]at a;omega
set_option maxRecDepth 100000 in
theorem A7x {n:Nat} (hsp:Ki prog AN) (hb0:za.b0=0) (hB:AwB s0 a b z) (y:D8 a) (F:D8 b) (J:∀l∈XX a b z,Db K1 l/\(l.length:Int)=3) (h:C1 za w0 s0 E w Z B) {k:St->Prop} (hK:∀M,WfM M->Qm 3 3 (fun i j=>rv (((XX a b z).getD i []).getD j zr)) M->k (boxS s0 7 29 (explode mO M))):Gw.Wp prog n (sq1 (awB 4)) (post za w0 ⟨k,fun _ _=>False,fun _=>False⟩) E w:=by
 rw[B7u];have H:=h.more (Z':=Z) (w':=w.drew) (T8.refl w).drew (fun _ h=>h) (fun _=> .inl);refine B9w (Inv:=fun L E w=>(20∈L/\(∀j,j<21->j∈L)/\Nx za w0 k E w)\/(20∉L/\AwI za w0 s0 a b z L E w)) B2a (fun i Q A j G=> ?_) (fun L i Q E w A t f x=> ?_) (fun L E w I x=> ?_) (.inr ⟨by simp,(0,0,[]),s0,Z,B,H,⟨?_,rfl,hB.fr,fun s=> ?_,fun q=> ?_⟩,fun c=>by simp at c⟩)
 . obtain⟨t,rfl⟩:=B1y A;exact C2h t G
 . obtain⟨O,rfl⟩:=B1y A;rcases x with⟨_,N,_⟩ | ⟨o,m,st,Z,B,h,g,r⟩
   . exact absurd (N i O) t
   rcases(show i=0\/i=1\/i=2\/i=3\/i=4\/i=5\/i=6\/i=7\/i=8\/i=9\/i=10\/i=11\/i=12\/i=13\/i=14\/i=15\/i=16\/i=17\/i=18\/i=19\/i=20 by omega)with rfl|rfl|rfl|rfl|rfl|rfl|rfl|rfl|rfl|rfl|rfl|rfl|rfl|rfl|rfl|rfl|rfl|rfl|rfl|rfl|rfl
   . exact C3 (fun _ _ c=> .inr ⟨fun h=>o ((qI.1 h).resolve_left (by decide)),c⟩) (Mo hsp hb0 hB h g r (d:=24) (fun _=>by kernel_rfl) ((g.S 6).trans hB.s6) ((g.L 5).trans hB.l5) rfl (by decide) (by decide))
   . exact C3 (fun _ _ c=> .inr ⟨fun h=>o ((qI.1 h).resolve_left (by decide)),c⟩) (Mo hsp hb0 hB h g r (d:=25) (fun _=>by kernel_rfl) ((g.S 5).trans hB.s5) ((g.L 4).trans hB.l4) rfl (by decide) (by decide))
   . exact C3 (fun _ _ c=> .inr ⟨fun h=>o ((qI.1 h).resolve_left (by decide)),c⟩) (XY hsp hb0 hB h g r (d:=26) (fun _=>by kernel_rfl) (g.at (s:=25) (i:=1) rfl (f 1 (by rw[C1f];decide))) rfl (by decide) (by decide) F)
   . exact C3 (fun _ _ c=> .inr ⟨fun h=>o ((qI.1 h).resolve_left (by decide)),c⟩) (Mo hsp hb0 hB h g r (d:=27) (fun _=>by kernel_rfl) ((g.S 4).trans hB.s4) ((g.L 3).trans hB.l3) rfl (by decide) (by decide))
   . exact C3 (fun _ _ c=> .inr ⟨fun h=>o ((qI.1 h).resolve_left (by decide)),c⟩) (XY hsp hb0 hB h g r (d:=28) (fun _=>by kernel_rfl) (g.at (s:=27) (i:=3) rfl (f 3 (by rw[C1g];decide))) rfl (by decide) (by decide) y)
   . exact C3 (fun _ _ c=> .inr ⟨fun h=>o ((qI.1 h).resolve_left (by decide)),c⟩) (jR hsp hb0 hB h g r (d:=29) (q:=43) (fun _=>by kernel_rfl) (g.at (s:=24) (i:=0) rfl (f 0 (by rw[A5m];decide))) (g.at (s:=26) (i:=2) rfl (f 2 (by rw[A5m];decide))) (g.at (s:=28) (i:=4) rfl (f 4 (by rw[A5m];decide))) rfl (by decide) (by decide))
   . exact C3 (fun _ _ c=> .inr ⟨fun h=>o ((qI.1 h).resolve_left (by decide)),c⟩) (Mo hsp hb0 hB h g r (d:=30) (fun _=>by kernel_rfl) ((g.S 6).trans hB.s6) ((g.L 5).trans hB.l5) rfl (by decide) (by decide))
   . exact C3 (fun _ _ c=> .inr ⟨fun h=>o ((qI.1 h).resolve_left (by decide)),c⟩) (Mo hsp hb0 hB h g r (d:=31) (fun _=>by kernel_rfl) ((g.S 4).trans hB.s4) ((g.L 3).trans hB.l3) rfl (by decide) (by decide))
   . exact C3 (fun _ _ c=> .inr ⟨fun h=>o ((qI.1 h).resolve_left (by decide)),c⟩) (Mo hsp hb0 hB h g r (d:=32) (fun _=>by kernel_rfl) ((g.S 4).trans hB.s4) ((g.L 3).trans hB.l3) rfl (by decide) (by decide))
   . exact C3 (fun _ _ c=> .inr ⟨fun h=>o ((qI.1 h).resolve_left (by decide)),c⟩) (XY hsp hb0 hB h g r (d:=33) (fun _=>by kernel_rfl) (g.at (s:=32) (i:=8) rfl (f 8 (by rw[C1h];decide))) rfl (by decide) (by decide) y)
   . exact C3 (fun _ _ c=> .inr ⟨fun h=>o ((qI.1 h).resolve_left (by decide)),c⟩) (jR hsp hb0 hB h g r (d:=34) (q:=43) (fun _=>by kernel_rfl) (g.at (s:=30) (i:=6) rfl (f 6 (by rw[jS];decide))) (g.at (s:=31) (i:=7) rfl (f 7 (by rw[jS];decide))) (g.at (s:=33) (i:=9) rfl (f 9 (by rw[jS];decide))) rfl (by decide) (by decide))
   . exact C3 (fun _ _ c=> .inr ⟨fun h=>o ((qI.1 h).resolve_left (by decide)),c⟩) (Mo hsp hb0 hB h g r (d:=35) (fun _=>by kernel_rfl) ((g.S 6).trans hB.s6) ((g.L 5).trans hB.l5) rfl (by decide) (by decide))
   . exact C3 (fun _ _ c=> .inr ⟨fun h=>o ((qI.1 h).resolve_left (by decide)),c⟩) (Mo hsp hb0 hB h g r (d:=36) (fun _=>by kernel_rfl) ((g.S 4).trans hB.s4) ((g.L 3).trans hB.l3) rfl (by decide) (by decide))
   . exact C3 (fun _ _ c=> .inr ⟨fun h=>o ((qI.1 h).resolve_left (by decide)),c⟩) (XY hsp hb0 hB h g r (d:=37) (fun _=>by kernel_rfl) (g.at (s:=36) (i:=12) rfl (f 12 (by rw[B2b];decide))) rfl (by decide) (by decide) y)
   . exact C3 (fun _ _ c=> .inr ⟨fun h=>o ((qI.1 h).resolve_left (by decide)),c⟩) (Mo hsp hb0 hB h g r (d:=38) (fun _=>by kernel_rfl) ((g.S 5).trans hB.s5) ((g.L 4).trans hB.l4) rfl (by decide) (by decide))
   . exact C3 (fun _ _ c=> .inr ⟨fun h=>o ((qI.1 h).resolve_left (by decide)),c⟩) (XY hsp hb0 hB h g r (d:=39) (fun _=>by kernel_rfl) (g.at (s:=38) (i:=14) rfl (f 14 (by rw[B2c];decide))) rfl (by decide) (by decide) F)
   . exact C3 (fun _ _ c=> .inr ⟨fun h=>o ((qI.1 h).resolve_left (by decide)),c⟩) (jR hsp hb0 hB h g r (d:=40) (q:=43) (fun _=>by kernel_rfl) (g.at (s:=35) (i:=11) rfl (f 11 (by rw[jT];decide))) (g.at (s:=37) (i:=13) rfl (f 13 (by rw[jT];decide))) (g.at (s:=39) (i:=15) rfl (f 15 (by rw[jT];decide))) rfl (by decide) (by decide))
   . exact C3 (fun _ _ c=> .inr ⟨fun h=>o ((qI.1 h).resolve_left (by decide)),c⟩) (jR hsp hb0 hB h g r (d:=41) (q:=46) (fun _=>by kernel_rfl) (g.at (s:=29) (i:=5) rfl (f 5 (by rw[jU];decide))) (g.at (s:=34) (i:=10) rfl (f 10 (by rw[jU];decide))) (g.at (s:=40) (i:=16) rfl (f 16 (by rw[jU];decide))) rfl (by decide) (by decide))
   . exact C3 (fun _ _ c=> .inr ⟨fun h=>o ((qI.1 h).resolve_left (by decide)),c⟩) (C5l hsp hb0 hB h g t (f 17 (by rw[B2d];decide)) J)
   . exact C3 (fun _ _ c=> .inr ⟨fun h=>o ((qI.1 h).resolve_left (by decide)),c⟩) (C5m hsp hb0 hB h g r t)
   . exact C3 (fun _ _ c=> .inl ⟨rB,fun j G=>if e:j=20 then qI.2 (.inl e)else qM _ (f j (by rw[QN];simp only[qI,rY,vH];omega)),c⟩) (C5n hsp hb0 hB h g (f 18 (by rw[QN];decide)) (f 19 (by rw[QN];decide)) (hK m (r (f 18 (by rw[QN];decide))).1 (r (f 18 (by rw[QN];decide))).2))
 . rcases x with⟨_,_,P⟩ | ⟨o,_⟩
   . exact P
   . exact absurd (I 20 (show 20<Mb.length by rw[B1z];decide)) o
 . rw[hB.nx];exact(qL (by simp)).symm
 . cases u:Dp a b z (0,0,[]) s with
   |none=>rfl
   |some p=>
    obtain⟨i,v⟩:=p;have:s=7\/24<=s:=by
     unfold Dp at u;split at u<;>first| (cases u;omega) |cases u
    simp only[rY,yC];exact hB.dd s (this.symm)
 . by_cases D:q=6
   . rw[qP D,D,qL (by simp)];exact hB.fh 6 (qZ _)
   . rw[qL D]
end
def B2h (a:St) (s k:Nat):Option QQ:=match a.S s with
 | .one ⟨false,[.box b 0]⟩=>bif Nat.beq b k then(match a.L k with
  | .box T [.val .bool a, .val (.sl (.int .u32)) b, .val (.sl (.int .u32)) c]=>bif Nat.beq T 43 then some ((a,b),c)else none
  | _=>none)else none
 | _=>none
def jW {c:St} {s k:Nat} {q:QQ} (h:B2h c s k=some q):c.S s=one1 (.box k 0)/\c.L k= .box 43 (explode tQ q):=by
 unfold B2h at h;split at h
 . rename_i l f;obtain⟨a,h⟩:=E4 h;have a:=qE a;subst a;split at h
   . rename_i T g i j d;obtain⟨b,h⟩:=E4 h;have b:=qE b;subst b;cases h;exact⟨f,d⟩
   . cases h
 . cases h
def slB (x:Nat×Nat×DV):Bool:=Nat.blt x.1 24&& !(Nat.beq x.1 7)&&(match x.2.2 with
 | .cnd _ _ _=>false
 | _=>true)
def awK (a:St):Bool:=Nat.beq a.nx 6&&Nat.ble a.nm 6&&a.fr.isEmpty&&a.sl.all slB
def XW:∀ {sl:List (Nat×Nat×DV)},sl.all slB=true->∀s,((24<=s\/s=7)->(find (0, .dead) s sl).2= .dead)/\∀d,Nu d (find (0, .dead) s sl).2=false
 | [],_,s=>⟨fun _=>rfl,fun _=>rfl⟩
 | (t,i,v)::l,h,s=>by
  simp only[tA,qC]at h;have g:=XW h.2 s;simp only[slB,qC,rO]at h;obtain⟨⟨⟨a,b⟩,f⟩,_⟩:=h;have a:t<24:=qT a;have b:t≠7:=uW b;simp only[find];by_cases c:t=s
  . subst c;simp only[xN,qV];refine⟨fun j=>by omega,fun d=> ?_⟩;cases v with
    |cnd _ _ _=>cases f
    | _=>rfl
  . rw[D3 c];exact g
def awS (k:St->Prop) (a:St):Prop:=match B2h a 4 3,B2h a 5 4,B2h a 6 5 with
 |some b,some c,some z=>bif awK a then(D8 b/\D8 c/\∀(l:List QQ),l∈XX b c z->Db K1 l/\(l.length:Int)=3)/\∀(p:MM),WfM p->Qm 3 3 (fun i j=>rv (((XX b c z).getD i []).getD j zr)) p->k (boxS a 7 29 (explode mO p))else False
 | _,_,_=>False
def C2e {d:Zn} {j:World} {n:Nat} {c:St} {E:G8} {w:World} {Z:Nat->Prop} {B:Nat->Value} {k:St->Prop} (J:Ki prog AN) (F:d.b0=0) (h:C1 d j c E w Z B) (b:awS k c):Gw.Wp prog n (sq1 (awB 4)) (post d j ⟨k,fun _ _=>False,fun _=>False⟩) E w:=by
 unfold awS at b;split at b
 . rename_i Q R V A D M;obtain⟨f,⟨v,x,y⟩,z⟩:=B9 b;simp only[awK,qC]at f;obtain⟨⟨⟨a,N⟩,g⟩,i⟩:=f;have a:=qE a;have G:c.fr= []:=by
    cases H:c.fr with
    |nil=>rfl
    |cons T U=>rw[H]at g;cases g
   obtain⟨l,o⟩:=jW A;obtain⟨r,t⟩:=jW D;obtain⟨O,P⟩:=jW M;exact A7x J F ⟨a,qT N,G,l,r,O,o,t,P,fun s=>(XW i s).1,fun u s=>(XW i s).2 u,fun s=>by rw[<-a];exact h.refs s,fun q=>by rw[<-a];exact h.refl q,fun q I=>h.fresh q (by rw[a];exact I)⟩ v x y h z
 . exact b.elim
def awN (k:St->Prop):K:=⟨k,fun _ _=>False,fun _=>False⟩
noncomputable def awF (x:A2 I3.args):Prop:=
 Kc VM AN {} (sq1 (awB 0)) (awN (Kc VM AN {} (sq1 (awB 1)) (awN (Kc VM AN {} (sq1 (awB 2)) (awN (Kc VM AN {} (sq1 (awB 3)) (awN (awS (Kc VM AN {} (awB 5) ⟨fin VM I3 f10.results.toList x,fun _ _=>False,fin VM I3 f10.results.toList x⟩))))))))) (ZD prog I3.args x)
def awE (q:QQ):List (Int×Int×QQ×QQ):= [(0,1,q,(false,[]),[]),(1,2,q,(false,[]),[]),(0,2,q,(false,[]),[])]
abbrev C7l:=(Xr×MM×Int×Int×List (List EE))×Int×Unit
def Im:A2 I3.args->Prop:=fun(x:Unit)=>let g:=(0:Int);let f:=(3:Int);True/\∀(r:D5),let c:=(f,(awE r.1));Zr r.1/\True->r.1=ri (1:Int)->(E2 c->N5 c)/\∀(h:C7l),let d:Prop:=(h.2.1=g);(MK h.1.1/\WfM h.1.2.1/\I2 h.1.2.2.1/\I2 h.1.2.2.2.1/\Rw h.1.2.2.2.2)/\I2 h.2.1/\True->(¬E2 c->h.2.1=1)/\(E2 c->h.2.1=g/\h.1.1=K7 f (Nh (awE r.1))/\∃(G:Nat->Nat->Rat),Kl c G/\(∀(a b:Nat),a<Int.toNat f->b<Int.toNat f->qs K0 (G a b))/\Qm (awE r.1).length f.toNat (Hl (awE r.1) G) h.1.2.1/\Qm (awE r.1).length (awE r.1).length (shF (awE r.1) G) h.1.2.2)->True/\∀(r:D5),Zr r.1/\True->r.1=rc (Rat.divInt (1:Int) f)->True/\∀(k:D5),Zr k.1/\True->k.1=rc (Rat.divInt (2:Int) f)->True/\∀(m:D5),Zr m.1/\True->m.1=rc (0:Rat)->(D8 r.1/\D8 k.1/\∀(l:List QQ),l∈(XX r.1 k.1 m.1)->Db K1 l/\(l.length:Int)=3)/\∀(p:MM),WfM p->Qm 3 3 (fun i j=>rv (((XX r.1 k.1 m.1).getD i []).getD j zr)) p->(decide d=true->True)/\∀(r:V4),(decide d=true->(True/\True)/\r.1=decide (h.1.1= [g,g,g]))->(L8 (decide d) r.1 false=true->X0 K1 h.1.2.1)/\∀(n:V4),(L8 (decide d) r.1 false=true->(True/\True)/\(n.1=true↔h.1.2.1=p/\∀(v:List EE),v∈h.1.2.1.2.2->∀(e:EE),e∈v->e.2=rc (rv e.2)))->L8 (L8 (decide d) r.1 false) n.1 false=true
def OW (x:A2 I3.args):awF x=Im x:=by kernel_rfl
def C2i:f10.body.getD .skip= .seq (sq1 (awB 0)) (.seq (sq1 (awB 1)) (.seq (sq1 (awB 2)) (.seq (sq1 (awB 3)) (.seq (sq1 (awB 4)) (awB 5))))):=by kernel_rfl
set_option maxRecDepth 100000 in
def dX (f:Ki prog AN) (h:∀x,awf I3.args x->I3.pre x->Im x):A7 prog 10 I3:=by
 refine A9k (cx:=VM) (fn:=f10) (c:=f10.body.getD .skip) func10 (by kernel_rfl) (qT (by kernel_rfl)) (by kernel_rfl) A3 fun x i g j b E w Z B d a=> ?_
 have b:awF x:=(OW x).mpr (h x i g);rw[C2i];exact B6m (Xp (cx:=VM) (an:= {}) A3 f d a b) fun _ _ _ _ _ a b=>B6m (Xp (cx:=VM) (an:= {}) A3 f d a b) fun _ _ _ _ _ a b=>B6m (Xp (cx:=VM) (an:= {}) A3 f d a b) fun _ _ _ _ _ a b=>B6m (Xp (cx:=VM) (an:= {}) A3 f d a b) fun _ _ _ _ _ a b=>B6m (C2e f d a b) fun _ _ _ _ _ a b=>Xp (cx:=VM) (an:= {}) A3 f d a b
def Nn:An:= {loop:= [(5,⟨[5,6,24,25],[0,2],[(7,false,[.own tQ 43]),(26,false,vI)],[],[]⟩)],plan:= [(2,[2],[4],true,(.p 0 (.q 2 (.e 1 (.e 3 (.e 4 (.p 5 .done)))))))]}
def Er:A2 G2.args->Prop:=fun(x:Fq)=>let s:=(1:Int);let c:=(0:Int);True/\∀(r:A4w),let k:=(Nh r.1.2);let g:=r.1.2.length;let u:=(↑g:Int);(I2 r.1.1/\List.length r.1.2<=9223372036854775807/\∀(x:Int×Int×QQ×(Bool×Xr)×Xr),x∈r.1.2->I2 x.1/\I2 x.2.1/\Zr x.2.2.1/\Zr x.2.2.2)/\True->B3u r.1->True/\∀(B:Sp),let n:=(B.1.1.length:Int);(MK B.1.1/\I2 B.1.2)/\True->B.1=(x.2.1,c)->E2 r.1/\rT7 fun C=>C.1=K7 r.1.1 k->(List.length C.1<=7/\(∀(b:Int),b∈C.1->c<=b/\b<(C.1.length:Int)/\List.getD C.1 b.toNat c=b)/\c<=B.1.2/\B.1.2<=n)/\∀(y:OL) (o:Sp),let m:=y.1.length;MG y.1/\True->((Ty.int i64).sl.pair (Ty.int i64)).wf o.1/\True->(y.1.length=List.length C.1/\Dq C.1 y.1/\∀(e:QQ),e∈y.1->∃(q:Rat),qs (64:Nat) q/\e=rc q)->o.1.1=B.1.1/\c<=o.1.2/\o.1.2<=n->∃(I:Ra->Prop),∃(d: _->Nat),I ([],c,())/\∀(p:Ra),let v:=(↑p.1.length:Int);let f:=(gx (c,c,dQ,(false,[]),[]) r.1.2 p.2.1);let h:=(p.1++ [f.2.2.2],i64.wrap (p.2.1+s),());tQ.sl.wf p.1/\(Ty.int i64).wf p.2.1/\True->I p->(iB (decide (p.2.1<u)) ((c<=p.2.1/\p.2.1<u)/\((p.1.length+ [f.2.2.2].length)*(56:Nat)<=(140737488355328:Nat)/\p.1.length+ [f.2.2.2].length<=9223372036854775807)/\I h/\d h<d p) ((E2 r.1->N5 r.1)/\∀(w:C7l),(MK w.1.1/\WfM w.1.2.1/\I2 w.1.2.2.1/\I2 w.1.2.2.2.1/\Rw w.1.2.2.2.2)/\I2 w.2.1/\True->(¬E2 r.1->w.2.1=s)/\(E2 r.1->w.2.1=c/\w.1.1=K7 r.1.1 k/\∃(G:Nat->Nat->Rat),Kl r.1 G/\(∀(a b:Nat),a<Int.toNat r.1.1->b<Int.toNat r.1.1->qs K0 (G a b))/\Qm g r.1.1.toNat (Hl r.1.2 G) w.1.2.1/\Qm g g (shF r.1.2 G) w.1.2.2)->(X0 K4 w.1.2.1/\X0 K4 w.1.2.2/\Db (128:Nat) y.1/\Db (128:Nat) p.1/\List.length y.1<=10/\p.1.length<=(10:Nat))/\∀(A:Ra),MG A.1/\I2 A.2.1/\True->(¬Ph w.1->A.1= []/\A.2.1=s)/\(Ph w.1->(¬(List.length y.1=List.length w.1.1/\v=w.1.2.2.2.1)->A.1= []/\A.2.1=4)/\(List.length y.1=List.length w.1.1/\v=w.1.2.2.2.1->A.2.1=c/\A.1=IU w.1.2.1.1.toNat fun(l:Nat)=>(B7 m fun(j:Nat)=>el w.1.2.1 l j*O3 y.1 j)+B7 p.1.length fun(j:Nat)=>el w.1.2.2 l j*O3 p.1 j))->(E2 r.1->N5 r.1/\Db (128:Nat) y.1)/\∀(z:Ra),let i:=(decide (z.2.1=c));MG z.1/\I2 z.2.1/\True->(¬E2 r.1->z.1= []/\z.2.1=s)/\(E2 r.1->((↑m:Int)≠r.1.1->z.1= []/\z.2.1=4)/\((↑m:Int)=r.1.1->(¬Dq (K7 r.1.1 k) y.1->z.1= []/\z.2.1=14)/\(Dq (K7 r.1.1 k) y.1->z.2.1=c/\Db K2 z.1/\∃(t:Nat->Rat),(∀(b:Nat),b<Int.toNat r.1.1->Ke r.1.2 (PX r.1.2 t) b=O3 y.1 b)/\z.1=IU g (PX r.1.2 t))))->True/\Ni fun r=>let d:=(L8 (L8 r.1 (decide (w.2.1=c)) false) (decide (A.2.1=c)) false);r.1=true->(L8 d i false=true->(∀(e:QQ),e∈A.1->D8 e)/\∀(e:QQ),e∈z.1->D8 e)/\∀(D:V4),(L8 d i false=true->(True/\True)/\D.1=decide (A.1=z.1/\∀(e:QQ),e∈A.1->e=rc (rv e)))->L8 (L8 d i false) D.1 false=true))
def A3b {e:C0} (h:Qc e) {k:Nat} (b:1<=k):sz k e:=by
 obtain⟨q,a,rfl⟩:=h;exact⟨qW a.1 b,qW a.2 b⟩
def A8s {N:Hj} (h:B3u N):N5 N:=⟨by have:=h.2.2.1;omega,h.2.2.2.1,fun e a=>⟨A3b (h.2.2.2.2 e a).1 (by decide),A3b (h.2.2.2.2 e a).2 (by decide)⟩⟩
def C6y {k:Int} (b:k.natAbs<4294967296):sz 1 (ri k)/\qs 1 (k:Rat):=by
 have:=B6d (a:=k) (by omega);exact⟨by rw[DK];exact⟨this.1,this.2⟩,this⟩
def Bq:List Pz:= [(0,1,rc 1,zr),(1,2,rc 1,zr),(0,2,rc 1,zr)]
def C4p:E2 (3,Bq):=by
 refine⟨show(0:Int)<=3 by decide,show(3:Int)<=16384 by decide,show 3<=16384 by decide,fun e b=> ?_⟩;have a:(0:Rat)<rv (rc 1):=by rw[D7];decide
 simp only[Bq,qI,rY,vH]at b;rcases b with rfl|rfl|rfl
 . exact⟨show(0:Int)<=0 by decide,show(0:Int)<3 by decide,show(0:Int)<=1 by decide,show(1:Int)<3 by decide,show(0:Int)≠1 by decide,a⟩
 . exact⟨show(0:Int)<=1 by decide,show(1:Int)<3 by decide,show(0:Int)<=2 by decide,show(2:Int)<3 by decide,show(1:Int)≠2 by decide,a⟩
 . exact⟨show(0:Int)<=0 by decide,show(0:Int)<3 by decide,show(0:Int)<=2 by decide,show(2:Int)<3 by decide,show(0:Int)≠2 by decide,a⟩
def A4u:N5 (3,Bq):=by
 refine⟨show(3:Int)<=7 by decide,show 3<=9 by decide,fun e a=> ?_⟩;have c:sz 2 (rc 1):=by
  have:=(C6y (k:=1) (by decide)).1;rw[DK]at this;exact F5 this (by decide)
 have b:sz 2 zr:=⟨rM _,rM _⟩;simp only[Bq,qI,rY,vH]at a;rcases a with rfl|rfl|rfl<;>exact⟨c,b⟩
def jB:K7 3 (Nh Bq)= [0,0,0]:=by
 have:Nh Bq= [(0,1),(1,2),(0,2)]:=rfl;rw[this];decide
def A1d {b:Nat} (a:b<3):J4 (3,Bq) b=0:=by
 unfold J4;rw[show K7 (3:Int) (Nh Bq)= [0,0,0]from jB];rcases(show b=0\/b=1\/b=2 by omega)with rfl|rfl|rfl<;>rfl
def C4o (G:Nat->Nat->Rat) (b:Nat):Hl Bq G 0 b=G 0 b-G 1 b/\Hl Bq G 1 b=G 1 b-G 2 b/\Hl Bq G 2 b=G 0 b-G 2 b:=by
 have a:Gz Bq 0=1:=D7 1;have c:Gz Bq 1=1:=D7 1;have d:Gz Bq 2=1:=D7 1;refine⟨?_, ?_, ?_⟩<;>unfold Hl
 . rw[a,wU];rfl
 . rw[c,wU];rfl
 . rw[d,wU];rfl
def C4n (f:Nat->Rat):Ke Bq f 0=f 0+f 2/\Ke Bq f 1=f 1-f 0/\Ke Bq f 2= -f 1-f 2:=by
 have e:∀b,Ke Bq f b=0+IQ (W8 Bq) (W9 Bq) b 0*f 0+IQ (W8 Bq) (W9 Bq) b 1*f 1+IQ (W8 Bq) (W9 Bq) b 2*f 2:=fun b=>rfl
 have a:W8 Bq 0=0:=rfl;have c:W8 Bq 1=1:=rfl;have d:W8 Bq 2=0:=rfl;have g:W9 Bq 0=1:=rfl;have h:W9 Bq 1=2:=rfl;have i:W9 Bq 2=2:=rfl;refine⟨?_, ?_, ?_⟩<;>rw[e]<;>unfold IQ<;>simp only[a,c,d,g,h,i]<;>simp<;>grind
def C1w (l b:Nat):Rat:=(([[0, -2, -1],[0,1, -1],[0, -1, -2]]:List Xr).getD l []).getD b 0/3
def jC {G:Nat->Nat->Rat} (y:Kl (3,Bq) G):∀l b,l<3->b<3->Hl Bq G l b=C1w l b:=by
 have z:∀b,b<3->G 0 b=0/\(Hl Bq G 0 b+Hl Bq G 2 b=(if b=0 then 1 else 0)-1)/\(Hl Bq G 1 b-Hl Bq G 0 b=if b=1 then 1 else 0)/\(-Hl Bq G 1 b-Hl Bq G 2 b=if b=2 then 1 else 0):=fun b n=>by
  obtain⟨x,t⟩:=y b n;obtain⟨u,v,w⟩:=C4n fun l=>Hl Bq G l b
  have i:=t 0 (show 0<3 by decide);have j:=t 1 (show 1<3 by decide);have k:=t 2 (show 2<3 by decide);rw[A1d n]at i j k;simp only at i j k;rw[u]at i;rw[v]at j;rw[w]at k;refine⟨x 0 (show 0<3 by decide) (A1d (by decide)),i, ?_, ?_⟩
  . rw[j,qL (show¬(0:Nat)=1 by decide)];grind
  . rw[k,qL (show¬(0:Nat)=2 by decide)];grind
 intro l b A n;obtain⟨d,o,r,s⟩:=z b n;obtain⟨f,g,h⟩:=C4o G b;rw[f,h]at o;rw[g,f]at r;rw[g,h]at s;rcases(show b=0\/b=1\/b=2 by omega)with rfl|rfl|rfl
 . rw[qP rfl]at o;rw[qL (by decide)]at r s;have a:G 1 0=0:=by grind
   have c:G 2 0=0:=by grind
   rcases(show l=0\/l=1\/l=2 by omega)with rfl|rfl|rfl
   . rw[f,d,a];decide+kernel
   . rw[g,a,c];decide+kernel
   . rw[h,d,c];decide+kernel
 . rw[qL (by decide)]at o s;rw[qP rfl]at r;have a:G 1 1=2/3:=by grind
   have c:G 2 1=1/3:=by grind
   rcases(show l=0\/l=1\/l=2 by omega)with rfl|rfl|rfl
   . rw[f,d,a];decide+kernel
   . rw[g,a,c];decide+kernel
   . rw[h,d,c];decide+kernel
 . rw[qL (by decide)]at o r;rw[qP rfl]at s;have a:G 1 2=1/3:=by grind
   have c:G 2 2=2/3:=by grind
   rcases(show l=0\/l=1\/l=2 by omega)with rfl|rfl|rfl
   . rw[f,d,a];decide+kernel
   . rw[g,a,c];decide+kernel
   . rw[h,d,c];decide+kernel
def A8x {R C:Nat} {f:Nat->Nat->Rat} {m:Dn} (h:Qm R C f m):∀v∈m.2.2,∀e∈v,e.2=rc (rv e.2):=fun v c e a=>by
 obtain⟨i,b,rfl⟩:=P3 [] c;exact((h.2.2.2 i (by rw[<-h.2.2.1];exact b)).1.2 e a).2
def C6u {N:Hj} {G:Nat->Nat->Rat} {f:TFV} (h:E2 N) (g:N5 N) (n:∀e∈N.2,Av e.2.2.1) (j:∀a b,a<N.1.toNat->b<N.1.toNat->qs K0 (G a b)) (i:f.1=K7 N.1 (Nh N.2)) (c:Qm N.2.length N.1.toNat (Hl N.2 G) f.2.1) (d:Qm N.2.length N.2.length (shF N.2 G) f.2.2):Ph f/\X0 K3 f.2.1:=by
 have k:=g.2.1;have k:=g.1;refine⟨⟨Nf c (by omega) (by omega),Nf d (by omega) (by omega),d.1.trans c.1.symm,d.2.1.trans c.1.symm, ?_⟩,KG c (by decide) fun o r k l=>F8 (mA h g n j k l) (by decide)⟩;rw[i,(Au h).1];exact c.2.1
def B3v {N:Hj} (b:B3u N):∀e∈N.2,Av e.2.2.1:=fun e a=>by
 obtain⟨⟨q,_,h⟩,_⟩:=b.2.2.2.2 e a;rw[h];exact WO q
def bP:qs 1 (Rat.divInt 1 3)/\qs 1 (Rat.divInt 2 3):=by
 obtain⟨q,d,c⟩:=Ql (a:=1) (b:=3) (by omega) (by omega) (by omega);obtain⟨h,f,g⟩:=Ql (a:=2) (b:=3) (by omega) (by omega) (by omega);have e:Rat.divInt 1 3=q:=by rw[<-D7 (Rat.divInt 1 3),c,D7]
 have c:Rat.divInt 2 3=h:=by rw[<-D7 (Rat.divInt 2 3),g,D7]
 rw[e,c];exact⟨d,f⟩
def A5l:∀i j,i<3->j<3->rv (((XX (rc (Rat.divInt 1 3)) (rc (Rat.divInt 2 3)) (rc 0)).getD i []).getD j zr)=C1w i j:=by
 intro i j c d;have a:Rat.divInt 1 3=1/3:=by decide+kernel
 have b:Rat.divInt 2 3=2/3:=by decide+kernel
 rcases(show i=0\/i=1\/i=2 by omega)with rfl|rfl|rfl<;>rcases(show j=0\/j=1\/j=2 by omega)with rfl|rfl|rfl
 . show rv (rc 0)= _;rw[D7];decide+kernel
 . show rv (rc (-rv (rc (Rat.divInt 2 3))))= _;rw[D7,D7,b];decide+kernel
 . show rv (rc (-rv (rc (Rat.divInt 1 3))))= _;rw[D7,D7,a];decide+kernel
 . show rv (rc 0)= _;rw[D7];decide+kernel
 . show rv (rc (Rat.divInt 1 3))= _;rw[D7,a];decide+kernel
 . show rv (rc (-rv (rc (Rat.divInt 1 3))))= _;rw[D7,D7,a];decide+kernel
 . show rv (rc 0)= _;rw[D7];decide+kernel
 . show rv (rc (-rv (rc (Rat.divInt 1 3))))= _;rw[D7,D7,a];decide+kernel
 . show rv (rc (-rv (rc (Rat.divInt 2 3))))= _;rw[D7,D7,b];decide+kernel
def nW:∀l∈XX (rc (Rat.divInt 1 3)) (rc (Rat.divInt 2 3)) (rc 0),Db K1 l/\(l.length:Int)=3:=by
 obtain⟨b,f⟩:=bP;have d:∀ {q:Rat},qs 1 q->sz K1 (rc (-rv (rc q))):=fun {q} h=>by rw[D7];exact F5 (Vm (SG h)) (by decide)
 have g:sz K1 (rc 0):=Vm (N3 (by decide));intro l a;unfold XX at a;simp only[qI,rY,vH]at a;rcases a with rfl|rfl|rfl<;>refine⟨fun e c=> ?_,rfl⟩<;>simp only[qI,rY,vH]at c<;>rcases c with rfl|rfl|rfl<;>first
  |exact g
  |exact d b
  |exact d f
  |exact F5 (Vm b) (by decide)
def OX (x:A2 I3.args) (I:awf I3.args x) (H:I3.pre x):Im x:=by
 obtain⟨_⟩:=x;simp only[Im];refine⟨trivial, ?_⟩;rintro⟨one,_⟩ _ n;simp only at n⊢;subst n;have s:awE (ri 1)=Bq:=by unfold awE Bq;rw[DK];rfl
 rw[s];refine⟨fun _=>A4u, ?_⟩;rintro⟨f,e,_⟩ _ ⟨_,c⟩;change TFV at f;change Int at e;simp only at c⊢;obtain⟨d,r,G,h,F,b,E⟩:=c C4p;clear c;subst d;refine⟨trivial, ?_⟩;rintro⟨B,_⟩ _ k;simp only at k⊢;subst k;refine⟨trivial, ?_⟩;rintro⟨D,_⟩ _ l;simp only at l⊢;subst l;refine⟨trivial, ?_⟩;rintro⟨O,_⟩ _ o;simp only at o⊢;subst o;refine⟨⟨J7 bP.1 (by decide),J7 bP.2 (by decide),nW⟩, ?_⟩;intro M _ t;have u:f.2.1=M:=B8t b t fun i j hi hj=>(jC h i j hi hj).trans (A5l i j hi hj).symm
 have w:X0 K1 f.2.1:=KG b (by decide) fun i j hi hj=>by
  rw[jC h i j hi hj, <-A5l i j hi hj];have v:((XX (rc (Rat.divInt 1 3)) (rc (Rat.divInt 2 3)) (rc 0)).getD i []).getD j zr∈(XX (rc (Rat.divInt 1 3)) (rc (Rat.divInt 2 3)) (rc 0)).getD i []:=B4 (by
   rcases(show i=0\/i=1\/i=2 by have:i<3:=hi;omega)with rfl|rfl|rfl<;>exact hj)
  have y:=(nW _ (B4 (show i<3 from hi))).1 _ v;refine U4 ?_ y (by decide);rcases(show i=0\/i=1\/i=2 by have:i<3:=hi;omega)with rfl|rfl|rfl<;>rcases(show j=0\/j=1\/j=2 by have:j<3:=hj;omega)with rfl|rfl|rfl<;>exact WO _
 simp only[g1h,true_implies];rw[r,jB];refine⟨trivial, ?_⟩;rintro⟨J,_⟩ ⟨_,g⟩;simp only at g⊢;rw[rD (by trivial)]at g;subst g;refine⟨fun _=>w, ?_⟩;rintro⟨N,_⟩ a;simp only at a⊢;have a:=(a rfl).2;rw[a.2 ⟨u,fun A z e d=> ?_⟩]
 . rfl
 . exact A8x b A z e d
def MO:An:= {loop:= [(4,⟨[0,1],[],[(5,false,vI)],[],[]⟩)],plan:= [(6,[3,7],[],true,(pZ9 0 3 (.q 3 (pZ9 4 3 (.q 7 (.p 8 .done))))))]}
def Rc:A2 U8.args->Prop:=fun(x:Fq)=>let f:Prop:=(x.1=x.2.1);let e:=(0:Int);let b:=(x.2.1.length:Int);let a:=(x.1.length:Int);(iB (decide (a≠b)) (false=decide f) (∃(I:C8->Prop),∃(c: _->Nat),I (e,())/\∀(p:C8),let d:=(i64.wrap (p.1+1),());let g:Prop:=(gx e x.1 p.1≠gx e x.2.1 p.1);(Ty.int i64).wf p.1/\True->I p->(iB (decide (p.1<a)) ((e<=p.1/\p.1<a)/\(e<=p.1/\p.1<b)/\(iB (decide g) (false=decide f) (I d/\c d<c p))) (true=decide f))))
def EN (x:A2 U8.args) (k:awf U8.args x) (_:U8.pre x):Rc x:=by
 obtain⟨a,f,_⟩:=x;have l:a.length<=9223372036854775807:=k.1.1;change Xr at a f;simp only[Rc,iB];refine⟨fun h=> ?_,fun h=> ?_⟩
 . have h:=qA h;exact(rE fun e=>h (by rw[e])).symm
 . have n:a.length=f.length:=by have:=qB h;omega
   refine⟨fun p=>0<=p.1/\p.1<=(a.length:Int)/\a.take p.1.toNat=f.take p.1.toNat,fun p=>((a.length:Int)-p.1).toNat,⟨qG _,qD _,by simp⟩, ?_⟩;rintro⟨i,_⟩ _ ⟨c,j,g⟩;change Int at i;simp only at c j g⊢;refine⟨fun h=> ?_,fun h=> ?_⟩
   . have h:=qA h;refine⟨⟨c,h⟩,⟨c,by omega⟩,fun b=> ?_,fun b=> ?_⟩
     . have b:=qA b;exact(rE fun e=>b (by rw[e])).symm
     . have b:gx 0 a i=gx 0 f i:=by simpa using b
       rw[wv (by omega)];refine⟨⟨by omega,by omega, ?_⟩,by omega⟩;rw[show(i+1).toNat=i.toNat+1 from by omega,rP,rP,H1 (d:=(0:Int)) c h,H1 (d:=(0:Int)) c (by omega),g,b]
   . have h:=qB h;rw[D4 (by omega),D4 (by omega)]at g;exact(rD g).symm
def B9f {n:Nat} (f:Nat->Rat):List.map (fun i=>rc (f i)) (List.range n)=IU n f:=rfl
def Wd (x:A2 S8.args) (z:awf S8.args x) (a8:S8.pre x):Lf x:=by
 obtain⟨⟨sl,⟨a,c,n⟩,⟨k,b,d⟩⟩,X,S,_⟩:=x;have a6:dW (a,c,n):=Wz z.1.2.1.2.2.2;have a7:dW (k,b,d):=Wz z.1.2.2.2.2.2;have a5:∀q∈X,Av q:=fun q hq=>N7 (z.2.1.2 q hq)
 have a4:∀q∈S,Av q:=fun q hq=>N7 (z.2.2.1.2 q hq)
 change Xr at sl;change Int at a c k b;change List (List D6)at n d;change List C0 at X S;obtain⟨V,W,Y,Z,ac,ad⟩:X0 K4 (a,c,n)/\X0 K4 (k,b,d)/\Db 128 X/\Db 128 S/\X.length<=10/\S.length<=10:=a8;simp only[Lf,iB,H4,Ni,g4t];refine⟨trivial, ?_⟩;rintro⟨ap,_⟩ _ v;simp only at v⊢;by_cases r:Ph (sl,(a,c,n),(k,b,d))
 case neg=>
  rw[rE r]at v;subst v;exact⟨fun _=>⟨fun _=>by first|trivial|exact⟨by trivial,by trivial⟩,fun h=>absurd h r⟩,fun h=>(by cases h)⟩
 rw[rD r]at v;subst v;refine⟨fun h=>(by cases h),fun _=> ?_⟩;obtain⟨w,N,ag,ah,ai⟩:=id r;simp only at w N ag ah ai;have an:a<=16384:=w.2.1;have ao:0<=a:=w.1;have Q:L8 (decide ((X.length:Int)≠(sl.length:Int))) true (decide ((S.length:Int)≠b))=true↔¬(X.length=sl.length/\(S.length:Int)=b):=by
  rw[J1];simp only[uC,decide_eq_true_iff];omega
 refine⟨fun h=> ?_,fun h=> ?_⟩
 . have h:=Q.1 h;exact⟨fun g=>absurd r g,fun _=>⟨fun _=>by first|trivial|exact⟨by trivial,by trivial⟩,fun g=>absurd g h⟩⟩
 have H:X.length=sl.length/\(S.length:Int)=b:=qQ fun g=>by rw[Q.2 g]at h;cases h
 obtain⟨a9,U⟩:=H;have ak:K4=100000000000:=rfl;have aj:K1=549755813888:=rfl;refine⟨⟨K4,128,10,by decide,by decide,V,Y,by show c<= _;omega,by decide,by decide⟩, ?_⟩;rintro⟨t,e,_⟩ _ ⟨_,B⟩;change List C0 at t;change Int at e;simp only at B⊢;obtain⟨D,G⟩:=(B w).2 (show(X.length:Int)=c by omega);clear B;subst G;refine⟨fun h=>by simp at h,fun _=>⟨⟨K4,128,10,by decide,by decide,W,Z,by show b<= _;omega,by decide,by decide⟩, ?_⟩⟩;rintro⟨u,e,_⟩ _ ⟨_,E⟩;change List C0 at u;change Int at e;simp only at E⊢;obtain⟨F,G⟩:=(E N).2 U;clear E;subst G;refine⟨fun h=>by simp at h,fun _=> ?_⟩;rw[B9f]at D F;have a3:t.length=a.toNat:=by rw[D,Mu]
 have am:u.length=a.toNat:=by rw[F,Mu];omega
 have ae:∀l,qs ((X.length)*(K4+128+1)+1) (B7 X.length fun j=>el (a,c,n) l j*rv (X.getD j zr)):=fun l=>OH fun j hj=>Ju (C1k w a6 V (by decide) l j) (U4 (a5 _ (B4 hj)) (Y _ (B4 hj)) (by decide))
 have af:∀l,qs ((S.length)*(K4+128+1)+1) (B7 S.length fun j=>el (k,b,d) l j*rv (S.getD j zr)):=fun l=>OH fun j hj=>Ju (C1k N a7 W (by decide) l j) (U4 (a4 _ (B4 hj)) (Z _ (B4 hj)) (by decide))
 have T:∀m:Nat,m<=10->m*(K4+128+1)+1<=2199023255552:=fun m hm=>qW (Nat.add_le_add_right (rJ _ hm) 1) (by decide)
 rw[a3];simp only[qH,rC];refine⟨⟨qD _,qG _,by omega,by omega⟩,fun p=>0<=p.1/\p.1<=(a.toNat:Int)/\p.2.1.length=a.toNat/\∀l:Nat,(l:Int)<p.1->p.2.1.getD l zr=rc ((B7 X.length fun j=>el (a,c,n) l j*O3 X j)+B7 S.length fun j=>el (k,b,d) l j*O3 S j),fun p=>((a.toNat:Int)-p.1).toNat,⟨qG _,qD _,rC,fun l y=>by simp only at y;omega⟩, ?_⟩;rintro⟨i,ab,_⟩ _ ⟨s,aa,J,I⟩;change Int at i;change List C0 at ab;simp only at s aa J I⊢;refine⟨fun o=> ?_,fun o=> ?_⟩
 . have o:=qA o;have H:i.toNat<a.toNat:=by omega
   have a0:gx dQ t i=rc (B7 X.length fun j=>el (a,c,n) i.toNat j*rv (X.getD j zr)):=(show gx dQ t i=t.getD i.toNat zr from E5 s (by omega)).trans (by rw[D,Ts H]);have a1:gx dQ u i=rc (B7 S.length fun j=>el (k,b,d) i.toNat j*rv (S.getD j zr)):=(show gx dQ u i=u.getD i.toNat zr from E5 s (by omega)).trans (by rw[F,Ts (by omega)]);rw[a0,a1];refine⟨⟨s,o⟩,⟨s,by omega⟩,⟨J7 (ae _) (T _ ac),J7 (af _) (T _ ad)⟩, ?_⟩;rintro⟨aq,_⟩ _ M;simp only at M⊢;rw[D7,D7]at M;rw[wv (by omega)];refine⟨⟨s,by omega⟩,⟨by omega,by omega,by rw[qJ];exact J,fun l y=> ?_⟩,by omega⟩;by_cases R:l=i.toNat
   . subst R;rw[A9 (by omega),M];rfl
   . rw[C9 R];exact I l (by omega)
 . have o:=qB o;refine⟨fun g=>absurd r g,fun _=>⟨fun g=>absurd ⟨a9,U⟩ g,fun _=>⟨by trivial, ?_⟩⟩⟩;refine yQ (by rw[J,Mu]) fun l a2 A=> ?_
   have y:l<a.toNat:=by rw[Mu]at A;exact A
   have O:=I l (by omega);have P:=Ts (f:=fun l=>(B7 X.length fun j=>el (a,c,n) l j*O3 X j)+B7 S.length fun j=>el (k,b,d) l j*O3 S j) y;rw[G5 _ _ a2]at O;rw[G5 _ _ A]at P;exact O.trans P.symm
def C4g {N:Hj} {G:Nat->Nat->Rat} (f:E2 N) (d:N5 N) (c:∀e∈N.2,Av e.2.2.1) (g:∀a b,a<N.1.toNat->b<N.1.toNat->qs K0 (G a b)) {l k:Nat} (h:l<N.2.length) (i:k<N.2.length):qs (2+(K2+K2+1+1+1)) (shF N.2 G l k):=by
 obtain⟨o,r⟩:=YB f i;have n:N.2.getD k dB∈N.2:=B4 i;have i:qs (K2+K2+1) (Hl N.2 G l (W9 N.2 k)-Hl N.2 G l (W8 N.2 k)):=Si (F8 (mA f d c g h r) (by decide)) (F8 (mA f d c g h o) (by decide));have f:qs 1 (if k=l then(1:Rat)else 0):=by
  split
  . exact aX (qZ 1)
  . exact N3 (qZ 1)
 exact Ju (U4 (c _ n) (d.2.2 _ n).1 (by decide)) (Sg (j:=K2+K2+1) (k:=1) i f)
section
variable {N:Hj} {G:Nat->Nat->Rat}
def B3c (m:Nat) (w:Nat->Rat) (f:Nat->Nat->Rat) (c:Nat):Ke N.2 (fun l=>B7 m fun b=>w b*f l b) c=B7 m fun b=>w b*Ke N.2 (fun l=>f l b) c:=by
 unfold Ke GG;rw[B6 (g:=fun i=>B7 m fun b=>IQ (W8 N.2) (W9 N.2) c i*(w b*f i b)) fun i _=>by rw[Dy],Jw];refine B6 fun b _=> ?_
 rw[<-Dy];exact B6 fun i _=>by grind
def A5t (f g:Nat->Rat) (c:Nat):Ke N.2 (fun i=>f i+g i) c=Ke N.2 f c+Ke N.2 g c:=by
 unfold Ke GG;rw[<-Ax];exact B6 fun i _=>by grind
def bJ (E:List Pz) (G:Nat->Nat->Rat) (n:Nat) (x:Nat->Rat) (l:Nat):Rat:=B7 n (fun b=>x b*Hl E G l b)+B7 E.length fun k=>Gz E k*Tl E k*(Hl E G l (W9 E k)-Hl E G l (W8 E k))
def C0f (i:E2 N) (a:Kl N G) {x:Nat->Rat} (d:∀t,t<N.1.toNat->B7 N.1.toNat (fun b=>(if J4 N b=t then 1 else 0)*x b)=0) {c:Nat} (hc:c<N.1.toNat):Ke N.2 (fun l=>bJ N.2 G N.1.toNat x l+Gz N.2 l*Tl N.2 l) c=x c:=by
 rw[A5t];unfold bJ;rw[A5t,B3c,B3c N.2.length (fun k=>Gz N.2 k*Tl N.2 k) (fun l k=>Hl N.2 G l (W9 N.2 k)-Hl N.2 G l (W8 N.2 k))];have j:B7 N.1.toNat (fun b=>x b*Ke N.2 (fun l=>Hl N.2 G l b) c)=x c:=by
  rw[B6 (g:=fun b=>(if c=b then 1 else 0)*x b-(if J4 N b=c then 1 else 0)*x b) fun b hb=> ?_,Ot,Ul hc,d c hc]
  . grind
  . rw[(a b hb).2 c hc];by_cases h:b=c
    . rw[qP h,qP h.symm];grind
    . rw[qL h,qL (Ne.symm h)];grind
 have d:B7 N.2.length (fun k=>Gz N.2 k*Tl N.2 k*Ke N.2 (fun l=>Hl N.2 G l (W9 N.2 k)-Hl N.2 G l (W8 N.2 k)) c)+Ke N.2 (fun l=>Gz N.2 l*Tl N.2 l) c=0:=by
  unfold Ke;rw[GG, <-Ax];refine X6 fun k h=> ?_
  obtain⟨f,b⟩:=YB i h;have d:=(a _ f).2 c hc;have f:=(a _ b).2 c hc;unfold Ke at d f;rw[A5u,d,f,A3i i h];unfold IQ;grind
 rw[j];grind
def B0c (d:E2 N) (j:Kl N G) {x t:Nat->Rat} (r:∀t,t<N.1.toNat->B7 N.1.toNat (fun b=>(if J4 N b=t then 1 else 0)*x b)=0) (ht:∀b,b<N.1.toNat->Ke N.2 (PX N.2 t) b=x b) {l:Nat} (hl:l<N.2.length):B7 N.1.toNat (fun b=>Hl N.2 G l b*x b)+B7 N.2.length (fun k=>shF N.2 G l k*Tl N.2 k)=PX N.2 t l:=by
 have f:∀i,bJ N.2 G N.1.toNat x i+Gz N.2 i*Tl N.2 i=PX N.2 (fun c=>B7 N.1.toNat (fun b=>x b*G c b)+B7 N.2.length fun k=>Gz N.2 k*Tl N.2 k*(G c (W9 N.2 k)-G c (W8 N.2 k))) i:=fun i=>by
  unfold bJ PX flw Hl;have a:B7 N.1.toNat (fun b=>x b*(Gz N.2 i*(G (W8 N.2 i) b-G (W9 N.2 i) b)))=Gz N.2 i*(B7 N.1.toNat (fun b=>x b*G (W8 N.2 i) b)-B7 N.1.toNat fun b=>x b*G (W9 N.2 i) b):=by
   rw[<-Ot, <-Dy];exact B6 fun b _=>by grind
  have g:B7 N.2.length (fun k=>Gz N.2 k*Tl N.2 k*(Gz N.2 i*(G (W8 N.2 i) (W9 N.2 k)-G (W9 N.2 i) (W9 N.2 k))-Gz N.2 i*(G (W8 N.2 i) (W8 N.2 k)-G (W9 N.2 i) (W8 N.2 k))))=Gz N.2 i*(B7 N.2.length (fun k=>Gz N.2 k*Tl N.2 k*(G (W8 N.2 i) (W9 N.2 k)-G (W8 N.2 i) (W8 N.2 k)))-B7 N.2.length fun k=>Gz N.2 k*Tl N.2 k*(G (W9 N.2 i) (W9 N.2 k)-G (W9 N.2 i) (W8 N.2 k))):=by
   rw[<-Ot, <-Dy];exact B6 fun k _=>by grind
  rw[a,g];grind
 have o:=A8r (n:=N.1.toNat) (m:=N.2.length) (fr:=W8 N.2) (to:=W9 N.2) (s:=Gz N.2) (h:=Tl N.2) (θ:=fun c=>B7 N.1.toNat (fun b=>x b*G c b)+B7 N.2.length fun k=>Gz N.2 k*Tl N.2 k*(G c (W9 N.2 k)-G c (W8 N.2 k))) (θ':=t) (fun i hi=>YB d hi) (fun i hi=>C2p d hi) (fun b hb=>by
  have a:=C0f d j r hb;have d:=ht b hb;have e:Ke N.2 (fun l=>bJ N.2 G N.1.toNat x l+Gz N.2 l*Tl N.2 l) b=Ke N.2 (fun i=>PX N.2 (fun c=>B7 N.1.toNat (fun b=>x b*G c b)+B7 N.2.length fun k=>Gz N.2 k*Tl N.2 k*(G c (W9 N.2 k)-G c (W8 N.2 k))) i) b:=Tp (fun i _=>f i) b;rw[e]at a;unfold Ke PX at a d;exact a.trans d.symm) l hl
 have g:B7 N.1.toNat (fun b=>Hl N.2 G l b*x b)+B7 N.2.length (fun k=>shF N.2 G l k*Tl N.2 k)=bJ N.2 G N.1.toNat x l+Gz N.2 l*Tl N.2 l:=by
  unfold bJ shF;have a:B7 N.1.toNat (fun b=>Hl N.2 G l b*x b)=B7 N.1.toNat fun b=>x b*Hl N.2 G l b:=B6 fun b _=>by grind
  have d:B7 N.2.length (fun k=>Gz N.2 k*(Hl N.2 G l (W9 N.2 k)-Hl N.2 G l (W8 N.2 k)+if k=l then 1 else 0)*Tl N.2 k)=B7 N.2.length (fun k=>Gz N.2 k*Tl N.2 k*(Hl N.2 G l (W9 N.2 k)-Hl N.2 G l (W8 N.2 k)))+B7 N.2.length (fun k=>(if l=k then 1 else 0)*(Gz N.2 k*Tl N.2 k)):=by
   rw[<-Ax];refine B6 fun k _=> ?_
   by_cases h:k=l
   . rw[qP h,qP h.symm];grind
   . rw[qL h,qL (Ne.symm h)];grind
  rw[a,d,Ul hl];grind
 rw[g,f l];exact o
end
section
variable {E:List Pz} {k:Nat} {h:C0} {n:Int}
end
def B9b (n:Nat) (f:Nat->Rat):∀e∈IU n f,e=rc (rv e):=fun e a=>by
 unfold IU at a;obtain⟨i, -,rfl⟩:=sQ.1 a;rw[D7]
def B0d (E:List Pz):List C0:=E.map fun e=>e.2.2.2
def B6o {E:List Pz} {k:Nat} (a:k<E.length):O3 (B0d E) k=Tl E k:=by
 unfold O3 B0d Tl;rw[qF,vD,qO a,qF,qO a];rfl
def Lc (x:A2 G2.args) (ay:awf G2.args x) (ax:G2.pre x):Er x:=by
 obtain⟨ar,au,_⟩:=x;simp only[Er,iB,Ni,rT7,g4t];refine⟨trivial, ?_⟩;rintro⟨⟨n,E⟩,_⟩ _ i;change Int at n;change List Pz at E;have i:B3u (n,E):=i;obtain⟨b,am,an,a9,R⟩:=id i;have o:=A8s i;have D:=B3v i;simp only at am an a9 R b D⊢;refine⟨trivial, ?_⟩;rintro⟨⟨b1,ti⟩,_⟩ _ a0;simp only at a0⊢;have a1:ti=0:=tL Prod.snd a0;refine⟨b, ?_⟩;rintro⟨ao,_⟩ _ H;change Xr at ao;simp only at H⊢;obtain⟨Z,l⟩:=Au b;rw[<-H]at Z l;simp only at Z l;refine⟨⟨by omega,fun M B=> ?_,by rw[a1];exact qG _,by rw[a1];exact qD _⟩, ?_⟩
 . obtain⟨r,c,rfl⟩:=P3 0 B;obtain⟨a4,av,a5⟩:=l r (by omega);rw[a4];refine⟨by omega,by omega, ?_⟩;rw[qH,(l _ (by omega)).1,a5]
 rintro⟨X,_⟩ ⟨az,_⟩ _ _ ⟨ap,s,a3⟩ _;change List C0 at X;simp only at ap s a3⊢;have ad:(X.length:Int)=n:=by omega
 rw[H]at s;have V:Db 128 X:=fun e a=>by
  obtain⟨q,F,rfl⟩:=a3 e a;exact⟨qW F.1 (by decide),qW F.2 (by decide)⟩
 refine⟨fun p=>0<=p.2.1/\p.2.1<=(E.length:Int)/\p.1=B0d (E.take p.2.1.toNat),fun p=>((E.length:Int)-p.2.1).toNat,⟨qG _,qD _,rfl⟩, ?_⟩;rintro⟨S,r,_⟩ _ ⟨I,ak,g⟩;change List C0 at S;change Int at r;simp only at I ak g⊢;have U:S.length<=9:=by rw[g];unfold B0d;rw[sL,qU];omega
 refine⟨fun c=> ?_,fun c=> ?_⟩
 . have c:=qA c;rw[wv (by omega)];refine⟨⟨I,c⟩,⟨by rw[qY];omega,by rw[qY];omega⟩,⟨by omega,by omega, ?_⟩,by omega⟩;rw[g];unfold B0d;rw[Fj (d:=dB) I c,uM];rfl
 have c:=qB c;rw[D4 (by omega)]at g;have U:S.length=E.length:=by rw[g];unfold B0d;rw[sL]
 refine⟨fun _=>o, ?_⟩;rintro⟨f,e,_⟩ _ ⟨_,z⟩;change TFV at f;change Int at e;simp only at z⊢;obtain⟨a,O,G,aa,T,u,k⟩:=z b;clear z;subst a;obtain⟨aj,af⟩:=C6u b o D T O u k;have ag:X0 K4 f.2.1:=fun v b e a=>F5 (af v b e a) (by decide)
 have ah:X0 K4 f.2.2:=KG k (by decide) fun r j c h=>F8 (C4g b o D T c h) (by decide)
 have ab:Db 128 S:=fun e a=>by
  rw[g]at a;obtain⟨M,B,rfl⟩:=sQ.1 a;exact A3b (R M B).2 (by decide)
 refine⟨⟨ag,ah,V,ab,by omega,by omega⟩, ?_⟩;rintro⟨A,e,_⟩ _ ⟨_,w⟩;change List C0 at A;change Int at e;simp only at w⊢;have aw:f.1.length=n.toNat:=by rw[O];exact(Au b).1
 have ac:X.length=n.toNat:=by omega
 obtain⟨a,a6⟩:=(w aj).2 ⟨by omega,by rw[show f.2.2.2.1=(E.length:Int)from k.2.1];omega⟩;clear w;subst a;refine⟨fun _=>⟨o,V⟩, ?_⟩;rintro⟨C,e,_⟩ _ ⟨_,y⟩;change List C0 at C;change Int at e;simp only at y⊢;obtain⟨a,a8,t,ai,P⟩:=((y b).2 ad).2 s;clear y;subst a;have a7:A=C:=by
  rw[a6,P,show f.2.1.1=(E.length:Int)from u.1,qH];unfold IU;refine g3j fun J ae=> ?_
  have F:=wS.1 ae;have a2:=B0c (N:=(n,E)) b aa (x:=O3 X) (t:=t) (A5n b s) ai F;simp only at a2;show rc ((B7 X.length fun j=>el f.2.1 J j*O3 X j)+B7 S.length fun j=>el f.2.2 J j*O3 S j)=rc (PX E t J);rw[<-a2,ac,U];congr 1;congr 1
  . exact B6 fun j h=>by rw[CH u F h]
  . exact B6 fun j h=>by rw[CH k F h,g,B6o h]
 have Q:∀e∈C,D8 e:=fun e a=>J8 (a8 e a) (by decide)
 refine⟨trivial, ?_⟩;rintro⟨aq,_⟩ _ W;simp only at W⊢;subst W;rw[a7];simp only[g1h,L8,qV,true_implies];refine⟨⟨Q,Q⟩, ?_⟩;rintro⟨b0,_⟩ ⟨_,Y⟩;simp only at Y⊢;rw[Y];exact rD ⟨by trivial,by rw[P];exact B9b _ _⟩
end Go.Proofs.YtiflhbllbgajeaaGreat
namespace Go.Vc
open Go Go.RowKit Go.Gw Go.Shelf
open Go.IntKind (i64 u32)
structure El (t:Ty) (w:World) (Z:Nat->Prop) where
 c:List Value
 v:t.den
 h:C7 t w Z c v
def oK {t:Ty} {w:World} {Z:Nat->Prop} :∀ {l:List t.den} {xs:List Value},G7 (C7 t w Z) xs l->∃L:List (El t w Z),L.flatMap El.c=xs/\L.map El.v=l
 | [],_,h=>⟨[],h.symm,rfl⟩
 |x::l,_,⟨c1,g,e,a,b⟩=>by
  obtain⟨L,d,f⟩:=oK b;exact⟨⟨c1,x,a⟩::L,by rw[yI,d,e],by rw[rZ,f]⟩
def oL {t:Ty} {w w':World} {Z Z':Nat->Prop} (a:∀c x,C7 t w Z c x->C7 t w' Z' c x):∀L:List (El t w Z),G7 (C7 t w' Z') (L.flatMap El.c) (L.map El.v)
 | []=>rfl
 |p::L=>⟨p.c,L.flatMap El.c,rfl,a _ _ p.h,oL a L⟩
def oV {b:Type} {enc:b->List Value} {k:Nat} (a:∀x,(enc x).length=k):∀(L:List b) (i r:Nat) {x:b},L[i]? =some x->r<k->(L.flatMap enc)[i*k+r]? =(enc x)[r]?
 | [],_,_,_,h,_=>by cases h
 |y::L,0,r,x,h,c=>by
  simp only[g1n,rG]at h;subst h;rw[yI,yA,sF,wG (by rw[a];exact c)]
 |y::L,i+1,r,x,h,c=>by
  rw[uI]at h;have e:(i+1)*k+r-k=i*k+r:=by rw[uP];omega
  rw[yI,uF (by rw[a,uP];omega),a,e];exact oV a L i r h c
def oW {b:Type} {enc:b->List Value} {k:Nat} (a:∀x,(enc x).length=k):∀L:List b,(L.flatMap enc).length=L.length*k
 | []=>by simp
 |x::L=>by rw[yI,rN,oW a L,a,rH,uP];omega
def oU {b:Type} [Inhabited b] {enc:b->List Value} {k:Nat} (c:∀x,(enc x).length=k) (d:Array b) {j:Nat} (a:j<d.size*k):(d.toList.flatMap enc)[j]? =some (Go.Sort.flatK enc k d)[j]!:=by
 have f:0<k:=by
  rcases vG k with h|h
  . rw[h,wN]at a;omega
  . exact h
 have b:j/k<d.size:=(tN f).2 a;have g:j%k<k:=wD _ f;have e:j=j/k*k+j%k:=by rw[tF];exact(wX j k).symm
 rw[Go.Sort.get_flatK enc k d j a];have a:d.toList[j/k]? =some d[j/k]!:=by
  rw[wI,tY b,g0m d _ b]
 have:=oV c d.toList (j/k) (j%k) a g;rw[<-e]at this;have a:j%k<(enc d[j/k]!).length:=by rw[c];exact g
 rw[this,qO a,g0m (enc d[j/k]!) (j%k) a]
def A9u {F cur:Array Value} {n:Nat} {xs:List Value} (c:xs.length=n) (a:F.size=n) (b:n<=cur.size) (h:∀j,j<n->xs[j]? =some F[j]!):(Go.Sort.putCells id 0 F cur).size=cur.size/\(Go.Sort.putCells id 0 F cur).toList.take n=xs:=by
 refine⟨by simp[Go.Sort.putCells], ?_⟩;apply vN;intro j;by_cases a:j<n
 . rw[rU a,h j a,wI];unfold Go.Sort.putCells;rw[Array.getElem?_mapIdx,tY (by omega)];simp only[vW];rw[qP ⟨rM _,by omega⟩];rfl
 . rw[rQ (by simp;omega),rQ (by omega)]
def B5w {b:Type} [Inhabited b] {d a:Array b} (h:Go.Sort.PermIn 0 d.size d a):a.toList.Perm d.toList:=by
 obtain⟨b,_,a⟩:=h;rw[g2p,g2p]at a;simpa[List.extract_eq_take_drop,qX,b]using a
def A4n {d:Type} [Inhabited d] {lt:d->d->Bool} {c:Array d} {n:Nat} (f:c.size=n) (h:Go.Sort.SortedIn lt 0 n c):c.toList.Pairwise fun a b=>lt b a=false:=by
 rw[tZ];intro i j d k g;have f:i<c.size:=by simpa using d
 have d:j<c.size:=by simpa using k
 have:=h i j (rM _) g (by omega);rw[g0m c i f,g0m c j d]at this;simpa using this
def C0l {w:World} {b m:Nat} {f:Array Value->Array Value} {a:Array Obj} :w.heap.size<=(Go.Sort.grow (Go.Sort.mapBlock (Go.Sort.ahead w m) b f) a).heap.size:=by
 simp[Go.Sort.grow,Go.Sort.mapBlock,Go.Sort.ahead]
def A1b {w:World} {b m j:Nat} {f:Array Value->Array Value} {d:Array Obj} (a:j<w.heap.size) (c:j≠b):(Go.Sort.grow (Go.Sort.mapBlock (Go.Sort.ahead w m) b f) d).heap[j]? =w.heap[j]?:=by
 rw[Go.Sort.heap_grow_old _ _ (by simpa[Go.Sort.mapBlock,Go.Sort.ahead]using a)];unfold Go.Sort.mapBlock;simp only;rw[g2k,qL (Ne.symm c)];rfl
def C0k {w:World} {b m:Nat} {f:Array Value->Array Value} {c:Array Obj} {cur:Array Value} {e:TypeId} (a:w.heap[b]? =some (.cells cur e (0,0))):(Go.Sort.grow (Go.Sort.mapBlock (Go.Sort.ahead w m) b f) c).heap[b]? =some (.cells (f cur) e (0,0)):=by
 have c:b<w.heap.size:=(rV.1 a).1;rw[Go.Sort.heap_grow_old _ _ (by simpa[Go.Sort.mapBlock,Go.Sort.ahead]using c)];unfold Go.Sort.mapBlock;simp only;rw[g2k,qP rfl];have:(Go.Sort.ahead w m).heap[b]? =some (.cells cur e (0,0)):=a;rw[this];rfl
def KC {P:Program} {f:FuncId} (a:Ho P f=true) (args:Array Value) (w:World):(callFunc f args).run P w= .ok (.enter f args) w:=by
 unfold Ho at a;split at a
 . rename_i fn d;simp only[qC,rO]at a;have c:¬fn.body=none:=by intro hb;rw[hb]at a;simp at a
   have b:¬fn.name= "runtime.NumGoroutine" :=by simpa using a.1
   simp[callFunc,d,b,c,go_sem]
 . cases a
def C0m {d f:Type} {φ:d->d->Int} (v:f->d) (g:∀a,¬φ a a<0) (i:∀a b c,φ a b<0->φ b c<0->φ a c<0) (j:∀a b c,¬φ a b<0->¬φ b c<0->¬φ a c<0):
 Go.Sort.SWO (Go.Proofs.ltOf fun x y:f=>φ (v x) (v y)):=by
 refine⟨fun x=> ?_,fun x y z h d=> ?_,fun x y z h d=> ?_⟩
 . exact rE (g _)
 . exact rD (i _ _ _ (qA h) (qA d))
 . exact rE (j _ _ _ (qB h) (qB d))
def B0h {t:Ty} {φ:t.den->t.den->Int} {e:TypeId} {w w':World} {Z:Nat->Prop} {fv:Value} {g c:Nat} {cur F:Array Value} {k:Nat} {x:List t.den} {L L':List (El t w Z)}
 (E:∀b,Z b->b<w.heap.size) (I:¬Z g) (i:t.size=k)
 (a0:w.heap[g]? =some (.cells cur e (0,0))) (n:L.length<=c) (N:c<=maxLen) (s:cur.size=c*k) (D:L.map El.v=x)
 (u:L'.Perm L) (Q:L'.Pairwise fun a b=>¬φ b.v a.v<0)
 (A:F.size=L.length*k) (B:∀j,j<L.length*k->(L'.flatMap El.c)[j]? =some F[j]!)
 (O:w'.os=w.os) (U:w'.tape=w.tape) (P:w'.output=w.output) (T:w.heap.size<=w'.heap.size)
 (l:∀j,j<w.heap.size->j≠g->w'.heap[j]? =w.heap[j]?) (H:w'.heap[g]? =some (.cells (Go.Sort.putCells id 0 F cur) e (0,0))):
 Jo (pW w (Cr t e φ).args [.slice (some ⟨g,0,none⟩) L.length c,fv]) w w'/\∃(r:Ci (Cr t e φ).res) (o:Qe (Cr t e φ).args) (us:List Value) (Zn:Nat->Prop),(Cr t e φ).post (x,()) r/\(O6 (Cr t e φ).args=true->(Cr t e φ).mpost (x,()) r o)/\Value.tuple #[]=Yt us/\(∀b,Zn b->(w.heap.size<=b/\b<w'.heap.size)\/((Cr t e φ).shared=true/\Z b))/\Qj w.heap.size w' Zn (Cr t e φ).res us r/\Zq w w' Zn (Cr t e φ).args [.slice (some ⟨g,0,none⟩) L.length c,fv] o:=by
 have f:L'.length=L.length:=u.length_eq;have G:∀p:El t w Z,p.c.length=k:=fun p=>by rw[<-i];exact C7.length p.h
 have y:(L'.flatMap El.c).length=L.length*k:=by rw[oW G,f]
 obtain⟨W,X⟩:=A9u y A (by rw[s];exact rJ _ n) B;have R:Q3 Z w w':=fun b d=>l b (E b d) (fun e=>I (e▸d))
 refine⟨⟨O,U,P,T,fun j J M=>l j J (fun z=>M ?_),trivial⟩,(),(L'.map El.v,()),[],Z,trivial,fun _=>⟨?_, ?_⟩,rfl,fun b d=> .inr ⟨rfl,d⟩,rfl, ?_⟩
 . subst z;refine⟨(.row t e, .slice (some ⟨j,0,none⟩) L.length c),rB, ?_⟩;rfl
 . rw[<-D];exact u.map _
 . exact vO.2 Q
 . refine⟨⟨L'.flatMap El.c,⟨?_, .inr ⟨g,c,Go.Sort.putCells id 0 F cur, ?_,rM _,H, ?_,N, ?_, ?_⟩⟩, ?_⟩,trivial⟩
   . simp only[sL];rw[y,f,i]
   . simp only[sL,f]
   . simp only[sL,f];exact n
   . rw[W,s,i]
   . simp only[sL,f,i];exact X
   . refine oL (fun Y a1 V=> ?_) L';exact C7.mono (fun b d=>d) R V
def B1j (P:Program) (g:FuncId) (t:Ty) (φ:t.den->t.den->Int):Prop:=
 ∀(w:World) (Z:Nat->Prop) (c1 a:List Value) (x y:t.den),C7 t w Z c1 x->C7 t w Z a y->Calls P g #[.agg c1.toArray, .agg a.toArray] w fun e b=>e= .returned (.int .i64 (φ x y))/\∃q a,b=Go.Sort.grow (w.drewN q) a
def A0y {P:Program} {ρ:Ren} (LL:Go.Proofs.SlLaysF0.n6 P ρ) {t:Ty} {e:TypeId} {g:FuncId} {φ:t.den->t.den->Int} (R:∀w,(isAgg (ρ.t 24)).run P w= .ok true w) (ah:∀w,(Go.sizeOf (ρ.t 24)).run P w= .ok t.size w)
 (U:∀a,¬φ a a<0) (V:∀a b c,φ a b<0->φ b c<0->φ a c<0) (W:∀a b c,¬φ a b<0->¬φ b c<0->¬φ a c<0) (a6:Ho P g=true) (a3:B1j P g t φ):A5h P (ρ.f 6) g t e φ:=by
 rintro w Z am aj D ⟨an,M,a5,a0⟩ a8;obtain⟨L,rfl,rfl⟩:=oK a5;have Y:(L.map El.v).length=L.length:=sL ..;rw[Y]at M a8;obtain⟨ai,af⟩:=M;have z:∀(p:Option Addr) (d:Nat),L= []->Gw.fE P (ρ.f 6) [.slice p 0 d, .func (.func g) #[] #[]] w fun u Q=>u= .tuple #[]/\Q=w:=fun p d _=>
  Calls.mono (Go.Proofs.AnyF.slices_SortFunc_none LL p d (.func (.func g) #[] #[]) w) fun _ _ ⟨N,hw⟩=>⟨_,N,rfl,hw⟩
 rcases af with⟨rfl,a9⟩ | ⟨b,d,cur,rfl,_,h,G,J,H,ae⟩
 . have n:L= []:=qS a9;subst n;refine(z none 0 rfl).mono ?_;rintro _ _ ⟨rfl,rfl⟩;refine⟨Jo.of (T8.refl _),(),([],()),[],(fun _=>False),trivial,fun _=>⟨wQ _,List.Pairwise.nil⟩,rfl,fun _ s=>s.elim,rfl,⟨⟨[],World.ownsRow_nil _ _ _ _,rfl⟩,trivial⟩⟩
 . have E:¬Z b:=a0 b rfl;have v:∀p:El t w Z,p.c.length=t.size:=fun p=>C7.length p.h
   have a1:b<w.heap.size:=(rV.1 h).1;rcases n:L with _ | ⟨ag,L0⟩
   . subst n;refine(z _ d rfl).mono ?_;rintro _ _ ⟨rfl,rfl⟩;refine⟨Jo.of (T8.refl _),(),([],()),[],(fun _=>False),trivial,fun _=>⟨wQ _,List.Pairwise.nil⟩,rfl,fun _ s=>s.elim,rfl,⟨⟨[],⟨by simp, .inr ⟨b,d,cur,rfl,rM _,h,G,J,H,by simp⟩⟩,rfl⟩,trivial⟩⟩
   . rw[<-n];clear z
     haveI:Inhabited (El t w Z):=⟨ag⟩
     have X:Go.Sort.HoldsK El.c t.size w b 0 L.toArray:=by
      intro r j;rw[Go.Sort.size_flatK]at j;have a7:r<L.length*t.size:=by simpa using j
      have N:=oU v L.toArray j;rw[sF];refine⟨?_, ?_⟩
      . have T:cur[r]? =some (Go.Sort.flatK El.c t.size L.toArray)[r]!:=by
         rw[<-N];simp only;rw[<-ae,rU a7,wI]
        simp only[World.cell?,h];exact T
      . simp[World.frozen?,h]
     have a4:Go.Proofs.CmpLays P g #[] El.c t.size (fun x y:El t w Z=>φ x.v y.v) b 0 L.toArray.size w:=by
      intro m O T a7 x y;have N:Q3 Z w (Go.Proofs.sortWorldK El.c t.size w b 0 m T O):=by
       intro B o;have:B≠b:=fun e=>E (e▸o)
       exact A1b (D B o) this
      exact a3 _ Z x.c y.c x.v y.v (C7.mono (fun _ i=>i) N x.h) (C7.mono (fun _ i=>i) N y.h)
     have a2:=Go.Proofs.AnyQ.slices_SortFunc LL t.size R ah El.c v (fun x=>C7.oneCell x.h) (fun x y:El t w Z=>φ x.v y.v) (C0m El.v U V W) g #[] b 0 d L.toArray w (KC a6) a4 X a1 (by simp;omega);refine Calls.mono a2 ?_;rintro _ Q ⟨rfl,l,ak,O,A,ad,rfl⟩;refine⟨_,rfl, ?_⟩;have ab:=B5w A;have ac:=A4n A.1 ad;have I:l.size=L.length:=by rw[A.1];simp
     refine B0h (k:=t.size) (F:=Go.Sort.flatK El.c t.size l) (L:=L) (L':=l.toList) (cur:=cur) (x:=L.map El.v) D E rfl h G J H rfl ab ?_ ?_ ?_ rfl rfl rfl ?_ ?_ ?_
     . exact ac.imp fun i=>qB i
     . rw[Go.Sort.size_flatK,I]
     . intro r j;exact oU v l (by rw[I];exact j)
     . exact C0l
     . intro B o aa;exact A1b o aa
     . exact C0k h
end Go.Vc
namespace Go.Proofs
open Go.Proofs.Tryz
open Go.Shelf
open Go.IntKind (i64 u32)
def Tryz.sortEnt_ren:Go.Shelf.Ren:=⟨fun|6=>119|15=>156|14=>155|28=>182|29=>183|20=>174|21=>175|22=>176|23=>177|24=>178|25=>179|26=>180|27=>181|46=>194|47=>195|48=>196|49=>197|50=>198|57=>203|n=>n,fun|22=>79|24=>106|25=>147|3=>3|39=>165|0=>0|53=>103|55=>124|4=>4|46=>193|45=>192|50=>197|5=>5|9=>9|66=>206|70=>210|76=>215|77=>216|n=>n,fun|n=>n⟩
def Tryz.sortEnt:Go.Proofs.SlLaysF0.n6 prog sortEnt_ren:= {
 mixed:=by kernel_rfl
 f6:=⟨f119.name,by decide,func119.trans (tL some (by kernel_rfl))⟩
 f14:=⟨f155.name,by decide,func155.trans (tL some (by kernel_rfl))⟩
 f15:=func156.trans (tL some (by kernel_rfl))
 f20:=⟨f174.name,by decide,func174.trans (tL some (by kernel_rfl))⟩
 f21:=⟨f175.name,by decide,func175.trans (tL some (by kernel_rfl))⟩
 f22:=⟨f176.name,by decide,func176.trans (tL some (by kernel_rfl))⟩
 f23:=⟨f177.name,by decide,func177.trans (tL some (by kernel_rfl))⟩
 f24:=⟨f178.name,by decide,func178.trans (tL some (by kernel_rfl))⟩
 f25:=⟨f179.name,by decide,func179.trans (tL some (by kernel_rfl))⟩
 f26:=⟨f180.name,by decide,func180.trans (tL some (by kernel_rfl))⟩
 f27:=⟨f181.name,by decide,func181.trans (tL some (by kernel_rfl))⟩
 f28:=func182.trans (tL some (by kernel_rfl))
 f29:=func183.trans (tL some (by kernel_rfl))
 f46:=⟨f194.name,by decide,func194.trans (tL some (by kernel_rfl))⟩
 f47:=func195.trans (tL some (by kernel_rfl))
 f48:=func196.trans (tL some (by kernel_rfl))
 f49:=⟨f197.name,by decide,func197.trans (tL some (by kernel_rfl))⟩
 f50:=⟨f198.name,by decide,func198.trans (tL some (by kernel_rfl))⟩
 f57:=⟨f203.name,by decide,func203.trans (tL some (by kernel_rfl))⟩
 t0:=underlying0
 a0:=isAgg0
 z0:=sizeOf0
 v0:=zeroValue0
 t3:=underlying3
 a3:=isAgg3
 z3:=sizeOf3
 v3:=zeroValue3
 t4:=underlying4
 a4:=isAgg4
 z4:=sizeOf4
 v4:=zeroValue4
 t5:=underlying5
 a5:=isAgg5
 z5:=sizeOf5
 v5:=zeroValue5
 t9:=underlying9
 a9:=isAgg9
 z9:=sizeOf9
 v9:=zeroValue9
 t22:=underlying79
 a22:=isAgg79
 z22:=sizeOf79
 v22:=zeroValue79
 t25:=underlying147
 a25:=isAgg147
 z25:=sizeOf147
 v25:=zeroValue147
 t39:=underlying165
 a39:=isAgg165
 z39:=sizeOf165
 v39:=zeroValue165
 t45:=underlying192
 a45:=isAgg192
 z45:=sizeOf192
 v45:=zeroValue192
 t46:=underlying193
 a46:=isAgg193
 z46:=sizeOf193
 v46:=zeroValue193
 t50:=underlying197
 a50:=isAgg197
 z50:=sizeOf197
 v50:=zeroValue197
 t53:=underlying103
 a53:=isAgg103
 z53:=sizeOf103
 v53:=zeroValue103
 t55:=underlying124
 a55:=isAgg124
 z55:=sizeOf124
 v55:=zeroValue124
 t66:=underlying206
 a66:=isAgg206
 z66:=sizeOf206
 v66:=zeroValue206
 t70:=underlying210
 a70:=isAgg210
 z70:=sizeOf210
 v70:=zeroValue210
 t76:=underlying215
 a76:=isAgg215
 z76:=sizeOf215
 v76:=zeroValue215
 t77:=underlying216
 a77:=isAgg216
 z77:=sizeOf216
 v77:=zeroValue216}
def Tryz.cmpInt_ren:Go.Shelf.Ren:=⟨fun|5=>121|7=>157|n=>n,fun|22=>3|3=>3|4=>4|n=>n,fun|n=>n⟩
def Tryz.cmpInt:Go.Proofs.SlLaysC2.n5 prog cmpInt_ren:= {
 mixed:=by kernel_rfl
 f5:=⟨f121.name,by decide,func121.trans (tL some (by kernel_rfl))⟩
 f7:=⟨f157.name,by decide,func157.trans (tL some (by kernel_rfl))⟩
 t3:=underlying3
 a3:=isAgg3
 z3:=sizeOf3
 v3:=zeroValue3
 t4:=underlying4
 a4:=isAgg4
 z4:=sizeOf4
 v4:=zeroValue4
 t22:=underlying3
 a22:=isAgg3
 z22:=sizeOf3
 v22:=zeroValue3}
end Go.Proofs
namespace Go.Proofs.YtiflhbllbgajeaaGreat
open Go.Proofs.Tryz
open Go.Vc Go.Gw Go.Lib Go.Shelf
open Go.IntKind (i64 u32)
def BD (w:World) (o:Obj):w.alloc o= {w with heap:=w.heap.push o} :=rfl
def B2o (a b:Int) (c d:List Value) (w:World):Calls prog 120 #[.agg (.int .i64 a::c).toArray, .agg (.int .i64 b::d).toArray] w fun e w'=>e= .returned (.int .i64 (Lib.compareInt a b))/\∃q h,w'=Go.Sort.grow (w.drewN q) h:=by
 have i:∀args w,(callFunc 121 args).run prog w= .ok (.enter 121 args) w:=Go.Vc.KC (by kernel_rfl);have f:=fun(w:World)=>AnyG.cmp_Compare_int cmpInt a b w
 go_enter func120,ntmps120
 go_wp2_with (go_at_fn (121);refine(f _).mono ?_;rintro e w' ⟨rfl,g⟩;rw[g])
 go_ret
 refine⟨rfl,0, #[.cells (Value.int .i64 a::c).toArray 106, .cells (Value.int .i64 b::d).toArray 106], ?_⟩;rw[BD,BD];simp[Go.Sort.grow,World.drewN];apply zS.1;simp
def B2n (a b:Int):Lib.compareInt a b=M0 a b:=by
 unfold Lib.compareInt M0
 (repeat' split)<;>first|rfl|omega
def C2s:B1j prog 120 tE (fun a b:D6=>M0 a.1 b.1):=by
 rintro w Z c1 f x y ⟨g,c,rfl,⟨rfl,_⟩,_⟩ ⟨h,d,rfl,⟨rfl,_⟩,_⟩;have:=B2o x.1 y.1 c d w;rw[B2n]at this;exact this
def C0h:TC prog 119 (WW 120 tE 106 (fun a b=>M0 a.1 b.1)):=by
 refine bL (tys:= []) (A0y (ρ:=sortEnt_ren) sortEnt (t:=tE) (e:=106) (g:=120) (φ:=fun a b:D6=>M0 a.1 b.1) isAgg106 sizeOf106 (fun a=> ?_) (fun a b c=> ?_) (fun a b c=> ?_) (by kernel_rfl) C2s);all_goals (simp only[M0];(repeat' split)<;>omega)
def A8e (a b:Int) (c d:List Value) (w:World):Calls prog 153 #[.agg (.int .i64 a::c).toArray, .agg (.int .i64 b::d).toArray] w fun e w'=>e= .returned (.int .i64 (Lib.compareInt a b))/\∃q h,w'=Go.Sort.grow (w.drewN q) h:=by
 have i:∀args w,(callFunc 121 args).run prog w= .ok (.enter 121 args) w:=Go.Vc.KC (by kernel_rfl);have f:=fun(w:World)=>AnyG.cmp_Compare_int cmpInt a b w
 go_enter func153,ntmps153
 go_wp2_with (go_at_fn (121);refine(f _).mono ?_;rintro e w' ⟨rfl,g⟩;rw[g])
 go_ret
 refine⟨rfl,0, #[.cells (Value.int .i64 a::c).toArray 106, .cells (Value.int .i64 b::d).toArray 106], ?_⟩;rw[BD,BD];simp[Go.Sort.grow,World.drewN];apply zS.1;simp
def B7z:B1j prog 153 tE (fun a b:D6=>M0 a.1 b.1):=by
 rintro w Z c1 f x y ⟨g,c,rfl,⟨rfl,_⟩,_⟩ ⟨h,d,rfl,⟨rfl,_⟩,_⟩;have:=A8e x.1 y.1 c d w;rw[B2n]at this;exact this
def B6r:TC prog 119 (WW 153 tE 106 (fun a b=>M0 a.1 b.1)):=by
 refine bL (tys:= []) (A0y (ρ:=sortEnt_ren) sortEnt (t:=tE) (e:=106) (g:=153) (φ:=fun a b:D6=>M0 a.1 b.1) isAgg106 sizeOf106 (fun a=> ?_) (fun a b c=> ?_) (fun a b c=> ?_) (by kernel_rfl) B7z);all_goals (simp only[M0];(repeat' split)<;>omega)
def B5r (n:Int) (w:World):Calls prog 114 #[.int .i64 n] w fun e w'=>e= .returned (.func (.func 115) #[] #[.pointer (some ⟨w.heap.size,0,none⟩)])/\w'=w.alloc (.cells #[.int .i64 n] 3):=by
 go_enter func114,ntmps114
 go_wp2
 go_ret
 exact⟨rfl,rfl⟩
def C3x (o:A7 prog 115 K8):TC prog 114 (B3p prog [(false, .int .i64)] false .bool (.int .i64) (fun n x=>decide (x.1<0\/n<=x.1))):=by
 refine B3q ?_;rintro w Z J n ⟨A,r⟩;obtain rfl:J= .int .i64 n:=by simpa using A
 refine Calls.mono (B5r _ w) ?_;rintro _ _ ⟨rfl,rfl⟩;have z:(w.alloc (.cells #[Value.int .i64 n] 3)).heap.size=w.heap.size+1:=by simp
 refine⟨_,rfl,T8.alloc w _,(fun b=>b=w.heap.size),fun b a=> .inr ⟨by omega,by rw[z,a];omega⟩,115,[.pointer (some ⟨w.heap.size,0,none⟩)],rfl,by kernel_rfl, ?_⟩;rintro d Z1 R ⟨i,_⟩ y g F ⟨f,T,rfl,B,rfl⟩ _;have k:(w.alloc (.cells #[Value.int .i64 n] 3)).heap[w.heap.size]? =some (.cells #[Value.int .i64 n] 3 (0,0)):=by rw[BD];simp
 have l:d.heap[w.heap.size]? =some (.cells #[Value.int .i64 n] 3 (0,0)):=(y _ rfl).trans k;have v:Ap prog d (fun b=>Z1 b\/b=w.heap.size) K8.args [f, .pointer (some ⟨w.heap.size,0,none⟩)] (i,n,()):=by
  refine⟨_,_,rfl, ?_,_,_,rfl, ?_,rfl⟩
  . exact B
  . exact⟨w.heap.size,0,[Value.int .i64 n],rfl, .inr rfl,fun j I c=>by
     rcases j with _ |j
     . simp only[g1n,rG]at c;subst c;rw[L9];simp[World.cell?,l]
     . simp at c,rfl,r⟩
 have:=o d (fun b=>Z1 b\/b=w.heap.size) [f, .pointer (some ⟨w.heap.size,0,none⟩)] (i,n,()) (fun b a=>a.elim (F b) fun e=>g b e) v trivial trivial;refine Gw.fE.mono this ?_;rintro I N ⟨E,⟨H,_⟩,O,P,Zn,t,_,rfl,G,⟨M,Q,rfl,D,_,rfl⟩,_⟩;refine⟨E.ext fun b a=> ?_,Zn,fun b a=> ?_, ?_⟩
 . obtain⟨p,s,_⟩:=a;cases s
 . rcases G b a with h| ⟨h,_⟩
   . exact .inl h
   . cases h
 . have u:H=decide (i<0\/n<=i):=t;show Cd false .bool N Zn M (decide (i<0\/n<=i));rw[<-u];exact D
open Go.Vc Go.Gw
def H7 {P:Program} {tys:List (Nat×TI)} {sp:H8} {f:FuncId} {fn:Func} {s:A6} {a:A2 s.args->Prop} (an:An) (c:P.funcs[f]? =some fn) (j:∀x,awf s.args x->s.pre x->a x) (i:I1 P tys=true) (h:Ki P sp) (b:∀x,C0e P tys sp an s fn x=a x:=by intro x;kernel_rfl) (a:fn.body.isSome=true:=by kernel_rfl) (d:Nat.ble s.args.length fn.ntmps=true:=by kernel_rfl) (g:Af fn.ntmps (fn.body.getD .skip)=true:=by kernel_rfl):A7 P f s:=
 B4z c a d g i h b j
def CU:A7 prog 115 K8:=H7 BH func115 Vv A3 (A1)
def TS:A7 prog 26 Ov:=H7 nG func26 bZ A3 (A1)
def A0b:A7 prog 69 Ou:=H7 nF func69 bY A3 (A1)
def Hv:A7 prog 32 Bb:=H7 MQ func32 ES A3 (A0 A0b (A1))
def Kq:A7 prog 34 Jz:=H7 nR func34 cX A3 (A1)
def U3:A7 prog 136 Ox:=H7 nI func136 cF A3 (A1)
def Bu:A7 prog 89 Oy:=H7 nJ func89 cK A3 (A0 U3 (A1))
def TT:A7 prog 86 Oz:=H7 nK func86 cN A3 (A0 Bu (A1))
def TU:A7 prog 46 Pa:=H7 nL func46 cO A3 (A0 TT (A1))
def Xg:A7 prog 55 Ks:=H7 jK func55 WE A3 (A1)
def KY:A7 prog 59 Uy:=H7 A2f func59 eT A3 (A0 Bu (A1))
def Qt:A7 prog 90 Bg:=H7 MY func90 FE A3 (A0 U3 (A1))
def aF:A7 prog 94 Uo:=H7 A1w func94 eG A3 (A0 U3 (A1))
def aG:A7 prog 138 Gf:=H7 XO func138 PF A3 (A0 U3 (A1))
def aH:A7 prog 95 Us:=H7 A1z func95 eK A3 (A0 U3 (A0 aG (A1)))
def dZ:A7 prog 164 Ie:=H7 dL func164 SZ A3 (A0 U3 (A1))
def A0c:A7 prog 165 Ow:=H7 nH func165 cB A3 (A0 U3 (A1))
def A3u:A7 prog 166 Ut:=H7 A2a func166 eM A3 (A1)
def IW:A7 prog 133 Ic:=H7 dK func133 SY A3 (A0 Qt (A0 aF (A0 aH (A0 U3 (A0 dZ (A0 A0c (A0 A3u (A1))))))))
def A3s:A7 prog 132 Uq:=H7 A1x func132 eH A3 (A0 IW (A0 U3 (A1)))
def A3w:A7 prog 87 Uw:=H7 A2d func87 eP A3 (A0 Bu (A0 A3s (A1)))
def Od:A7 prog 50 Gg:=H7 XP func50 PK A3 (A0 Bu (A0 Qt (A1)))
def KX:A7 prog 60 Uv:=H7 A2c func60 eO A3 (A0 Bu (A0 aF (A0 aH (A1))))
def A3v:A7 prog 134 Uu:=H7 A2b func134 eN A3 (A0 Bu (A1))
def A3y:A7 prog 135 Uz:=H7 A2g func135 eU A3 (A0 KY (A0 KX (A1)))
def eC:A7 prog 88 Ig:=H7 dM func88 TA A3 (A0 Od (A0 KX (A0 Bu (A0 IW (A0 A3v (A0 A3y (A1)))))))
def Ko:A7 prog 49 Pb:=H7 nN func49 cR A3 (A0 Kq (A0 TU (A0 Xg (A0 KY (A0 TT (A0 A3w (A0 eC (A1))))))))
def SA:A7 prog 40 Vb:=H7 A7v func40 mS A3 (A0 Ko (A0 Od (A1)))
def AD:A7 prog 33 Q7:=H7 Zt func33 Ss A3 (A0 Hv (A0 SA (A1)))
def Ub:A7 prog 35 Cm:=H7 QD func35 IF A3 (A0 Hv (A0 SA (A1)))
def VT:A7 prog 8 Ef:=H7 UY func8 LR A3 (A0 TS (A0 Hv (A0 AD (A0 Kq (A0 Ub (A1))))))
def H9:A7 prog 141 Cy:=H7 XN func141 PE A3 (A1)
def M8:A7 prog 101 Z8:=H7 JS func101 AW A3 (A0 H9 (A1))
def Y6:A7 prog 100 Bl:=H7 MZ func100 FK A3 (A0 M8 (A1))
def Yq:A7 prog 130 Ee:=H7 UX func130 LQ A3 (A0 M8 (A1))
def G3:A7 prog 82 Y0:=H7 QK func82 IM A3 (A0 Y6 (A0 Yq (A1)))
def Yo:A7 prog 70 Ea:=H7 UT func70 LM A3 (A0 G3 (A1))
def Lv:A7 prog 167 Ej:=H7 VD func167 LX A3 (A1)
def NX:A7 prog 139 Be:=H7 MW func139 FA A3 (A0 H9 (A0 Lv (A1)))
def De:A7 prog 98 Bm:=H7 NA func98 FL A3 (A0 NX (A1))
def L3:A7 prog 140 Q8:=H7 Zu func140 Su A3 (A0 H9 (A1))
def Du:A7 prog 99 S7:=H7 BJ func99 Wc A3 (A0 L3 (A1))
def Ch:A7 prog 143 Ei:=H7 VC func143 LW A3 (A0 H9 (A1))
def Y5:A7 prog 146 Ba:=H7 MP func146 ER A3 (A1)
def VS:A7 prog 142 Ed:=H7 UW func142 LP A3 (A0 Ch (A0 Y5 (A1)))
def Ud:A7 prog 170 N9:=H7 Ti func170 Pt A3 (A0 L3 (A0 H9 (A1)))
def dY:A7 prog 182 Ib:=H7 dJ func182 SU A3 (A1)
def Hu:A7 prog 188 L5:=H7 Wh func188 Qg A3 (A0 dY (A1))
def KW:A7 prog 190 R5:=H7 JW func190 AZ A3 (A1)
def AE:A7 prog 192 N2:=H7 Zv func192 Sv A3 (A0 H9 (A1))
def AF:A7 prog 171 Q9:=H7 (sp:=AO) Zw func171 Sw A3 (A0 H9 (A0 Hu (A0 KW (A0 AE (Gj (KF (cx:=⟨prog,tys⟩) (fn:=f191) (c:=f191.body.getD .skip) func191 (by kernel_rfl) (by kernel_rfl) A3 (V6 (A1) (Jp))) (A1))))))
def Qs:A7 prog 145 Bd:=H7 MV func145 EW A3 (A0 M8 (A0 L3 (A0 H9 (A0 Ch (A0 Lv (A0 Ud (A0 AF (A1))))))))
def HS:A7 prog 201 W2:=H7 HJ func201 Yg A3 (A1)
def NY:A7 prog 189 Bf:=H7 MX func189 FC A3 (A0 HS (A1))
def KV:A7 prog 168 Aa:=H7 JV func168 AY A3 (A0 Hu (A0 NY (A1)))
def Hw:A7 prog 105 Gd:=H7 XL func105 PC A3 (A0 H9 (A1))
def CV:A7 prog 148 Ge:=H7 XM func148 PD A3 (A0 M8 (A0 H9 (A1)))
def KU:A7 prog 169 Z9:=H7 JU func169 AX A3 (A0 Hw (A0 L3 (A0 CV (A1))))
def aD:A7 prog 144 Gc:=H7 XK func144 OZ A3 (A0 M8 (A0 L3 (A0 H9 (A0 Ch (A0 Qs (A0 Lv (A0 KV (A0 KU (A1)))))))))
def Gt:A7 prog 102 Ab:=H7 JX func102 BA A3 (A0 VS (A0 Ch (A0 aD (A0 Qs (A1)))))
def U7:A7 prog 97 X9:=H7 QJ func97 IL A3 (A0 De (A0 Du (A0 Y6 (A0 Gt (A1)))))
def aA:A7 prog 110 Ga:=H7 XI func110 OV A3 (A0 Ch (A0 Y5 (A1)))
def Yr:A7 prog 71 Bi:=H7 VI func71 MC A3 (A0 U7 (A0 aA (A1)))
def Ys:A7 prog 111 Eo:=H7 VL func111 MF A3 (A0 G3 (A1))
def aC:A7 prog 147 Gb:=H7 XJ func147 OY A3 (A0 H9 (A1))
def ZZ:A7 prog 103 Fy:=H7 XG func103 OT A3 (A0 Y5 (A0 aC (A0 CV (A1))))
def Ob:A7 prog 104 Fz:=H7 XH func104 OU A3 (A0 Hw (A0 Y5 (A1)))
def J3:A7 prog 65 Ek:=H7 VE func65 LY A3 (A0 G3 (A0 U7 (A0 De (A0 Du (A0 Y6 (A0 M8 (A0 Gt (A0 ZZ (A0 Ob (A0 Hw (A1)))))))))))
def Me:A7 prog 151 W6:=H7 HO func151 Yl A3 (A1)
def Fp:A7 prog 174 F6:=H7 Fo func174 Dm A3 (A1)
def Iz:A7 prog 193 Kb:=pU fun _ h=>h
def Kr:A7 prog 173 I0:=H7 Kk func173 Io A3 (A0 Fp (A0 Iz (A1)))
def Ff:A7 prog 152 F2:=H7 Ew func152 Dd A3 (A0 Kr (A1))
def RX:A7 prog 157 Cj:=H7 QA func157 IA A3 (A1)
def Oa:A7 prog 121 Y8:=H7 JN func121 AR A3 (A0 RX (A1))
def OB:A7 prog 153 Bp:=H7 NG func153 FR A3 (A0 Oa (A1))
def Qv:A7 prog 112 Bo:=H7 NF func112 FQ A3 (A0 J3 (A0 Me (A0 Ff (A0 OB (A1)))))
def SE:A7 prog 113 Cq:=H7 QL func113 IN A3 (A0 U7 (A1))
def Og:A7 prog 72 Da:=H7 XT func72 PR A3 (A0 Ys (A0 Qv (A0 SE (A1))))
def Mc:A7 prog 36 W0:=H7 HE func36 Yf WZ (A0 Yo (A0 Yr (A0 Og (A1))))
def NZ:A7 prog 73 Bn:=H7 ND func73 FN A3 (A1)
def CX:A7 prog 74 S9:=H7 BL func74 We A3 (A1)
def Hx:A7 prog 76 P5:=H7 Wo func76 Qi A3 (A1)
def AI:A7 prog 75 R2:=H7 Zz func75 Sz A3 (A0 Hx (A1))
def Md:A7 prog 37 W5:=H7 HM func37 Yj A3 (A0 NZ (A0 CX (A0 AI (A0 Hx (A1)))))
def X5:A7 prog 44 Bj:=H7 VJ func44 MD A3 (A0 J3 (A1))
def M5:A7 prog 67 W4:=H7 VH func67 MB A3 (A0 De (A0 Du (A0 Y6 (A0 Gt (A0 Ob (A0 Hw (A1)))))))
def Qr:A7 prog 117 U9:=H7 MS func117 EU A3 (A1)
def VY:A7 prog 131 En:=H7 VK func131 ME A3 (A0 G3 (A0 Me (A1)))
def Cg:A7 prog 85 W1:=H7 VA func85 LU A3 (A0 Qr (A0 VY (A1)))
def Lx:A7 prog 154 I6:=H7 Ll func154 Jc A3 (A1)
def Iy:A7 prog 116 F7:=H7 Iw func116 Gx A3 (A0 Lx (A1))
def Uc:A7 prog 77 X7:=H7 (sp:=SO) QE func77 IG WZ (A0 Cg (A0 U7 (Gj (C3x CU) (A0 Iy (A0 Qr (Gj C0h (Gj (KF (cx:=⟨prog,C0w⟩) (fn:=f118) (c:=f118.body.getD .skip) func118 (by kernel_rfl) (by kernel_rfl) WZ (V6 (A1) (Jp))) (A1))))))))
def KT:A7 prog 126 Z7:=H7 JR func126 AV A3 (A0 L3 (A0 Y5 (A1)))
def H0:A7 prog 79 M9:=H7 HL func79 Yi A3 (A0 KT (A1))
def IX:A7 prog 45 Fi:=H7 dN func45 TB A3 (A0 J3 (A0 H0 (A1)))
def Uf:A7 prog 162 O0:=H7 Tj func162 Px A3 (A1)
def OA:A7 prog 125 V3:=H7 NE func125 FP A3 (A0 Og (Gj B6r (A0 Uf (A1))))
def VX:A7 prog 160 Bh:=H7 VG func160 MA A3 (A0 G3 (A0 U7 (A1)))
def AJ:A7 prog 184 R3:=H7 AA func184 Ta A3 (A0 J3 (A0 M5 (A0 G3 (A0 U7 (A1)))))
def HU:A7 prog 161 P8:=H7 HN func161 Yk A3 (A0 Ys (A0 Qv (A0 AJ (A1))))
def Tz:A7 prog 78 O5:=H7 (sp:=Vj) Te func78 IE HC (A0 H0 (A0 Cg (A0 OA (Gj (KF (cx:=⟨prog,WC⟩) (fn:=f122) (c:=f122.body.getD .skip) func122 (by kernel_rfl) (by kernel_rfl) HC (V6 (A0 Og (A1)) (Jp))) (Gj (KF (cx:=⟨prog,WC⟩) (fn:=f123) (c:=f123.body.getD .skip) func123 (by kernel_rfl) (by kernel_rfl) HC (V6 (Gj (KF (cx:=⟨prog,WC⟩) (fn:=f158) (c:=f158.body.getD .skip) func158 (by kernel_rfl) (by kernel_rfl) HC (V6 (A1) (V6 (A1) (V6 (A1) (V6 (A1) (Jp)))))) (A1)) (Jp))) (Gj (KF (cx:=⟨prog,WC⟩) (fn:=f124) (c:=f124.body.getD .skip) func124 (by kernel_rfl) (by kernel_rfl) HC (V6 (A0 IX (A0 M5 (A0 Yr (A0 VX (A0 HU (Gj (KF (cx:=⟨prog,WC⟩) (fn:=f159) (c:=f159.body.getD .skip) func159 (by kernel_rfl) (by kernel_rfl) HC (V6 (A1) (V6 (A1) (Jp)))) (A1))))))) (Jp))) (A1))))))) ID
def Ua:A7 prog 185 N8:=H7 Tg func185 Po A3 (A1)
def Xf:A7 prog 186 P4:=H7 Wn func186 Qh A3 (A0 Cg (A1))
def KQ:A7 prog 204 Y9:=H7 JO func204 AS A3 (A1)
def CQ:A7 prog 199 S4:=H7 BE func199 Vo A3 (A0 KQ (A1))
def KS:A7 prog 200 Z6:=H7 JQ func200 AU A3 (A0 M8 (A0 Yq (A1)))
def HT:A7 prog 187 W3:=H7 HK func187 Yh A3 (A0 G3 (A0 De (A0 Y6 (A0 Ob (A0 Oa (A0 CQ (A0 KS (A1))))))))
def CS:A7 prog 163 S6:=H7 BG func163 Vs A3 (A0 H0 (A0 Ua (A0 Xf (A0 HT (A1)))))
def NU:A7 prog 127 Az:=H7 MN func127 EL A3 (A0 CS (A1))
def ZY:A7 prog 128 Fx:=H7 XF func128 OR A3 (A0 X5 (A0 M5 (A0 G3 (A1))))
def VW:A7 prog 129 Em:=H7 VF func129 LZ A3 (A0 M5 (A0 G3 (A1)))
def Yp:A7 prog 80 Ay:=H7 UV func80 LO A3 (A0 NU (A0 ZY (A0 VW (A1))))
def Oe:A7 prog 81 H5:=H7 Np func81 Lg A3 (A0 H0 (A1))
def Se:A7 prog 38 H2:=H7 Fs func38 Mz WZ (A0 X5 (A0 M5 (A0 Uc (A0 Tz (A0 H0 (A0 Yp (A0 Oe (A0 G3 (A1))))))))) My
def AH:A7 prog 39 R1:=H7 Zy func39 Sy A3 (A0 X5 (A0 IX (A0 J3 (A0 M5 (A0 H0 (A0 G3 (A1)))))))
def Qu:A7 prog 9 V2:=H7 NC func9 FM A3 (A0 Mc (A0 Md (A0 Se (A0 AH (A1)))))
def aI:A7 prog 16 Cz:=H7 XQ func16 PM A3 (A0 Ko (A0 Od (A1)))
def Kp:A7 prog 47 Pd:=H7 nO func47 cT A3 (A0 Ko (A1))
def A0e:A7 prog 14 Pf:=H7 nQ func14 cV A3 (A0 TU (A0 Kp (A1)))
def A3t:A7 prog 93 Ur:=H7 A1y func93 eI A3 (A0 U3 (A1))
def A3x:A7 prog 56 Ux:=H7 A2e func56 eQ A3 (A0 Bu (A0 A3t (A1)))
def aJ:A7 prog 57 Ve:=H7 A2k func57 eZ A3 (A0 Kp (A1))
def KZ:A7 prog 24 Va:=H7 A2h func24 eV A3 (A0 Kp (A0 Ko (A0 A3x (A0 aJ (A0 KX (A1))))))
def A4a:A7 prog 61 Vf:=H7 A2l func61 fA A3 (A0 KZ (A0 Kq (A1)))
def aK:A7 prog 137 Gh:=H7 XR func137 PN A3 (A1)
def A0f:A7 prog 91 Pg:=H7 nS func91 dA A3 (A0 A0e (A0 A4a (A0 aK (A1))))
def SB:A7 prog 51 Co:=H7 QG func51 II A3 (A0 A0f (A1))
def A0g:A7 prog 17 Ka:=H7 nT func17 dC A3 (A0 SB (A1))
def lX:A7 prog 54 Kt:=H7 jL func54 WF A3 (A0 Xg (A1))
def Xh:A7 prog 20 Ku:=H7 jM func20 WG A3 (A0 lX (A0 Xg (A1)))
def Ue:A7 prog 68 Cn:=H7 QF func68 IH A3 (A0 Xh (A0 Kp (A1)))
def SC:A7 prog 53 Cp:=H7 QH func53 IJ A3 (A0 Xh (A0 Ue (A1)))
def SD:A7 prog 19 X8:=H7 QI func19 IK A3 (A0 SC (A1))
def LA:A7 prog 23 Nj:=H7 A2i func23 eW A3 (A0 Kp (A0 Ko (A0 aJ (A0 KY (A1)))))
def NV:A7 prog 41 U8:=H7 MO func41 EN A3 (A1)
def aB:A7 prog 10 I3:=dX (A0 Qu (A0 aI (A0 A0g (A0 SD (A0 LA (A0 Kq (A0 SA (A0 NV (A1))))))))) OX
def A3z:A7 prog 48 Vd:=H7 A2j func48 eY A3 (A0 LA (A0 KZ (A1)))
def NW:A7 prog 62 Bc:=H7 MR func62 ET A3 (A0 Ub (A1))
def AC:A7 prog 27 Q6:=H7 Zs func27 Sr A3 (A0 LA (A0 KZ (A0 Kq (A0 A3z (A0 NW (A1))))))
def lY:A7 prog 12 Kv:=H7 jN func12 WH A3 (A1)
def aL:A7 prog 63 Gi:=H7 XS func63 PO A3 (A1)
def lZ:A7 prog 28 Kw:=H7 jO func28 WI A3 (A0 lY (A0 aL (A1)))
def AG:A7 prog 43 R0:=H7 Zx func43 Sx A3 (A0 Cg (A1))
def VV:A7 prog 96 Eh:=H7 VB func96 LV A3 (A0 H0 (A1))
def VU:A7 prog 64 Eg:=H7 UZ func64 LS A3 (A0 J3 (A0 M5 (A0 Cg (A0 VV (A1)))))
def CW:A7 prog 29 S8:=H7 BK func29 Wd A3 (A0 AG (A0 VU (A0 J3 (A1))))
def RZ:A7 prog 106 Cl:=H7 QC func106 IC A3 (A0 Md (A1))
def Lw:A7 prog 172 I5:=H7 Lk func172 Jb A3 (A1)
def Ix:A7 prog 149 H3:=H7 Iv func149 Gv A3 (A0 Lw (A1))
def CR:A7 prog 150 S5:=H7 BF func150 Vq A3 (A0 G3 (A1))
def KR:A7 prog 107 Z4:=H7 JP func107 AT A3 (A0 J3 (A0 Ix (A0 CR (A1))))
def ZX:A7 prog 108 Fw:=H7 XE func108 OQ A3 (A0 X5 (A0 J3 (A0 H0 (A1))))
def VR:A7 prog 109 Eb:=H7 UU func109 LN A3 (A0 Mc (A0 Uc (A0 Tz (A0 Yp (A1)))))
def RY:A7 prog 66 Ck:=H7 QB func66 IB A3 (A0 X5 (A0 M5 (A0 Yo (A0 H0 (A0 RZ (A0 KR (A0 ZX (A0 VR (A1)))))))))
def VQ:A7 prog 30 Dz:=H7 US func30 LK A3 (A0 X5 (A0 J3 (A0 RY (A0 M5 (A1)))))
def A0d:A7 prog 31 Pe:=H7 nP func31 cU A3 (A0 Xh (A0 Ue (A1)))
def Oc:A7 prog 7 G2:=H7 Nn func7 Lc A3 (A0 VT (A0 Qu (A0 aB (A0 TS (A0 AC (A0 lZ (A0 CW (A0 VQ (A0 A0d (A1))))))))))
end Go.Proofs.YtiflhbllbgajeaaGreat
