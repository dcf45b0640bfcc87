/- Part. -/
import Derived.Test.YtdlnpbmmdnmkaaaGreatKMF
set_option linter.all false
namespace Go.Proofs.YtdlnpbmmdnmkaaaGreat
open Go.Vc Go.Gw
theorem Sk (x:A5 T5.args) (hw:awf T5.args x) (hp:T5.pre x):Jp x:=by
 obtain⟨a,b,_⟩:=x;have ha:A7 a:=A4 hw.1.2;have hb:A7 b:=A4 hw.2.1.2;change List Int at a b;have la:a.length<=17592186044416:=hp;have n1:=D3 ha;simp only[Jp];refine⟨trivial, ?_⟩;rintro⟨r,_⟩ _ hr;refine⟨trivial, ?_⟩;rintro⟨s,_⟩ _ hs;simp only at hr hs⊢;have hrv:nv r=nv a:=by rw[hr,E8]
 have hsv:nv s=nv b:=by rw[hs,E8]
 have hrl:r.length<=a.length:=by rw[hr];exact n1
 have hra:A7 r:=hr▸H9 _;have hsb:A7 s:=hs▸H9 _;refine⟨fun h=> ?_,fun h=> ?_⟩
 . have h:=of_decide_eq_true h;have h0:nv b=0:=by rw[<-hsv,List.eq_nil_of_length_eq_zero (l:=s) (by omega)];rfl
   exact⟨fun _=>⟨by trivial,by trivial,by trivial⟩,fun h1=>absurd h0 h1⟩
 have h:=of_decide_eq_false h;have hb0:nv b≠0:=fun h0=>h (by rw[hs,h0,L9];rfl)
 refine⟨trivial, ?_⟩;rintro⟨d,_⟩ _ hd;simp only at hd⊢;rw[hrv,hsv]at hd;refine⟨fun h=> ?_,fun h=> ?_⟩
 . have h:=of_decide_eq_true h;have hlt:nv a<nv b:=by
    rcases Nat.lt_or_ge (nv a) (nv b)with h1|h1
    . exact h1
    . unfold Cc at hd;rw[if_neg (by omega)]at hd;split at hd<;>omega
   refine⟨Nat.le_trans hrl (Nat.le_trans la (by decide)), ?_⟩;rintro⟨t,_⟩ _ ht;simp only at ht⊢;refine⟨fun h0=>absurd h0 hb0,fun _=>⟨?_, ?_,by trivial⟩⟩
   . rw[Nat.div_eq_of_lt hlt,L9]
   . rw[Nat.mod_eq_of_lt hlt,ht,hrv]
 have h:=of_decide_eq_false h;have hge:nv b<=nv a:=by
  rcases Nat.lt_or_ge (nv a) (nv b)with h1|h1
  . rw[Jb h1]at hd;omega
  . exact h1
 have hsr:s.length<=r.length:=by rw[hr,hs];exact I2 hge
 refine⟨fun h2=> ?_,fun h2=> ?_⟩
 . have h2:=of_decide_eq_true h2;refine⟨by omega, ?_⟩;rintro⟨x,_⟩ ⟨hx,_⟩ hxe;refine⟨by omega, ?_⟩;rintro⟨y,_⟩ ⟨hy,_⟩ hye;change Int at x y;simp only at hx hy hxe hye⊢;rw[hrv]at hxe;rw[hsv]at hye;have hxm:x<=18446744073709551615:=by have:=hx.2;rw[Ul]at this;exact this
   have e1:Int.tdiv x y=((nv a/nv b:Nat):Int):=by rw[hxe,hye];rfl
   have e2:Int.tmod x y=((nv a%nv b:Nat):Int):=by rw[hxe,hye];rfl
   have hq:nv a/nv b<=nv a:=Nat.div_le_self _ _;refine⟨by omega,by omega,trivial, ?_⟩;rintro⟨q,_⟩ _ hq';refine⟨trivial, ?_⟩;rintro⟨m,_⟩ _ hm;simp only at hq' hm⊢;refine⟨fun h0=>absurd h0 hb0,fun _=>⟨?_, ?_,by trivial⟩⟩
   . rw[hq',e1];generalize nv a/nv b=Q at*;rw[R5 (by omega) (by omega)];rfl
   . rw[hm,e2];rfl
 have h2:=of_decide_eq_false h2;refine⟨fun h3=> ?_,fun h3=> ?_⟩
 . have h3:=of_decide_eq_true h3;have e:(gx (0:Int) s (0:Int)).toNat=nv b:=by
    rw[<-hsv];obtain⟨z,rfl⟩:∃z,s= [z]:=List.length_eq_one_iff.1 (by omega);show z.toNat=z.toNat+4294967296*0;omega
   have hg:=Nf hsb (i:=0) (Int.le_refl _) (by omega);refine⟨⟨Int.le_refl _,by omega⟩,⟨Nat.le_trans hrl la,by omega⟩, ?_⟩;rintro⟨q,m,_⟩ _ hqm;simp only at hqm⊢;rw[e,hrv]at hqm;exact⟨fun h0=>absurd h0 hb0,fun _=>⟨hqm.1,hqm.2,by trivial⟩⟩
 have h3:=of_decide_eq_false h3;refine⟨⟨Nat.le_trans hrl la,by omega,hsr,by rw[hs];exact QO hb0⟩, ?_⟩;rintro⟨q,m,_⟩ _ hqm;simp only at hqm⊢;rw[hrv,hsv]at hqm;exact⟨fun h0=>absurd h0 hb0,fun _=>⟨hqm.1,hqm.2,by trivial⟩⟩
structure VG (A B A' B':Nat):Prop where
 g:Nat.gcd A' B'=Nat.gcd A B
 le:B'<=A'
 lt:A'+B'<A+B
 top:A'<=A
theorem gD {A B:Nat} (h:B<=A) (hB:0<B):VG A B B (A%B) where
 g:=by rw[Nat.gcd_comm A B,Nat.gcd_comm B];exact(Nat.gcd_rec B A).symm
 le:=Nat.le_of_lt (Nat.mod_lt _ hB)
 lt:=by have:=Nat.mod_lt A hB;omega
 top:=h
theorem gM {A B:Nat} {u0 u1 v0 v1:Int} {ev:Bool} (hB:0<B) (h:A2x A B u0 u1 v0 v1 ev) (hv:v0≠0):
 (ev=true->B*v0.toNat<=A*u0.toNat/\A*u1.toNat<=B*v1.toNat/\VG A B (A*u0.toNat-B*v0.toNat) (B*v1.toNat-A*u1.toNat))/\
 (ev=false->A*u0.toNat<=B*v0.toNat/\B*v1.toNat<=A*u1.toNat/\VG A B (B*v0.toNat-A*u0.toNat) (A*u1.toNat-B*v1.toNat)):=by
 rcases h with h| ⟨A',B',eA,eB,h0,h1,iA,iB,p1,p2,p3,p4⟩
 . exact absurd h hv
 have hg:=kW (A:=A) (B:=B) (A':=A') (B':=B') (u0:=u0) (u1:=u1) (v0:=v0) (v1:=v1) (s:=if ev then u0 else -u0) (t:=if ev then -v0 else v0) (p:=if ev then -u1 else u1) (q:=if ev then v1 else -v1) iA iB (by rw[eA];cases ev<;>simp<;>grind) (by rw[eB];cases ev<;>simp<;>grind);obtain⟨U0,rfl⟩:=Int.eq_ofNat_of_zero_le p3;obtain⟨U1,rfl⟩:=Int.eq_ofNat_of_zero_le p4;obtain⟨V0,rfl⟩:=Int.eq_ofNat_of_zero_le (show(0:Int)<=v0 by omega);obtain⟨V1,rfl⟩:=Int.eq_ofNat_of_zero_le (show(0:Int)<=v1 by omega);obtain⟨b,rfl⟩:=Int.eq_ofNat_of_zero_le h0;obtain⟨a,rfl⟩:=Int.eq_ofNat_of_zero_le (Int.le_trans h0 h1);simp only[Int.toNat_natCast];have k1:(1:Int)*(a:Int)<=(V1:Int)*a:=Int.mul_le_mul_of_nonneg_right p2 (by omega);have k2:(1:Int)*(b:Int)<=(V0:Int)*b:=Int.mul_le_mul_of_nonneg_right p1 (by omega);have m1:∀x y:Nat,((x*y:Nat):Int)=(y:Int)*(x:Int):=fun x y=>by rw[Int.natCast_mul,Int.mul_comm]
 have e1:=m1 A U0;have e2:=m1 B V0;have e3:=m1 A U1;have e4:=m1 B V1;have hst:VG A B a b:=⟨hg.symm,by omega,by omega,by omega⟩;refine⟨fun he=> ?_,fun he=> ?_⟩
 . subst he;simp only[if_true]at eA eB;have z1:A*U0-B*V0=a:=by omega
   have z2:B*V1-A*U1=b:=by omega
   refine⟨by omega,by omega, ?_⟩;rw[z1,z2];exact hst
 . subst he;simp only[Bool.false_eq_true,if_false]at eA eB;have z1:B*V0-A*U0=a:=by omega
   have z2:A*U1-B*V1=b:=by omega
   refine⟨by omega,by omega, ?_⟩;rw[z1,z2];exact hst
theorem kX {x y:Int} (hx:0<=x) (hy:0<y):Nat.gcd y.toNat (Int.tmod x y).toNat=Nat.gcd x.toNat y.toNat/\(Int.tmod x y).toNat<y.toNat:=by
 obtain⟨a,rfl⟩:=Int.eq_ofNat_of_zero_le hx;obtain⟨b,rfl⟩:=Int.eq_ofNat_of_zero_le (Int.le_of_lt hy);have e:Int.tmod (a:Int) (b:Int)=((a%b:Nat):Int):=rfl;simp only[e,Int.toNat_natCast];have hb:0<b:=by omega
 exact⟨by rw[Nat.gcd_comm a b,Nat.gcd_comm b];exact(Nat.gcd_rec b a).symm,Nat.mod_lt _ hb⟩
structure jC (G:Nat) (a b:List Int):Prop where
 ea:a=nc (nv a)
 eb:b=nc (nv b)
 le:nv b<=nv a
 g:Nat.gcd (nv a) (nv b)=G
 len:a.length<=8796093022208
theorem jC.step {G:Nat} {a b a' b':List Int} {A' B':Nat} (h:jC G a b) (s:VG (nv a) (nv b) A' B') (ha:a'=nc A') (hb:b'=nc B'):jC G a' b'/\nv a'+nv b'<nv a+nv b:=by
 have e1:nv a'=A':=by rw[ha,E8]
 have e2:nv b'=B':=by rw[hb,E8]
 refine⟨⟨by rw[e1];exact ha,by rw[e2];exact hb,by rw[e1,e2];exact s.le,by rw[e1,e2,s.g];exact h.g, ?_⟩,by rw[e1,e2];exact s.lt⟩;have:=I2 s.top;rw[<-h.ea]at this;rw[ha];exact Nat.le_trans this h.len
theorem AV (x:A5 Bo.args) (hw:awf Bo.args x) (hp:Bo.pre x):Sl x:=by
 obtain⟨a,b,_⟩:=x;have ha:A7 a:=A4 hw.1.2;have hb:A7 b:=A4 hw.2.1.2;change List Int at a b;obtain⟨la,lb⟩:a.length<=8796093022208/\b.length<=8796093022208:=hp;have n1:=D3 ha;have n2:=D3 hb;simp only[Sl];refine⟨trivial, ?_⟩;rintro⟨r,_⟩ _ hr;refine⟨trivial, ?_⟩;rintro⟨s,_⟩ _ hs;simp only at hr hs⊢;have hrv:nv r=nv a:=by rw[hr,E8]
 have hsv:nv s=nv b:=by rw[hs,E8]
 refine⟨fun p=>jC (Nat.gcd (nv a) (nv b)) p.1 p.2.1,⟨trivial, ?_⟩, ?_⟩
 . rintro⟨d,_⟩ _ hd;simp only at hd⊢;rw[hrv,hsv]at hd;refine⟨fun h=> ?_,fun h=> ?_⟩
   . have h:=of_decide_eq_true h;refine⟨by rw[hsv];exact hs,by rw[hrv];exact hr, ?_,by rw[hrv,hsv,Nat.gcd_comm],by rw[hs];omega⟩;rw[hrv,hsv];rcases Nat.lt_or_ge (nv a) (nv b)with h1|h1
     . omega
     . unfold Cc at hd;rw[if_neg (by omega)]at hd;split at hd<;>omega
   . have h:=of_decide_eq_false h;refine⟨by rw[hrv];exact hr,by rw[hsv];exact hs, ?_,by rw[hrv,hsv],by rw[hr];omega⟩;rw[hrv,hsv];rcases Nat.lt_or_ge (nv a) (nv b)with h1|h1
     . rw[Jb h1]at hd;omega
     . exact h1
 rintro⟨a0,b0,_⟩ _ h0;simp only at h0⊢;refine⟨fun p=>jC (Nat.gcd (nv a) (nv b)) p.1 p.2.1,fun p=>nv p.1+nv p.2.1,h0, ?_⟩;rintro⟨a',b',_⟩ ⟨hwa,hwb,_⟩ hI;have ha':A7 a':=A4 hwa.2;have hb':A7 b':=A4 hwb.2;change List Int at a' b';simp only at hI⊢;have hlen:=hI.len;have hbl:b'.length<=a'.length:=by rw[hI.ea,hI.eb];exact I2 hI.le
 refine⟨fun hc=> ?_,fun hc=> ?_⟩
 . have hc:=of_decide_eq_true hc;have hB:0<nv b':=by
    rcases Nat.eq_zero_or_pos (nv b')with h1|h1
    . have:=hI.eb;rw[h1,L9]at this;rw[this]at hc;exact absurd hc (by simp)
    . exact h1
   have hA0:nv a'≠0:=by have:=hI.le;omega
   refine⟨fun h2=> ?_,fun h2=> ?_⟩
   . have h2:=of_decide_eq_true h2;refine⟨by omega, ?_⟩;rintro⟨x,_⟩ _ hx;refine⟨by omega, ?_⟩;rintro⟨y,_⟩ _ hy;simp only at hx hy⊢;refine⟨fun p=>0<=p.1/\0<=p.2.1/\Nat.gcd p.1.toNat p.2.1.toNat=Nat.gcd (nv a) (nv b),fun p=>p.2.1.toNat,⟨by show(0:Int)<=x;omega,by show(0:Int)<=y;omega, ?_⟩, ?_⟩
     . show Nat.gcd x.toNat y.toNat= _;rw[hx,hy,Int.toNat_natCast,Int.toNat_natCast];exact hI.g
     rintro⟨X,Y,_⟩ _ ⟨x0,y0,hg⟩;change Int at X Y;simp only at x0 y0 hg⊢;refine⟨fun h3=> ?_,fun h3=> ?_⟩
     . have h3:=of_decide_eq_true h3;obtain⟨g1,g2⟩:=kX x0 (show 0<Y by omega);exact⟨h3,⟨y0,Int.tmod_nonneg _ x0,by rw[g1];exact hg⟩,g2⟩
     . have h3:Y=0:=Decidable.of_not_not (of_decide_eq_false h3);refine⟨trivial, ?_⟩;rintro⟨q,_⟩ _ hq;simp only at hq⊢;rw[h3]at hg;rw[hq, <-hg];exact congrArg nc (Nat.gcd_zero_right _).symm
   . have h2:=of_decide_eq_false h2;refine⟨⟨by omega,by omega,by rw[hI.ea];exact QO hA0,hI.le,hbl⟩, ?_⟩;rintro⟨⟨u0,u1,v0,v1,ev⟩,_⟩ _ hL;change Int at u0 u1 v0 v1;change Bool at ev;simp only at hL⊢;refine⟨fun h4=> ?_,fun h4=> ?_⟩
     . refine⟨by omega, ?_⟩;rintro⟨q,m,ok,_⟩ _ hqm;simp only at hqm⊢;obtain⟨_,hm,_⟩:=hqm.2 (by omega);exact hI.step (gD hI.le hB) hI.eb hm
     . have h4:=of_decide_eq_false h4;obtain⟨w1,w2⟩:=gM hB hL h4;refine⟨fun he=> ?_,fun he=> ?_⟩
       . obtain⟨c1,c2,st⟩:=w1 he;refine⟨⟨by omega,by omega,c1⟩, ?_⟩;rintro⟨p,_⟩ _ hp;refine⟨⟨by omega,by omega,c2⟩, ?_⟩;rintro⟨q,_⟩ _ hq;simp only at hp hq⊢;exact hI.step st hp hq
       . obtain⟨c1,c2,st⟩:=w2 he;refine⟨⟨by omega,by omega,c1⟩, ?_⟩;rintro⟨p,_⟩ _ hp;refine⟨⟨by omega,by omega,c2⟩, ?_⟩;rintro⟨q,_⟩ _ hq;simp only at hp hq⊢;exact hI.step st hp hq
 . have hc:=of_decide_eq_false hc;refine⟨by show a'.length<=35184372088832;omega, ?_⟩;rintro⟨q,_⟩ _ hq;simp only at hq⊢;have hb0:nv b'=0:=by rw[List.eq_nil_of_length_eq_zero (l:=b') (by omega)];rfl
   have:=hI.g;rw[hb0,Nat.gcd_zero_right]at this;rw[hq,this]
def Yt:An:= {}
def Wr:An:= {}
def GA:An:= {}
def FZ:An:= {plan:= [(1,[1,3],[6],true, .done)]}
def HX:An:= {plan:= [(1,[1,4],[7],true, .done)]}
def HV:An:= {plan:= [(2,[1,3,5],[8],true, .done)]}
def HW:An:= {plan:= [(1,[1,3,6,8],[11],true, .done)]}
def Jm:A5 T3.args->Prop:=fun(x:Bool×List Int×Unit)=>(E5 x.1 (decide ((0:Int)<(x.2.1.length:Int))) false,x.2.1)=(x.1&&decide (x.2.1≠ []),x.2.1)
def Ii:A5 Q8.args->Prop:=fun(x:Int×Unit)=>(decide (x.1<0)=true->True/\∀(r:List Int×Unit),J0 r.1/\True->r.1=nc (IntKind.u64.wrap (-IntKind.u64.wrap x.1)).toNat->True/\∀(a:(Bool×List Int)×Unit),G2 a.1/\True->a.1=(true&&decide (r.1≠ []),r.1)->a.1=ic x.1)/\(decide (x.1<0)=false->True/\∀(r:List Int×Unit),J0 r.1/\True->r.1=nc (IntKind.u64.wrap x.1).toNat->True/\∀(a:(Bool×List Int)×Unit),G2 a.1/\True->a.1=(false&&decide (r.1≠ []),r.1)->a.1=ic x.1)
def Ol:A5 Z8.args->Prop:=fun(x:(Bool×List Int)×Unit)=>True/\∀(r:Int×Unit),L4 r.1/\True->r.1=Cc (nv x.1.2) (nv [])->(decide (r.1=0)=true->(0:Int)=(iv x.1).sign)/\(decide (r.1=0)=false->(x.1.1=true->(-1:Int)=(iv x.1).sign)/\(x.1.1=false->(1:Int)=(iv x.1).sign))
def Oj:A5 Z7.args->Prop:=fun(x:(Bool×List Int)×Unit)=>Dw x.1.2/\∀(r:List Int×Unit),J0 r.1/\True->r.1=nc (nv x.1.2)->True/\∀(a:(Bool×List Int)×Unit),G2 a.1/\True->a.1=(x.1.1&&decide (r.1≠ []),r.1)->a.1=ic (iv x.1)
def Sd:A5 Bl.args->Prop:=fun(x:(Bool×List Int)×Unit)=>Dw x.1.2/\∀(r:List Int×Unit),J0 r.1/\True->r.1=nc (nv x.1.2)->True/\∀(a:(Bool×List Int)×Unit),G2 a.1/\True->a.1=(!x.1.1&&decide (r.1≠ []),r.1)->a.1=ic (-iv x.1)
def Sb:A5 Bi.args->Prop:=fun(x:(Bool×List Int)×(Bool×List Int)×Unit)=>((x.1.1==x.2.1.1)=true->(E3 x.1.2/\E3 x.2.1.2)/\∀(r:List Int×Unit),J0 r.1/\True->r.1=nc (nv x.1.2+nv x.2.1.2)->True/\∀(a:(Bool×List Int)×Unit),G2 a.1/\True->a.1=(x.1.1&&decide (r.1≠ []),r.1)->a.1=ic (iv x.1+iv x.2.1))/\((x.1.1==x.2.1.1)=false->(E3 x.1.2/\E3 x.2.1.2)/\∀(r:List Int×Bool×Unit),J0 r.1/\True/\True->(nv x.1.2<nv x.2.1.2->r.1= []/\r.2.1=false)/\(nv x.2.1.2<=nv x.1.2->r.1=nc (nv x.1.2-nv x.2.1.2)/\r.2.1=true)->(r.2.1=true->True/\∀(a:(Bool×List Int)×Unit),G2 a.1/\True->a.1=(x.1.1&&decide (r.1≠ []),r.1)->a.1=ic (iv x.1+iv x.2.1))/\(r.2.1=false->(E3 x.2.1.2/\E3 x.1.2)/\∀(r:List Int×Bool×Unit),J0 r.1/\True/\True->(nv x.2.1.2<nv x.1.2->r.1= []/\r.2.1=false)/\(nv x.1.2<=nv x.2.1.2->r.1=nc (nv x.2.1.2-nv x.1.2)/\r.2.1=true)->True/\∀(a:(Bool×List Int)×Unit),G2 a.1/\True->a.1=(x.2.1.1&&decide (r.1≠ []),r.1)->a.1=ic (iv x.1+iv x.2.1)))
def Sc:A5 Bj.args->Prop:=fun(x:(Bool×List Int)×(Bool×List Int)×Unit)=>(E3 x.1.2/\E3 x.2.1.2)/\∀(r:List Int×Unit),J0 r.1/\True->r.1=nc (nv x.1.2*nv x.2.1.2)->True/\∀(a:(Bool×List Int)×Unit),G2 a.1/\True->a.1=(x.1.1 !=x.2.1.1&&decide (r.1≠ []),r.1)->a.1=ic (iv x.1*iv x.2.1)
theorem Se (x:A5 T3.args) (hw:awf T3.args x) (_:T3.pre x):Jm x:=by
 obtain⟨b,l,_⟩:=x;change Bool at b;change List Int at l;simp only[Jm,J1];cases l<;>simp
theorem Pw (x:A5 Q8.args) (hw:awf Q8.args x) (_:Q8.pre x):Ii x:=by
 obtain⟨v,_⟩:=x;change Int at v;have hv:IntKind.i64.min<=v/\v<=IntKind.i64.max:=hw.1;rw[Mx,Tv]at hv;simp only[Ii];refine⟨fun h=>⟨trivial, ?_⟩,fun h=>⟨trivial, ?_⟩⟩
 . rintro⟨r,_⟩ _ hr;refine⟨trivial, ?_⟩;rintro⟨s,_⟩ _ hs;simp only at hr hs⊢;have h:=of_decide_eq_true h;have e:(IntKind.u64.wrap (-IntKind.u64.wrap v)).toNat=v.natAbs:=by rw[Y3,Y3];omega
   rw[e]at hr;subst hs hr;unfold ic;rw[decide_eq_true h,Bool.true_and,decide_eq_true (by rw[ne_eq,Qz];omega)]
 . rintro⟨r,_⟩ _ hr;refine⟨trivial, ?_⟩;rintro⟨s,_⟩ _ hs;simp only at hr hs⊢;have h:=of_decide_eq_false h;have e:(IntKind.u64.wrap v).toNat=v.natAbs:=by rw[Y3];omega
   rw[e]at hr;subst hs hr;unfold ic;rw[decide_eq_false h,Bool.false_and]
theorem Ye (x:A5 Z8.args) (hw:awf Z8.args x) (_:Z8.pre x):Ol x:=by
 obtain⟨⟨b,l⟩,_⟩:=x;change Bool at b;change List Int at l;simp only[Ol];refine⟨trivial, ?_⟩;rintro⟨r,_⟩ _ hr;simp only at hr⊢;rw[UG]at hr;refine⟨fun h=> ?_,fun h=>⟨fun hb=> ?_,fun hb=> ?_⟩⟩
 . have h:=of_decide_eq_true h;have h0:nv l=0:=KD.1 (hr▸h);unfold iv;simp only[h0];split<;>rfl
 . have h:=of_decide_eq_false h;have h0:nv l≠0:=fun e=>h (by rw[hr,e];rfl)
   unfold iv;simp only[hb,if_true];rw[Int.sign_neg,Int.sign_eq_one_of_pos (by omega)]
 . have h:=of_decide_eq_false h;have h0:nv l≠0:=fun e=>h (by rw[hr,e];rfl)
   unfold iv;simp only[hb];exact(Int.sign_eq_one_of_pos (by simp;omega)).symm
theorem LO {neg:Bool} {m:Nat} {v:Int} (h:v=if neg=true then -(m:Int)else(m:Int)):(neg&&decide (nc m≠ []),nc m)=ic v:=by
 have e:ic (iv (neg,nc m))=(neg&&decide (m≠0),nc m):=lD;have e2:iv (neg,nc m)=v:=by rw[h];unfold iv;simp only[E8]
 rw[e2]at e;rw[e];have:decide (nc m≠ [])=decide (m≠0):=decide_eq_decide.2 (not_congr Qz);rw[this]
theorem Yd (x:A5 Z7.args) (hw:awf Z7.args x) (hp:Z7.pre x):Oj x:=by
 obtain⟨⟨b,l⟩,_⟩:=x;change Bool at b;change List Int at l;simp only[Oj];refine⟨hp, ?_⟩;rintro⟨r,_⟩ _ hr;refine⟨trivial, ?_⟩;rintro⟨z,_⟩ _ hz;simp only at hr hz⊢;subst hr;rw[hz];exact LO rfl
theorem AQ (x:A5 Bi.args) (hw:awf Bi.args x) (hp:Bi.pre x):Sb x:=by
 obtain⟨⟨b,l⟩,⟨c,k⟩,_⟩:=x;change Bool at b c;change List Int at l k;obtain⟨hl,hk⟩:E3 l/\E3 k:=hp;simp only[Sb];refine⟨fun h=> ?_,fun h=> ?_⟩
 . refine⟨⟨hl,hk⟩, ?_⟩;rintro⟨r,_⟩ _ hr;refine⟨trivial, ?_⟩;rintro⟨z,_⟩ _ hz;simp only at hr hz⊢;have h:b=c:=by simpa using h
   subst hr h;rw[hz];refine LO ?_;unfold iv;cases b<;>simp<;>omega
 . have h:c= !b:=by cases b<;>cases c<;>simp_all
   subst h;refine⟨⟨hl,hk⟩, ?_⟩;rintro⟨r,ok,_⟩ _ hr;simp only at hr⊢;refine⟨fun h1=>⟨trivial, ?_⟩,fun h1=>⟨⟨hk,hl⟩, ?_⟩⟩
   . rintro⟨z,_⟩ _ hz;simp only at hz⊢;rcases Nat.lt_or_ge (nv l) (nv k)with h2|h2
     . rw[(hr.1 h2).2]at h1;exact absurd h1 (by decide)
     . rw[(hr.2 h2).1]at hz;rw[hz];refine LO ?_;unfold iv;cases b<;>simp<;>omega
   . rintro⟨s,ok2,_⟩ _ hs;refine⟨trivial, ?_⟩;rintro⟨z,_⟩ _ hz;simp only at hs hz⊢;rcases Nat.lt_or_ge (nv l) (nv k)with h2|h2
     . rw[(hs.2 (by omega)).1]at hz;rw[hz];refine LO ?_;unfold iv;cases b<;>simp<;>omega
     . rw[(hr.2 h2).2]at h1;exact absurd h1 (by decide)
theorem AR (x:A5 Bj.args) (hw:awf Bj.args x) (hp:Bj.pre x):Sc x:=by
 obtain⟨⟨b,l⟩,⟨c,k⟩,_⟩:=x;change Bool at b c;change List Int at l k;obtain⟨hl,hk⟩:E3 l/\E3 k:=hp;simp only[Sc];refine⟨⟨hl,hk⟩, ?_⟩;rintro⟨r,_⟩ _ hr;refine⟨trivial, ?_⟩;rintro⟨z,_⟩ _ hz;simp only at hr hz⊢;subst hr;rw[hz];refine LO ?_;unfold iv;cases b<;>cases c<;>simp<;>grind
def Uq:An:= {}
def Za:An:= {plan:= [(3,[1],[4],false, .done)]}
def CB:An:= {}
def Zb:An:= {}
def Qg:An:= {join:= [(4,⟨[0,1,4],[0],[(5,false,[.val (.int .u64)])],[],[]⟩)],loop:= [(5,⟨[0,1,4,5],[0],[(6,false,[.val (.int .u64)]),(7,false,[.val (.int .u64)])],[],[]⟩)],plan:= [(6,[],[],true, .done),(7,[],[13],true, .done)]}
def Ww:An:= {join:= [(8,⟨[2,4],[1],[(1,false,[.val (.sl (.int .u32))])],[(0,44,[.val .bool, .val (.sl (.int .u32))])],[]⟩)]}
def BZ:An:= {}
def Gd:A5 P4.args->Prop:=fun(x:Int×Unit)=>True/\∀(r:(Bool×List Int)×Unit),G2 r.1/\True->r.1=ic x.1->(r.1,[(1:Int)])=ri x.1
def Jt:A5 U3.args->Prop:=fun(x:QQ×Unit)=>True/\∀(r:Int×Unit),L4 r.1/\True->r.1=Cc (nv x.1.2) (nv [])->(decide (r.1=0)=true->(nv x.1.2=0->(false,[])=zi/\ [(1:Int)]= [(1:Int)])/\(nv x.1.2≠0->(false,[])=x.1.1/\ [(1:Int)]=x.1.2))/\(decide (r.1=0)=false->((nv x.1.2=0->x.1.1=zi/\x.1.2= [(1:Int)])/\(nv x.1.2≠0->x.1.1=x.1.1/\x.1.2=x.1.2))/\(nv x.1.2=0->x.1.1=zi/\x.1.2= [(1:Int)])/\(nv x.1.2≠0->x.1.1=x.1.1/\x.1.2=x.1.2))
def Ml:A5 Q0.args->Prop:=fun(x:QQ×Unit)=>True/\∀(r:(Bool×List Int)×List Int×Unit),G2 r.1/\J0 r.2.1/\True->(nv x.1.2=0->r.1=zi/\r.2.1= [(1:Int)])/\(nv x.1.2≠0->r.1=x.1.1/\r.2.1=x.1.2)->True/\∀(a:Int×Unit),L4 a.1/\True->a.1=(iv r.1).sign->a.1=(rv x.1).num.sign
def Ju:A5 U4.args->Prop:=fun(x:QQ×Unit)=>True/\∀(r:Int×Bool×Unit),Dz r.1/\True/\True->(nv x.1.1.2<18446744073709551616->r.1=(↑(nv x.1.1.2):Int)/\r.2.1=true)/\((18446744073709551616:Nat)<=nv x.1.1.2->r.2.1=false)->True/\∀(a:Int×Bool×Unit),Dz a.1/\True/\True->(nv x.1.2<18446744073709551616->a.1=(↑(nv x.1.2):Int)/\a.2.1=true)/\((18446744073709551616:Nat)<=nv x.1.2->a.2.1=false)->(E5 (E5 (E5 (!r.2.1) true !a.2.1) true (decide (2147483648<=r.1))) true (decide (2147483648<=a.1))=true->(K2 x.1->(0:Int)=Pm x.1/\(0:Int)=Kw x.1/\false=true)/\(¬K2 x.1->false=false))/\(E5 (E5 (E5 (!r.2.1) true !a.2.1) true (decide (2147483648<=r.1))) true (decide (2147483648<=a.1))=false->(decide (a.1=0)=true->(K2 x.1->(0:Int)=Pm x.1/\(1:Int)=Kw x.1/\true=true)/\(¬K2 x.1->true=false))/\(decide (a.1=0)=false->(x.1.1.1=true->(K2 x.1->IntKind.i64.wrap (-IntKind.i64.wrap r.1)=Pm x.1/\IntKind.i64.wrap a.1=Kw x.1/\true=true)/\(¬K2 x.1->true=false))/\(x.1.1.1=false->(K2 x.1->IntKind.i64.wrap r.1=Pm x.1/\IntKind.i64.wrap a.1=Kw x.1/\true=true)/\(¬K2 x.1->true=false))))
def Fp:A5 N5.args->Prop:=fun(x:Int×Int×Unit)=>∃(J:Int×Unit->Prop),((decide (x.1<0)=true->J (IntKind.u64.wrap (-IntKind.u64.wrap x.1),()))/\(decide (x.1<0)=false->J (IntKind.u64.wrap x.1,())))/\∀(p:Int×Unit),(Ty.int IntKind.u64).wf p.1/\True->J p->∃(I:Int×Int×Unit->Prop),∃(μ:Int×Int×Unit->Nat),I (IntKind.u64.wrap x.2.1,p)/\∀(a:Int×Int×Unit),(Ty.int IntKind.u64).wf a.1/\(Ty.int IntKind.u64).wf a.2.1/\True->I a->(decide (a.2.1≠0)=true->a.2.1≠0/\I (a.2.1,Int.tmod a.1 a.2.1,())/\μ (a.2.1,Int.tmod a.1 a.2.1,())<μ a)/\(decide (a.2.1≠0)=false->a.1≠0/\a.1≠0/\True/\∀(r:List Int×Unit),J0 r.1/\True->r.1=nc (IntKind.u64.wrap (Int.tdiv p.1 a.1)).toNat->True/\∀(b:List Int×Unit),J0 b.1/\True->b.1=nc (IntKind.u64.wrap ((IntKind.u64.wrap x.2.1).tdiv a.1)).toNat->((decide (x.1<0),r.1),b.1)=rc (mkRat x.1 x.2.1.toNat))
def Ip:A5 R4.args->Prop:=fun(x:(Bool×List Int)×List Int×Unit)=>Dw x.1.2/\∀(r:(Bool×List Int)×Unit),G2 r.1/\True->r.1=ic (iv x.1)->Dw x.2.1/\∀(d:List Int×Unit),J0 d.1/\True->d.1=nc (nv x.2.1)->(decide ((r.1.2.length:Int)=(0:Int))=true->((false,[]),[(1:Int)])=rc (mkRat (iv x.1) (nv x.2.1)))/\(decide ((r.1.2.length:Int)=(0:Int))=false->(S0 r.1.2/\S0 d.1)/\∀(a:List Int×Unit),J0 a.1/\True->a.1=nc ((nv r.1.2).gcd (nv d.1))->∃(J:List Int×Bool×List Int×Unit->Prop),((decide ((a.1.length:Int)≠(1:Int))=false->(0:Int)<=(0:Int)/\(0:Int)<(a.1.length:Int))/\(E5 (decide ((a.1.length:Int)≠(1:Int))) true (decide (gx (0:Int) a.1 (0:Int)≠(1:Int)))=true->E3 r.1.2/\∀(b:List Int×List Int×Bool×Unit),J0 b.1/\J0 b.2.1/\True/\True->(nv a.1=0->b.1= []/\b.2.1= []/\b.2.2.1=false)/\(nv a.1≠0->b.1=nc (nv r.1.2/nv a.1)/\b.2.1=nc (nv r.1.2%nv a.1)/\b.2.2.1=true)->E3 d.1/\∀(c:List Int×List Int×Bool×Unit),J0 c.1/\J0 c.2.1/\True/\True->(nv a.1=0->c.1= []/\c.2.1= []/\c.2.2.1=false)/\(nv a.1≠0->c.1=nc (nv d.1/nv a.1)/\c.2.1=nc (nv d.1%nv a.1)/\c.2.2.1=true)->J (c.1,r.1.1,b.1,()))/\(E5 (decide ((a.1.length:Int)≠(1:Int))) true (decide (gx (0:Int) a.1 (0:Int)≠(1:Int)))=false->J (d.1,r.1.1,r.1.2,())))/\∀(p:List Int×Bool×List Int×Unit),(Ty.int IntKind.u32).sl.wf p.1/\Ty.bool.wf p.2.1/\(Ty.int IntKind.u32).sl.wf p.2.2.1/\True->J p->((p.2.1,p.2.2.1),p.1)=rc (mkRat (iv x.1) (nv x.2.1)))
def Mk:A5 P9.args->Prop:=fun(x:QQ×Unit)=>True/\∀(r:Int×Int×Bool×Unit),L4 r.1/\L4 r.2.1/\True/\True->(K2 x.1->r.1=Pm x.1/\r.2.1=Kw x.1/\r.2.2.1=true)/\(¬K2 x.1->r.2.2.1=false)->(r.2.2.1=true->0<r.2.1/\∀(a:QQ×Unit),U7 a.1/\True->a.1=rc (mkRat r.1 (Int.toNat r.2.1))->a.1=rc (rv x.1))/\(r.2.2.1=false->True/\∀(r:(Bool×List Int)×List Int×Unit),G2 r.1/\J0 r.2.1/\True->(nv x.1.2=0->r.1=zi/\r.2.1= [(1:Int)])/\(nv x.1.2≠0->r.1=x.1.1/\r.2.1=x.1.2)->(nv r.2.1≠0/\S0 r.1.2/\S0 r.2.1)/\∀(a:QQ×Unit),U7 a.1/\True->a.1=rc (mkRat (iv r.1) (nv r.2.1))->a.1=rc (rv x.1))
theorem Oc (x:A5 P4.args) (hw:awf P4.args x) (_:P4.pre x):Gd x:=by
 obtain⟨v,_⟩:=x;simp only[Gd];refine⟨trivial, ?_⟩;rintro⟨r,_⟩ _ hr;simp only at hr⊢;rw[hr];rfl
theorem Sx (x:A5 U3.args) (hw:awf U3.args x) (_:U3.pre x):Jt x:=by
 obtain⟨⟨a,l⟩,_⟩:=x;change List Int at l;simp only[Jt];refine⟨trivial, ?_⟩;rintro⟨r,_⟩ _ hr;simp only at hr⊢;rw[UG]at hr;refine⟨fun h=> ?_,fun h=> ?_⟩
 . have h0:nv l=0:=KD.1 (hr▸of_decide_eq_true h);exact⟨fun _=>⟨rfl,by trivial⟩,fun h=>absurd h0 h⟩
 . have h0:nv l≠0:=fun e=>(of_decide_eq_false h) (by rw[hr,e];rfl)
   exact⟨⟨fun h=>absurd h h0,fun _=>⟨by trivial,by trivial⟩⟩,fun h=>absurd h h0,fun _=>⟨by trivial,by trivial⟩⟩
theorem Vn (x:A5 Q0.args) (hw:awf Q0.args x) (_:Q0.pre x):Ml x:=by
 obtain⟨⟨a,l⟩,_⟩:=x;change List Int at l;simp only[Ml];refine⟨trivial, ?_⟩;rintro⟨r,d,_⟩ _ ⟨hr,hr2⟩;refine⟨trivial, ?_⟩;rintro⟨s,_⟩ _ hs;simp only at hr hr2 hs⊢;rw[hs, <-A0g];unfold A3p;split
 . rename_i h;rw[(hr h).1];rfl
 . rename_i h;rw[(hr2 h).1]
theorem Sy (x:A5 U4.args) (hw:awf U4.args x) (_:U4.pre x):Ju x:=by
 obtain⟨⟨⟨b,a⟩,l⟩,_⟩:=x;change Bool at b;change List Int at a l;simp only[Ju];refine⟨trivial, ?_⟩;rintro⟨u,ok,_⟩ _ ⟨h1,h2⟩;refine⟨trivial, ?_⟩;rintro⟨v,fits,_⟩ _ ⟨h3,h4⟩;change Int at u v;change Bool at ok fits;simp only at h1 h2 h3 h4⊢;have hs:E5 (E5 (E5 (!ok) true !fits) true (decide (2147483648<=u))) true (decide (2147483648<=v))=(!ok|| !fits||decide (2147483648<=u) ||decide (2147483648<=v)):=by simp only[L3]
 rw[hs];have key:(!ok|| !fits||decide (2147483648<=u) ||decide (2147483648<=v))=false->K2 ((b,a),l)/\u=(nv a:Int)/\v=(nv l:Int):=fun h=>by
  simp only[Bool.or_eq_false_iff,Bool.not_eq_false',decide_eq_false_iff_not]at h;obtain⟨⟨⟨e1,e2⟩,e3⟩,e4⟩:=h;have ha:nv a<18446744073709551616:=by
   rcases Nat.lt_or_ge (nv a) 18446744073709551616 with h|h
   . exact h
   . rw[h2 h]at e1;cases e1
  have hl:nv l<18446744073709551616:=by
   rcases Nat.lt_or_ge (nv l) 18446744073709551616 with h|h
   . exact h
   . rw[h4 h]at e2;cases e2
  have q1:=(h1 ha).1;have q3:=(h3 hl).1;exact⟨⟨by show nv a< _;omega,by show nv l< _;omega⟩,q1,q3⟩
 have key2:K2 ((b,a),l)->(!ok|| !fits||decide (2147483648<=u) ||decide (2147483648<=v))=false:=fun h=>by
  obtain⟨g1,g2⟩:=h;change nv a< _ at g1;change nv l< _ at g2;obtain⟨q1,q2⟩:=h1 (by omega);obtain⟨q3,q4⟩:=h3 (by omega);simp only[Bool.or_eq_false_iff,Bool.not_eq_false',decide_eq_false_iff_not];exact⟨⟨⟨q2,q4⟩,by omega⟩,by omega⟩
 refine⟨fun h=>⟨fun hs=> ?_,fun _=>trivial⟩,fun h=> ?_⟩
 . rw[key2 hs]at h;cases h
 . obtain⟨hsm,hu,hv⟩:=key h;have hsm':=hsm;obtain⟨g1,g2⟩:=hsm;change nv a< _ at g1;change nv l< _ at g2;refine⟨fun hz=> ?_,fun hz=>⟨fun hb=> ?_,fun hb=> ?_⟩⟩
   . have hz:=of_decide_eq_true hz;have h0:nv l=0:=by omega
     exact⟨fun _=>⟨by unfold Pm;rw[if_pos h0],by unfold Kw;rw[if_pos h0],trivial⟩,fun h=>absurd hsm' h⟩
   . have hz:=of_decide_eq_false hz;have h0:nv l≠0:=by omega
     refine⟨fun _=>⟨?_, ?_,trivial⟩,fun h=>absurd hsm' h⟩
     . unfold Pm;rw[if_neg h0,wr (a:=u) (by omega) (by omega),wr (by omega) (by omega)];unfold iv;simp only[hb,if_true];omega
     . unfold Kw;rw[if_neg h0,wr (by omega) (by omega)];exact hv
   . have hz:=of_decide_eq_false hz;have h0:nv l≠0:=by omega
     refine⟨fun _=>⟨?_, ?_,trivial⟩,fun h=>absurd hsm' h⟩
     . unfold Pm;rw[if_neg h0,wr (a:=u) (by omega) (by omega)];unfold iv;simp only[hb];simpa using hu
     . unfold Kw;rw[if_neg h0,wr (by omega) (by omega)];exact hv
theorem Mm (x:A5 N5.args) (hw:awf N5.args x) (hp:N5.pre x):Fp x:=by
 obtain⟨n,d,_⟩:=x;change Int at n d;have d0:0<d:=hp;have hn:=(show IntKind.i64.min<=n/\n<=IntKind.i64.max from hw.1);have hd1:=(show IntKind.i64.min<=d/\d<=IntKind.i64.max from hw.2.1);rw[Mx,Tv]at hn hd1;obtain⟨n0,n1⟩:=hn;have d1:=hd1.2;have i1:IntKind.i64.min= -9223372036854775808:=Mx;simp only[Fp];refine⟨fun p=>p.1=(n.natAbs:Int),⟨fun h=> ?_,fun h=> ?_⟩, ?_⟩
 . have h:=of_decide_eq_true h;show IntKind.u64.wrap (-IntKind.u64.wrap n)= _;rw[Y3,Y3];omega
 . have h:=of_decide_eq_false h;show IntKind.u64.wrap n= _;rw[Y3];omega
 rintro⟨s,_⟩ _ hs;simp only at hs⊢;subst hs;have hd:IntKind.u64.wrap d=d:=R5 (by omega) (by omega);refine⟨fun p=>0<=p.1/\0<=p.2.1/\(p.1≠0\/p.2.1≠0)/\p.1.toNat.gcd p.2.1.toNat=d.toNat.gcd n.natAbs,fun p=>p.2.1.toNat, ?_, ?_⟩
 . refine⟨by omega,by show(0:Int)<=(n.natAbs:Int);omega, .inl (by omega), ?_⟩;rw[hd];rfl
 rintro⟨g,t,_⟩ _ ⟨h0,h1,h2,h3⟩;change Int at g t;simp only at h0 h1 h2 h3⊢;refine⟨fun h=> ?_,fun h=> ?_⟩
 . have h:=of_decide_eq_true h;have e:Int.tmod g t=g%t:=Int.tmod_eq_emod_of_nonneg h0;have e2:=Int.emod_nonneg g h;have e3:=Int.emod_lt_of_pos g (b:=t) (by omega);rw[e];refine⟨h,⟨h1,e2, .inl h, ?_⟩,by omega⟩;rw[<-h3,Int.toNat_emod h0 h1,Nat.gcd_comm t.toNat, <-Nat.gcd_rec,Nat.gcd_comm]
 . have h:t=0:=by simpa using h
   subst h;have hg:g≠0:=by omega
   refine⟨hg,hg,trivial, ?_⟩;rintro⟨r,_⟩ _ hr;refine⟨trivial, ?_⟩;rintro⟨q,_⟩ _ hq;simp only at hr hq⊢;have hG:g.toNat=d.toNat.gcd n.natAbs:=by rw[<-h3];simp
   have hgp:0<g:=by omega
   have hge:g=((d.toNat.gcd n.natAbs:Nat):Int):=by omega
   obtain⟨hn,hdn⟩:=Ja (x:=n) (d:=d.toNat) (by omega);have e1:(IntKind.u64.wrap (Int.tdiv (n.natAbs:Int) g)).toNat=n.natAbs/d.toNat.gcd n.natAbs:=by
    rw[IntWalk.u64_quo _ _ ⟨by omega,by omega,by omega⟩,hge, <-Int.natCast_ediv,Int.toNat_natCast]
   have e2:(IntKind.u64.wrap (Int.tdiv d g)).toNat=d.toNat/d.toNat.gcd n.natAbs:=by
    rw[IntWalk.u64_quo _ _ ⟨by omega,by omega,by omega⟩,hge]
    conv=>lhs;rw[show d=((d.toNat:Nat):Int)from by omega]
    rw[<-Int.natCast_ediv,Int.toNat_natCast];simp only[Int.toNat_natCast]
   rw[hr,hq,hd,e1,e2];unfold rc;rw[hn,hdn];unfold ic;have hdvd:((d.toNat.gcd n.natAbs:Nat):Int)∣n:=Int.ofNat_dvd_left.2 (Nat.gcd_dvd_right ..);have hgN:0<d.toNat.gcd n.natAbs:=by omega
   generalize d.toNat.gcd n.natAbs=G at hdvd hgN;obtain⟨c,rfl⟩:=hdvd;rw[Int.mul_ediv_cancel_left _ (by omega)];have hsgn:(G:Int)*c<0↔c<0:=by
    constructor
    . intro h;rcases Int.lt_or_le c 0 with h1|h1
      . exact h1
      . have:=Int.mul_nonneg (Int.le_of_lt (Int.ofNat_lt.2 hgN)) h1;omega
    . intro h;exact Int.mul_neg_of_pos_of_neg (by omega) h
   rw[Int.natAbs_mul,Int.natAbs_natCast,Nat.mul_div_cancel_left _ hgN];simp only[hsgn]
theorem Zs (x:G3):mkRat (Pm x) (Kw x).toNat=rv x:=by
 unfold Pm Kw rv;split
 . rename_i h;rw[h,Rat.mkRat_zero];rfl
 . rename_i h;rw[Int.toNat_natCast]
theorem mO (x:G3):0<Kw x:=by
 unfold Kw;split
 . decide
 . omega
theorem Qb (x:A5 R4.args) (hw:awf R4.args x) (hp:R4.pre x):Ip x:=by
 obtain⟨⟨b,l⟩,k,_⟩:=x;have hl:A7 l:=A4 hw.1.2.2;have hk:A7 k:=A4 hw.2.1.2;change Bool at b;change List Int at l k;obtain⟨hD,ll,lk⟩:nv k≠0/\l.length<=8796093022208/\k.length<=8796093022208:=hp;simp only[Ip];have nl:=D3 hl;have nk:=D3 hk;refine⟨by show l.length<=35184372088832;omega, ?_⟩;rintro⟨⟨s,r⟩,_⟩ _ hr;refine⟨by show k.length<=35184372088832;omega, ?_⟩;rintro⟨d,_⟩ _ hd;simp only at hr hd⊢;have hrs:s=decide (iv (b,l)<0):=congrArg (·.1) hr;have hr2:r=nc (iv (b,l)).natAbs:=congrArg (·.2) hr;have ea:(iv (b,l)).natAbs=nv l:=J4 _;have hrv:nv r=(iv (b,l)).natAbs:=by rw[hr2,E8]
 have hdv:nv d=nv k:=by rw[hd,E8]
 have hrl:r.length<=l.length:=by rw[hr2,ea];exact nl
 have hdl:d.length<=k.length:=by rw[hd];exact nk
 refine⟨fun h=> ?_,fun h=> ?_⟩
 . have h:=of_decide_eq_true h;have h0:r= []:=List.eq_nil_of_length_eq_zero (by omega);rw[h0,UG]at hrv;have:iv (b,l)=0:=Int.natAbs_eq_zero.1 hrv.symm;rw[this,Rat.zero_mkRat,eT]
 have h:=of_decide_eq_false h;refine⟨⟨by omega,by omega⟩, ?_⟩;rintro⟨g,_⟩ _ hg;simp only at hg⊢;rw[hrv,hdv]at hg;have hg0:Nat.gcd (iv (b,l)).natAbs (nv k)≠0:=Nat.ne_of_gt (Nat.gcd_pos_of_pos_right _ (Nat.pos_of_ne_zero hD));have hgv:nv g=Nat.gcd (iv (b,l)).natAbs (nv k):=by rw[hg,E8]
 refine⟨fun p=>((p.2.1,p.2.2.1),p.1)=rc (mkRat (iv (b,l)) (nv k)),⟨fun h1=> ?_,fun h1=> ?_,fun h1=> ?_⟩, ?_⟩
 . have h1:=of_decide_eq_false h1;exact⟨Int.le_refl _,by omega⟩
 . refine⟨by show r.length<= _;omega, ?_⟩;rintro⟨q,m,ok,_⟩ _ hq;refine⟨by show d.length<= _;omega, ?_⟩;rintro⟨q',m',ok',_⟩ _ hq';simp only at hq hq'⊢;rw[UT hD,(hq.2 (by omega)).1,(hq'.2 (by omega)).1,hrv,hdv,hgv,hrs]
 . have h1:g.length=1/\gx 0 g 0=1:=by
    rw[L3]at h1;simp only[Bool.or_eq_false_iff,decide_eq_false_iff_not]at h1;omega
   obtain⟨z,rfl⟩:∃z,g= [z]:=List.length_eq_one_iff.1 h1.1;have hz:z=1:=h1.2;subst hz;have h2:Nat.gcd (iv (b,l)).natAbs (nv k)=1:=by rw[<-hgv];rfl
   rw[A0d hD h2];show((s,r),d)= _;rw[hd, <-hr]
 . rintro⟨a,s',c,_⟩ _ hJ;exact hJ
theorem Vm (x:A5 P9.args) (hw:awf P9.args x) (hp:P9.pre x):Mk x:=by
 obtain⟨q,_⟩:=x;change G3 at q;obtain⟨h1,h2⟩:q.1.2.length<=2199023255552/\q.2.length<=2199023255552:=hp;simp only[Mk];refine⟨trivial, ?_⟩;rintro⟨n,d,ok,_⟩ _ ⟨s1,s2⟩;change Int at n d;simp only at s1 s2⊢;refine⟨fun h=> ?_,fun h=>⟨trivial, ?_⟩⟩
 . have hs:K2 q:=Decidable.byContradiction fun hn=>by rw[s2 hn]at h;cases h
   obtain⟨rfl,rfl,_⟩:=s1 hs;refine⟨mO q, ?_⟩;rintro⟨r,_⟩ _ hr;simp only at hr⊢;rw[hr,Zs]
 . rintro⟨n',d',_⟩ _ hpq;simp only at hpq⊢;obtain⟨hd0,hv⟩:=Rn hpq;obtain⟨l1,l2⟩:=Lj (k:=2199023255552) hpq h1 h2 (by decide);refine⟨⟨hd0,by show n'.2.length<= _;omega,by show d'.length<= _;omega⟩, ?_⟩;rintro⟨r,_⟩ _ hr;simp only at hr⊢;rw[hr,hv]
def GG:An:= {plan:= [(13,[0,4],[10],true, .done),(14,[0],[5],true, .done)]}
def GI:An:= {}
def GJ:An:= {}
def GH:An:= {}
def q7 (x:QQ×QQ×Unit) (r:(Bool×List Int)×List Int×Unit) (a:(Bool×List Int)×List Int×Unit) (e:(Bool×List Int)×Unit) (c:(Bool×List Int)×Unit):Prop:=∀(d:(Bool×List Int)×Unit),G2 d.1/\True->d.1=ic (iv e.1+iv c.1)->(E3 r.2.1/\E3 a.2.1)/\∀(b:List Int×Unit),J0 b.1/\True->b.1=nc (nv r.2.1*nv a.2.1)->(nv b.1≠0/\S0 d.1.2/\S0 b.1)/\∀(r:QQ×Unit),U7 r.1/\True->r.1=rc (mkRat (iv d.1) (nv b.1))->r.1=rc (rv x.1+rv x.2.1)
def Ov:A5 T9.args->Prop:=fun(x:QQ×QQ×Unit)=>True/\∀(r:Int×Unit),L4 r.1/\True->r.1=(rv x.1).num.sign->(decide (r.1=0)=true->I9 x.2.1/\∀(r:QQ×Unit),U7 r.1/\True->r.1=rc (rv x.2.1)->r.1=rc (rv x.1+rv x.2.1))/\(decide (r.1=0)=false->True/\∀(r:Int×Unit),L4 r.1/\True->r.1=(rv x.2.1).num.sign->(decide (r.1=0)=true->I9 x.1/\∀(r:QQ×Unit),U7 r.1/\True->r.1=rc (rv x.1)->r.1=rc (rv x.1+rv x.2.1))/\(decide (r.1=0)=false->True/\∀(r:Int×Int×Bool×Unit),L4 r.1/\L4 r.2.1/\True/\True->(K2 x.1->r.1=Pm x.1/\r.2.1=Kw x.1/\r.2.2.1=true)/\(¬K2 x.1->r.2.2.1=false)->True/\∀(f:Int×Int×Bool×Unit),L4 f.1/\L4 f.2.1/\True/\True->(K2 x.2.1->f.1=Pm x.2.1/\f.2.1=Kw x.2.1/\f.2.2.1=true)/\(¬K2 x.2.1->f.2.2.1=false)->(E5 r.2.2.1 f.2.2.1 false=true->(0:Int)<IntKind.i64.wrap (r.2.1*f.2.1)/\∀(a:QQ×Unit),U7 a.1/\True->a.1=rc (mkRat (IntKind.i64.wrap (IntKind.i64.wrap (r.1*f.2.1)+IntKind.i64.wrap (f.1*r.2.1))) (IntKind.i64.wrap (r.2.1*f.2.1)).toNat)->a.1=rc (rv x.1+rv x.2.1))/\(E5 r.2.2.1 f.2.2.1 false=false->True/\∀(r:(Bool×List Int)×List Int×Unit),G2 r.1/\J0 r.2.1/\True->(nv x.1.2=0->r.1=zi/\r.2.1= [(1:Int)])/\(nv x.1.2≠0->r.1=x.1.1/\r.2.1=x.1.2)->True/\∀(a:(Bool×List Int)×List Int×Unit),G2 a.1/\J0 a.2.1/\True->(nv x.2.1.2=0->a.1=zi/\a.2.1= [(1:Int)])/\(nv x.2.1.2≠0->a.1=x.2.1.1/\a.2.1=x.2.1.2)->True/\∀(g:Int×Unit),L4 g.1/\True->g.1=Cc (nv r.2.1) (nv a.2.1)->(decide (g.1=0)=true->(E3 r.1.2/\E3 a.1.2)/\∀(e:(Bool×List Int)×Unit),G2 e.1/\True->e.1=ic (iv r.1+iv a.1)->(nv r.2.1≠0/\S0 e.1.2/\S0 r.2.1)/\∀(c:QQ×Unit),U7 c.1/\True->c.1=rc (mkRat (iv e.1) (nv r.2.1))->c.1=rc (rv x.1+rv x.2.1))/\(decide (g.1=0)=false->((E3 r.1.2/\E3 a.2.1)/\∀(e:(Bool×List Int)×Unit),G2 e.1/\True->e.1=ic (iv r.1*iv (false,a.2.1))->((E3 a.1.2/\E3 r.2.1)/\∀(c:(Bool×List Int)×Unit),G2 c.1/\True->c.1=ic (iv a.1*iv (false,r.2.1))->((E3 e.1.2/\E3 c.1.2)/\q7 x r a e c)/\(E3 e.1.2/\E3 c.1.2)/\q7 x r a e c)/\(E3 a.1.2/\E3 r.2.1)/\∀(c:(Bool×List Int)×Unit),G2 c.1/\True->c.1=ic (iv a.1*iv (false,r.2.1))->(E3 e.1.2/\E3 c.1.2)/\q7 x r a e c)/\(E3 r.1.2/\E3 a.2.1)/\∀(e:(Bool×List Int)×Unit),G2 e.1/\True->e.1=ic (iv r.1*iv (false,a.2.1))->(E3 a.1.2/\E3 r.2.1)/\∀(c:(Bool×List Int)×Unit),G2 c.1/\True->c.1=ic (iv a.1*iv (false,r.2.1))->(E3 e.1.2/\E3 c.1.2)/\q7 x r a e c))))
def Ox:A5 U2.args->Prop:=fun(x:QQ×QQ×Unit)=>True/\∀(r:Int×Int×Bool×Unit),L4 r.1/\L4 r.2.1/\True/\True->(K2 x.1->r.1=Pm x.1/\r.2.1=Kw x.1/\r.2.2.1=true)/\(¬K2 x.1->r.2.2.1=false)->True/\∀(b:Int×Int×Bool×Unit),L4 b.1/\L4 b.2.1/\True/\True->(K2 x.2.1->b.1=Pm x.2.1/\b.2.1=Kw x.2.1/\b.2.2.1=true)/\(¬K2 x.2.1->b.2.2.1=false)->(E5 r.2.2.1 b.2.2.1 false=true->(0:Int)<IntKind.i64.wrap (r.2.1*b.2.1)/\∀(a:QQ×Unit),U7 a.1/\True->a.1=rc (mkRat (IntKind.i64.wrap (r.1*b.1)) (IntKind.i64.wrap (r.2.1*b.2.1)).toNat)->a.1=rc (rv x.1*rv x.2.1))/\(E5 r.2.2.1 b.2.2.1 false=false->True/\∀(r:(Bool×List Int)×List Int×Unit),G2 r.1/\J0 r.2.1/\True->(nv x.1.2=0->r.1=zi/\r.2.1= [(1:Int)])/\(nv x.1.2≠0->r.1=x.1.1/\r.2.1=x.1.2)->True/\∀(a:(Bool×List Int)×List Int×Unit),G2 a.1/\J0 a.2.1/\True->(nv x.2.1.2=0->a.1=zi/\a.2.1= [(1:Int)])/\(nv x.2.1.2≠0->a.1=x.2.1.1/\a.2.1=x.2.1.2)->(E3 r.1.2/\E3 a.1.2)/\∀(d:(Bool×List Int)×Unit),G2 d.1/\True->d.1=ic (iv r.1*iv a.1)->(E3 r.2.1/\E3 a.2.1)/\∀(c:List Int×Unit),J0 c.1/\True->c.1=nc (nv r.2.1*nv a.2.1)->(nv c.1≠0/\S0 d.1.2/\S0 c.1)/\∀(r:QQ×Unit),U7 r.1/\True->r.1=rc (mkRat (iv d.1) (nv c.1))->r.1=rc (rv x.1*rv x.2.1))
def Oy:A5 Ae.args->Prop:=fun(x:QQ×Unit)=>I9 x.1/\∀(r:QQ×Unit),U7 r.1/\True->r.1=rc (rv x.1)->Dw r.1.1.2/\∀(a:(Bool×List Int)×Unit),G2 a.1/\True->a.1=ic (-iv r.1.1)->(a.1,r.1.2)=rc (-rv x.1)
def Ow:A5 Ad.args->Prop:=fun(x:QQ×Unit)=>True/\∀(r:Int×Unit),L4 r.1/\True->r.1=(rv x.1).num.sign->(decide (r.1=0)=true->(rv x.1=(0:Rat)->false=false)/\(rv x.1≠(0:Rat)->dQ=rc (rv x.1)⁻¹/\false=true))/\(decide (r.1=0)=false->I9 x.1/\∀(r:QQ×Unit),U7 r.1/\True->r.1=rc (rv x.1)->(rv x.1=(0:Rat)->true=false)/\(rv x.1≠(0:Rat)->((r.1.1.1,r.1.2),r.1.1.2)=rc (rv x.1)⁻¹/\true=true))
theorem AJ {q:Rat} (h:q.num.sign=0):q=0:=Rat.num_eq_zero.1 (Int.sign_eq_zero_iff_zero.1 h)
theorem Ug {x:G3} (h:K2 x): -2147483647<=Pm x/\Pm x<=2147483647/\0<Kw x/\Kw x<=2147483647:=by
 obtain⟨h1,h2⟩:=h;have:=J4 x.1;unfold Pm Kw;split
 . omega
 . omega
theorem DL {a b M N:Int} (h1: -M<=a) (h2:a<=M) (h3:0<=b) (h4:b<=N): -(M*N)<=a*b/\a*b<=M*N:=by
 have hM:0<=M:=by omega
 have a1:M*b<=M*N:=Int.mul_le_mul_of_nonneg_left h4 hM;have a2:a*b<=M*b:=Int.mul_le_mul_of_nonneg_right h2 h3;have a3: -M*b<=a*b:=Int.mul_le_mul_of_nonneg_right h1 h3;rw[Int.neg_mul]at a3;omega
theorem iK {a b c d:Int} (ha: -2147483647<=a/\a<=2147483647) (hb: -2147483647<=b/\b<=2147483647) (hc:0<c/\c<=2147483647) (hd:0<d/\d<=2147483647):
 IntKind.i64.wrap (c*d)=c*d/\0<c*d/\IntKind.i64.wrap (IntKind.i64.wrap (a*d)+IntKind.i64.wrap (b*c))=a*d+b*c:=by
 have h1:=DL ha.1 ha.2 (Int.le_of_lt hd.1) hd.2;have h2:=DL hb.1 hb.2 (Int.le_of_lt hc.1) hc.2;have h3:=DL (a:=c) (b:=d) (M:=2147483647) (by omega) hc.2 (Int.le_of_lt hd.1) hd.2;have h4:0<c*d:=Int.mul_pos hc.1 hd.1;rw[wr (a:=c*d) (by omega) (by omega),wr (a:=a*d) (by omega) (by omega),wr (a:=b*c) (by omega) (by omega),wr (by omega) (by omega)];exact⟨rfl,h4,rfl⟩
theorem Yk (x:A5 T9.args) (hw:awf T9.args x) (hp:T9.pre x):Ov x:=by
 obtain⟨p,q,_⟩:=x;have lp1:A7 p.1.2:=A4 hw.1.1.2.2;have lp2:A7 p.2:=A4 hw.1.2.2;have lq1:A7 q.1.2:=A4 hw.2.1.1.2.2;have lq2:A7 q.2:=A4 hw.2.1.2.2;change G3 at p q;obtain⟨hp3,hq3⟩:I9 p/\I9 q:=hp;obtain⟨hp1,hp2⟩:=hp3;obtain⟨hq1,hq2⟩:=hq3;simp only[Ov,q7];refine⟨trivial, ?_⟩;rintro⟨s,_⟩ _ hs;simp only at hs⊢;refine⟨fun h=>⟨⟨hq1,hq2⟩, ?_⟩,fun h=>⟨trivial, ?_⟩⟩
 . rintro⟨r,_⟩ _ hr;simp only at hr⊢;rw[hs]at h;rw[hr,AJ (of_decide_eq_true h),Rat.zero_add]
 rintro⟨t,_⟩ _ ht;simp only at ht⊢;refine⟨fun h=>⟨⟨hp1,hp2⟩, ?_⟩,fun h=>⟨trivial, ?_⟩⟩
 . rintro⟨r,_⟩ _ hr;simp only at hr⊢;rw[ht]at h;rw[hr,AJ (of_decide_eq_true h),Rat.add_zero]
 rintro⟨an,ad,aok,_⟩ _ ⟨a1,a2⟩;refine⟨trivial, ?_⟩;rintro⟨bn,bd,bok,_⟩ _ ⟨b1,b2⟩;change Int at an ad bn bd;simp only at a1 a2 b1 b2⊢;refine⟨fun h=> ?_,fun _=>⟨trivial, ?_⟩⟩
 . rw[J1,Bool.and_eq_true]at h;have sp:K2 p:=Decidable.byContradiction fun hn=>by have:=a2 hn;rw[this]at h;exact absurd h.1 (by decide)
   have sq:K2 q:=Decidable.byContradiction fun hn=>by have:=b2 hn;rw[this]at h;exact absurd h.2 (by decide)
   obtain⟨ea,ed,_⟩:=a1 sp;obtain⟨eb,ee,_⟩:=b1 sq;obtain⟨x1,x2,x3,x4⟩:=Ug sp;obtain⟨y1,y2,y3,y4⟩:=Ug sq;obtain⟨w1,w2,w3⟩:=iK (a:=an) (b:=bn) (c:=ad) (d:=bd) (by omega) (by omega) (by omega) (by omega);rw[w1,w3];refine⟨w2, ?_⟩;rintro⟨r,_⟩ _ hr;simp only at hr⊢;rw[hr, <-Zs p, <-Zs q, <-ea, <-ed, <-eb, <-ee,DJ (by omega) (by omega),Int.toNat_of_nonneg (by omega),Int.toNat_of_nonneg (by omega),Int.toNat_mul (by omega) (by omega)]
 . rintro⟨n,d,_⟩ ⟨hwn,hwd,_⟩ h1;refine⟨trivial, ?_⟩;rintro⟨m,e,_⟩ ⟨hwm,hwe,_⟩ h2;have ln:A7 n.2:=A4 hwn.2.2;have ld:A7 d:=A4 hwd.2;have lm:A7 m.2:=A4 hwm.2.2;have le:A7 e:=A4 hwe.2;refine⟨trivial, ?_⟩;rintro⟨c,_⟩ _ hc;change Iu at n m;change List Int at d e;simp only at h1 h2 hc⊢;obtain⟨d0,hP⟩:=Rn h1;obtain⟨e0,hQ⟩:=Rn h2;obtain⟨n1,d1⟩:=Lj (k:=2199023255552) h1 hp1 hp2 (by decide);obtain⟨m1,e1⟩:=Lj (k:=2199023255552) h2 hq1 hq2 (by decide);rw[hP,hQ];refine⟨fun h=> ?_,fun h=> ?_⟩
   . have h:=of_decide_eq_true h;have he:nv d=nv e:=KD.1 (hc▸h);refine⟨⟨by show n.2.length<= _;omega,by show m.2.length<= _;omega⟩, ?_⟩;rintro⟨u,_⟩ _ hu;simp only at hu⊢;have l1:=JI (x:=n) (y:=m) ln lm n1 m1;refine⟨⟨d0,by show u.2.length<= _;rw[hu];omega,by show d.length<= _;omega⟩, ?_⟩;rintro⟨r,_⟩ _ hr;simp only at hr⊢;rw[hr,hu,U9, <-he,bO d0]
   . --the general case:the same four times
     have x1:=Xc (x:=n) (y:=(false,e)) ln le;have x2:=Xc (x:=m) (y:=(false,d)) lm ld;have g1:E3 n.2/\E3 e:=⟨by show n.2.length<= _;omega,by show e.length<= _;omega⟩;have g2:E3 m.2/\E3 d:=⟨by show m.2.length<= _;omega,by show d.length<= _;omega⟩;have fin:∀u v:Iu,u=ic (iv n*iv (false,e))->v=ic (iv m*iv (false,d))->(E3 u.2/\E3 v.2)/\∀(r_6:(Bool×List Int)×Unit),G2 r_6.1/\True->r_6.1=ic (iv u+iv v)->(E3 d/\E3 e)/\∀(r_7:List Int×Unit),J0 r_7.1/\True->r_7.1=nc (nv d*nv e)->(nv r_7.1≠(0:Nat)/\S0 r_6.1.2/\S0 r_7.1)/\∀(r:QQ×Unit),U7 r.1/\True->r.1=rc (mkRat (iv r_6.1) (nv r_7.1))->r.1=rc (mkRat (iv n) (nv d)+mkRat (iv m) (nv e)):=by
      intro u v hu hv;have lu:u.2.length<=4398046511104:=by
       rw[hu];refine Nat.le_trans x1 ?_;show n.2.length+e.length<= _;omega
      have lv:v.2.length<=4398046511104:=by
       rw[hv];refine Nat.le_trans x2 ?_;show m.2.length+d.length<= _;omega
      refine⟨⟨by show u.2.length<= _;omega,by show v.2.length<= _;omega⟩, ?_⟩;rintro⟨w,_⟩ _ hw';refine⟨⟨g2.2,g1.2⟩, ?_⟩;rintro⟨z,_⟩ _ hz;simp only at hw' hz⊢;have l1:=JI (x:=u) (y:=v) (by rw[hu];exact XJ _) (by rw[hv];exact XJ _) lu lv;have l2:=Xj ld le;refine⟨⟨by rw[hz,E8];exact Nat.mul_ne_zero d0 e0,by show w.2.length<= _;rw[hw'];omega,by show z.length<= _;rw[hz];omega⟩, ?_⟩;rintro⟨r,_⟩ _ hr;simp only at hr⊢;rw[hr,hw',hz,E8,U9,hu,hv,U9,U9,Kc,Kc,DJ d0 e0]
     exact⟨⟨g1,fun u _ hu=>⟨⟨g2,fun v _ hv=>⟨fin _ _ hu hv,fin _ _ hu hv⟩⟩,g2,fun v _ hv=>fin _ _ hu hv⟩⟩,g1,fun u _ hu=>⟨g2,fun v _ hv=>fin _ _ hu hv⟩⟩
def VP:An:= {loop:= [(2,⟨[0],[],[(3,false,[.val (.int .i64)])],[],[]⟩)]}
def SG:An:= {loop:= [(4,⟨[0,1],[],[(5,false,[.val (.int .i64)])],[],[]⟩)],plan:= [(6,[3,7],[],true, .done)]}
def Yz:An:= {}
def ZV:An:= {join:= [(8,⟨[0,1,5,7],[0],[(6,false,[.val (.int .u64)])],[],[]⟩),(10,⟨[0,1,5,7],[0],[(6,false,[.val (.int .u64)])],[],[]⟩)],loop:= [(4,⟨[0,1,5],[],[(6,false,[.val (.int .u64)]),(7,false,[.val (.int .i64)])],[],[(0, .row (.int .u32) 127)]⟩)]}
def ZY:An:= {join:= [(12,⟨[0,1,6,8],[0],[(9,false,[.val (.int .u64)])],[],[]⟩),(17,⟨[0,1,6,8,9],[0],[(7,false,[.val (.int .u64)]),(10,false,[.val (.int .u64)])],[],[]⟩)],loop:= [(7,⟨[0,1,6],[],[(7,false,[.val (.int .u64)]),(8,false,[.val (.int .i64)])],[],[(0, .row (.int .u32) 127)]⟩)]}
def IE:An:= {loop:= [(7,⟨[0,1],[],[(5,false,[.val (.int .i64)])],[],[]⟩)],plan:= [(9,[3,7],[],true, .done),(11,[3,7],[],true, .done)]}
def ZX:An:= {loop:= [(7,⟨[0,1,5,6],[],[(7,false,[.val (.int .u64)]),(8,false,[.val (.int .i64)])],[],[(0, .row (.int .u32) 127)]⟩),(3,⟨[0,1,5],[],[(6,false,[.val (.int .i64)])],[],[(0, .row (.int .u32) 127)]⟩)],plan:= [(9,[6,11,16],[],true, .done)]}
def NL:An:= {loop:= [(6,⟨[0],[],[(4,false,[.val (.int .u64)]),(5,false,[.val (.int .i64)])],[],[]⟩)]}
def FM:A5 Hr.args->Prop:=fun(x:List Int×Unit)=>∃(I:Int×Unit->Prop),∃(μ:Int×Unit->Nat),I ((x.1.length:Int),())/\∀(p:Int×Unit),(Ty.int IntKind.i64).wf p.1/\True->I p->(decide (0<p.1)=true->(0:Int)<=IntKind.i64.wrap (p.1-1)/\IntKind.i64.wrap (p.1-1)<(x.1.length:Int))/\(E5 (decide (0<p.1)) (decide (gx (0:Int) x.1 (IntKind.i64.wrap (p.1-1))=(0:Int))) false=true->I (IntKind.i64.wrap (p.1-1),())/\μ (IntKind.i64.wrap (p.1-1),())<μ p)/\(E5 (decide (0<p.1)) (decide (gx (0:Int) x.1 (IntKind.i64.wrap (p.1-1))=(0:Int))) false=false->((0:Int)<=(0:Int)/\0<=p.1/\p.1<=(x.1.length:Int))/\(((0:Nat)+(List.drop (Int.toNat (0:Int)) (List.take (Int.toNat p.1) x.1)).length)*(4:Nat)<=(140737488355328:Nat)/\(0:Nat)+(List.drop (Int.toNat (0:Int)) (List.take (Int.toNat p.1) x.1)).length<=9223372036854775807)/\List.drop (Int.toNat (0:Int)) (List.take (Int.toNat p.1) x.1)=nc (nv x.1))
def BA:A5 Fe.args->Prop:=fun(x:List Int×List Int×Unit)=>(decide ((x.1.length:Int)≠(x.2.1.length:Int))=true->false=decide (x.1=x.2.1))/\(decide ((x.1.length:Int)≠(x.2.1.length:Int))=false->∃(I:Int×Unit->Prop),∃(μ:Int×Unit->Nat),I ((0:Int),())/\∀(p:Int×Unit),(Ty.int IntKind.i64).wf p.1/\True->I p->(decide (p.1<(x.1.length:Int))=true->(0<=p.1/\p.1<(x.1.length:Int))/\(0<=p.1/\p.1<(x.2.1.length:Int))/\(decide (gx (0:Int) x.1 p.1≠gx (0:Int) x.2.1 p.1)=true->false=decide (x.1=x.2.1))/\(decide (gx (0:Int) x.1 p.1≠gx (0:Int) x.2.1 p.1)=false->I (IntKind.i64.wrap (p.1+1),())/\μ (IntKind.i64.wrap (p.1+1),())<μ p))/\(decide (p.1<(x.1.length:Int))=false->true=decide (x.1=x.2.1)))
def Js:A5 T8.args->Prop:=fun(x:Int×Unit)=>(0:(Ty.int IntKind.u64).den)<=(32:Int)/\Dw [IntKind.u32.wrap x.1,IntKind.u32.wrap (Int.fdiv x.1 ((2:Int)^Min.min (Int.toNat (32:Int)) IntKind.u64.bits))]/\∀(r:List Int×Unit),J0 r.1/\True->r.1=nc (nv [IntKind.u32.wrap x.1,IntKind.u32.wrap (Int.fdiv x.1 ((2:Int)^Min.min (Int.toNat (32:Int)) IntKind.u64.bits))])->r.1=nc x.1.toNat
def LX:A5 Lp.args->Prop:=fun(x:List Int×List Int×Unit)=>((0:Int)<=IntKind.i64.wrap (Max.max (x.1.length:Int) (x.2.1.length:Int)+(1:Int))/\IntKind.i64.wrap (Max.max (x.1.length:Int) (x.2.1.length:Int)+(1:Int))<=IntKind.i64.wrap (Max.max (x.1.length:Int) (x.2.1.length:Int)+(1:Int))/\(↑(4:Nat):Int)*IntKind.i64.wrap (Max.max (x.1.length:Int) (x.2.1.length:Int)+(1:Int))<=(281474976710656:Int)/\IntKind.i64.wrap (Max.max (x.1.length:Int) (x.2.1.length:Int)+(1:Int))<=(9223372036854775807:Int))/\∃(I:Int×Int×List Int×Unit->Prop),∃(μ:Int×Int×List Int×Unit->Nat),I ((0:Int),(0:Int),List.replicate (IntKind.i64.wrap (Max.max (x.1.length:Int) (x.2.1.length:Int)+(1:Int))).toNat (0:Int),())/\∀(p:Int×Int×List Int×Unit),(Ty.int IntKind.u64).wf p.1/\(Ty.int IntKind.i64).wf p.2.1/\J0 p.2.2.1/\True->I p->(decide (p.2.1<(p.2.2.1.length:Int))=true->∃(J:Int×Unit->Prop),((decide (p.2.1<(x.1.length:Int))=true->(0<=p.2.1/\p.2.1<(x.1.length:Int))/\J (IntKind.u64.wrap (p.1+IntKind.u64.wrap (gx (0:Int) x.1 p.2.1)),()))/\(decide (p.2.1<(x.1.length:Int))=false->J (p.1,())))/\∀(b:Int×Unit),(Ty.int IntKind.u64).wf b.1/\True->J b->∃(J:Int×Unit->Prop),((decide (p.2.1<(x.2.1.length:Int))=true->(0<=p.2.1/\p.2.1<(x.2.1.length:Int))/\J (IntKind.u64.wrap (b.1+IntKind.u64.wrap (gx (0:Int) x.2.1 p.2.1)),()))/\(decide (p.2.1<(x.2.1.length:Int))=false->J b))/\∀(a:Int×Unit),(Ty.int IntKind.u64).wf a.1/\True->J a->(0<=p.2.1/\p.2.1<(p.2.2.1.length:Int))/\(0:(Ty.int IntKind.u64).den)<=(32:Int)/\I (Int.fdiv a.1 ((2:Int)^Min.min (Int.toNat (32:Int)) IntKind.u64.bits),IntKind.i64.wrap (p.2.1+1),List.set p.2.2.1 (Int.toNat p.2.1) (IntKind.u32.wrap a.1),())/\μ (Int.fdiv a.1 ((2:Int)^Min.min (Int.toNat (32:Int)) IntKind.u64.bits),IntKind.i64.wrap (p.2.1+1),List.set p.2.2.1 (Int.toNat p.2.1) (IntKind.u32.wrap a.1),())<μ p)/\(decide (p.2.1<(p.2.2.1.length:Int))=false->Dw p.2.2.1/\∀(r:List Int×Unit),J0 r.1/\True->r.1=nc (nv p.2.2.1)->r.1=nc (nv x.1+nv x.2.1))
def MB:A5 Ls.args->Prop:=fun(x:List Int×List Int×Unit)=>(E3 x.1/\E3 x.2.1)/\∀(r:Int×Unit),L4 r.1/\True->r.1=Cc (nv x.1) (nv x.2.1)->(decide (r.1<0)=true->(nv x.1<nv x.2.1->Pj Int= []/\false=false)/\(nv x.2.1<=nv x.1->Pj Int=nc (nv x.1-nv x.2.1)/\false=true))/\(decide (r.1<0)=false->Dw x.1/\∀(r:List Int×Unit),J0 r.1/\True->r.1=nc (nv x.1)->Dw x.2.1/\∀(b:List Int×Unit),J0 b.1/\True->b.1=nc (nv x.2.1)->((0:Int)<=(r.1.length:Int)/\(r.1.length:Int)<=(r.1.length:Int)/\(↑(4:Nat):Int)*(r.1.length:Int)<=(281474976710656:Int)/\(r.1.length:Int)<=(9223372036854775807:Int))/\∃(I:Int×Int×List Int×Unit->Prop),∃(μ:Int×Int×List Int×Unit->Nat),I ((0:Int),(0:Int),List.replicate (r.1.length:Int).toNat (0:Int),())/\∀(p:Int×Int×List Int×Unit),(Ty.int IntKind.u64).wf p.1/\(Ty.int IntKind.i64).wf p.2.1/\J0 p.2.2.1/\True->I p->(decide (p.2.1<(r.1.length:Int))=true->∃(J:Int×Unit->Prop),((decide (p.2.1<(b.1.length:Int))=true->(0<=p.2.1/\p.2.1<(b.1.length:Int))/\J (IntKind.u64.wrap (p.1+IntKind.u64.wrap (gx (0:Int) b.1 p.2.1)),()))/\(decide (p.2.1<(b.1.length:Int))=false->J (p.1,())))/\∀(c:Int×Unit),(Ty.int IntKind.u64).wf c.1/\True->J c->(0<=p.2.1/\p.2.1<(r.1.length:Int))/\∃(J:Int×Int×Unit->Prop),((decide (IntKind.u64.wrap (gx (0:Int) r.1 p.2.1)<c.1)=true->J ((1:Int),IntKind.u64.wrap (IntKind.u64.wrap (gx (0:Int) r.1 p.2.1)+(4294967296:Int)),()))/\(decide (IntKind.u64.wrap (gx (0:Int) r.1 p.2.1)<c.1)=false->J ((0:Int),IntKind.u64.wrap (gx (0:Int) r.1 p.2.1),())))/\∀(a:Int×Int×Unit),(Ty.int IntKind.u64).wf a.1/\(Ty.int IntKind.u64).wf a.2.1/\True->J a->(0<=p.2.1/\p.2.1<(p.2.2.1.length:Int))/\I (a.1,IntKind.i64.wrap (p.2.1+1),List.set p.2.2.1 (Int.toNat p.2.1) (IntKind.u32.wrap (IntKind.u64.wrap (a.2.1-c.1))),())/\μ (a.1,IntKind.i64.wrap (p.2.1+1),List.set p.2.2.1 (Int.toNat p.2.1) (IntKind.u32.wrap (IntKind.u64.wrap (a.2.1-c.1))),())<μ p)/\(decide (p.2.1<(r.1.length:Int))=false->Dw p.2.2.1/\∀(r:List Int×Unit),J0 r.1/\True->r.1=nc (nv p.2.2.1)->(nv x.1<nv x.2.1->r.1= []/\true=false)/\(nv x.2.1<=nv x.1->r.1=nc (nv x.1-nv x.2.1)/\true=true)))
def Sr:A5 Br.args->Prop:=fun(x:List Int×List Int×Unit)=>Dw x.1/\∀(r:List Int×Unit),J0 r.1/\True->r.1=nc (nv x.1)->Dw x.2.1/\∀(a:List Int×Unit),J0 a.1/\True->a.1=nc (nv x.2.1)->(decide ((r.1.length:Int)≠(a.1.length:Int))=true->(decide ((r.1.length:Int)<(a.1.length:Int))=true->(-1:Int)=Cc (nv x.1) (nv x.2.1))/\(decide ((r.1.length:Int)<(a.1.length:Int))=false->(1:Int)=Cc (nv x.1) (nv x.2.1)))/\(decide ((r.1.length:Int)≠(a.1.length:Int))=false->∃(I:Int×Unit->Prop),∃(μ:Int×Unit->Nat),I (IntKind.i64.wrap ((r.1.length:Int)-(1:Int)),())/\∀(p:Int×Unit),(Ty.int IntKind.i64).wf p.1/\True->I p->(decide (0<=p.1)=true->(0<=p.1/\p.1<(r.1.length:Int))/\(0<=p.1/\p.1<(a.1.length:Int))/\(decide (gx (0:Int) r.1 p.1<gx (0:Int) a.1 p.1)=true->(-1:Int)=Cc (nv x.1) (nv x.2.1))/\(decide (gx (0:Int) r.1 p.1<gx (0:Int) a.1 p.1)=false->(0<=p.1/\p.1<(r.1.length:Int))/\(0<=p.1/\p.1<(a.1.length:Int))/\(decide (gx (0:Int) a.1 p.1<gx (0:Int) r.1 p.1)=true->(1:Int)=Cc (nv x.1) (nv x.2.1))/\(decide (gx (0:Int) a.1 p.1<gx (0:Int) r.1 p.1)=false->I (IntKind.i64.wrap (p.1-1),())/\μ (IntKind.i64.wrap (p.1-1),())<μ p)))/\(decide (0<=p.1)=false->(0:Int)=Cc (nv x.1) (nv x.2.1)))
def MA:A5 Lr.args->Prop:=fun(x:List Int×List Int×Unit)=>((0:Int)<=IntKind.i64.wrap ((x.1.length:Int)+(x.2.1.length:Int))/\IntKind.i64.wrap ((x.1.length:Int)+(x.2.1.length:Int))<=IntKind.i64.wrap ((x.1.length:Int)+(x.2.1.length:Int))/\(↑(4:Nat):Int)*IntKind.i64.wrap ((x.1.length:Int)+(x.2.1.length:Int))<=(281474976710656:Int)/\IntKind.i64.wrap ((x.1.length:Int)+(x.2.1.length:Int))<=(9223372036854775807:Int))/\∃(I:Int×List Int×Unit->Prop),∃(μ:Int×List Int×Unit->Nat),I ((0:Int),List.replicate (IntKind.i64.wrap ((x.1.length:Int)+(x.2.1.length:Int))).toNat (0:Int),())/\∀(p:Int×List Int×Unit),(Ty.int IntKind.i64).wf p.1/\J0 p.2.1/\True->I p->(decide (p.1<(x.1.length:Int))=true->∃(I_1:Int×Int×List Int×Unit->Prop),∃(μ_1:Int×Int×List Int×Unit->Nat),I_1 ((0:Int),(0:Int),p.2.1,())/\∀(a:Int×Int×List Int×Unit),(Ty.int IntKind.u64).wf a.1/\(Ty.int IntKind.i64).wf a.2.1/\J0 a.2.2.1/\True->I_1 a->(decide (a.2.1<(x.2.1.length:Int))=true->((0:Int)<=IntKind.i64.wrap (p.1+a.2.1)/\IntKind.i64.wrap (p.1+a.2.1)<(a.2.2.1.length:Int))/\(0<=p.1/\p.1<(x.1.length:Int))/\(0<=a.2.1/\a.2.1<(x.2.1.length:Int))/\((0:Int)<=IntKind.i64.wrap (p.1+a.2.1)/\IntKind.i64.wrap (p.1+a.2.1)<(a.2.2.1.length:Int))/\(0:(Ty.int IntKind.u64).den)<=(32:Int)/\I_1 ((IntKind.u64.wrap (a.1+IntKind.u64.wrap (IntKind.u64.wrap (List.getD a.2.2.1 (IntKind.i64.wrap (p.1+a.2.1)).toNat (0:Int))+IntKind.u64.wrap (IntKind.u64.wrap (gx (0:Int) x.1 p.1)*IntKind.u64.wrap (gx (0:Int) x.2.1 a.2.1))))).fdiv ((2:Int)^Min.min (Int.toNat (32:Int)) IntKind.u64.bits),IntKind.i64.wrap (a.2.1+1),List.set a.2.2.1 (IntKind.i64.wrap (p.1+a.2.1)).toNat (IntKind.u32.wrap (IntKind.u64.wrap (a.1+IntKind.u64.wrap (IntKind.u64.wrap (List.getD a.2.2.1 (IntKind.i64.wrap (p.1+a.2.1)).toNat (0:Int))+IntKind.u64.wrap (IntKind.u64.wrap (gx (0:Int) x.1 p.1)*IntKind.u64.wrap (gx (0:Int) x.2.1 a.2.1)))))),())/\μ_1 ((IntKind.u64.wrap (a.1+IntKind.u64.wrap (IntKind.u64.wrap (List.getD a.2.2.1 (IntKind.i64.wrap (p.1+a.2.1)).toNat (0:Int))+IntKind.u64.wrap (IntKind.u64.wrap (gx (0:Int) x.1 p.1)*IntKind.u64.wrap (gx (0:Int) x.2.1 a.2.1))))).fdiv ((2:Int)^Min.min (Int.toNat (32:Int)) IntKind.u64.bits),IntKind.i64.wrap (a.2.1+1),List.set a.2.2.1 (IntKind.i64.wrap (p.1+a.2.1)).toNat (IntKind.u32.wrap (IntKind.u64.wrap (a.1+IntKind.u64.wrap (IntKind.u64.wrap (List.getD a.2.2.1 (IntKind.i64.wrap (p.1+a.2.1)).toNat (0:Int))+IntKind.u64.wrap (IntKind.u64.wrap (gx (0:Int) x.1 p.1)*IntKind.u64.wrap (gx (0:Int) x.2.1 a.2.1)))))),())<μ_1 a)/\(decide (a.2.1<(x.2.1.length:Int))=false->((0:Int)<=IntKind.i64.wrap (p.1+(x.2.1.length:Int))/\IntKind.i64.wrap (p.1+(x.2.1.length:Int))<(a.2.2.1.length:Int))/\I (IntKind.i64.wrap (p.1+1),List.set a.2.2.1 (IntKind.i64.wrap (p.1+(x.2.1.length:Int))).toNat (IntKind.u32.wrap a.1),())/\μ (IntKind.i64.wrap (p.1+1),List.set a.2.2.1 (IntKind.i64.wrap (p.1+(x.2.1.length:Int))).toNat (IntKind.u32.wrap a.1),())<μ p))/\(decide (p.1<(x.1.length:Int))=false->Dw p.2.1/\∀(r:List Int×Unit),J0 r.1/\True->r.1=nc (nv p.2.1)->r.1=nc (nv x.1*nv x.2.1))
def Wj:A5 Di.args->Prop:=fun(x:List Int×Unit)=>Dw x.1/\∀(r:List Int×Unit),J0 r.1/\True->r.1=nc (nv x.1)->(decide ((2:Int)<(r.1.length:Int))=true->(nv x.1<18446744073709551616->(0:Int)=(↑(nv x.1):Int)/\false=true)/\((18446744073709551616:Nat)<=nv x.1->false=false))/\(decide ((2:Int)<(r.1.length:Int))=false->∃(I:Int×Int×Unit->Prop),∃(μ:Int×Int×Unit->Nat),I ((0:Int),IntKind.i64.wrap ((r.1.length:Int)-(1:Int)),())/\∀(p:Int×Int×Unit),(Ty.int IntKind.u64).wf p.1/\(Ty.int IntKind.i64).wf p.2.1/\True->I p->(decide (0<=p.2.1)=true->(0:(Ty.int IntKind.u64).den)<=(32:Int)/\(0<=p.2.1/\p.2.1<(r.1.length:Int))/\I (IntKind.u64.wrap (↑(BitVec.ofInt IntKind.u64.bits (IntKind.u64.wrap (p.1*2^Min.min (Int.toNat (32:Int)) IntKind.u64.bits)) |||BitVec.ofInt IntKind.u64.bits (IntKind.u64.wrap (gx (0:Int) r.1 p.2.1))).toNat:Int),IntKind.i64.wrap (p.2.1-1),())/\μ (IntKind.u64.wrap (↑(BitVec.ofInt IntKind.u64.bits (IntKind.u64.wrap (p.1*2^Min.min (Int.toNat (32:Int)) IntKind.u64.bits)) |||BitVec.ofInt IntKind.u64.bits (IntKind.u64.wrap (gx (0:Int) r.1 p.2.1))).toNat:Int),IntKind.i64.wrap (p.2.1-1),())<μ p)/\(decide (0<=p.2.1)=false->(nv x.1<18446744073709551616->p.1=(↑(nv x.1):Int)/\true=true)/\((18446744073709551616:Nat)<=nv x.1->true=false)))
theorem MC (x:A5 Hr.args) (hw:awf Hr.args x) (hp:Hr.pre x):FM x:=by
 obtain⟨l,_⟩:=x;have hl:l.length<=35184372088832:=hp;have hb:A7 l:=A4 hw.1.2;change List Int at l;simp only[FM];refine⟨fun p=>0<=p.1/\p.1<=(l.length:Int)/\∀i x,p.1.toNat<=i->l[i]? =some x->x=0,fun p=>p.1.toNat,⟨Int.natCast_nonneg _,Int.le_refl _,fun i x hi hx=> ?_⟩, ?_⟩
 . rw[List.getElem?_eq_none (by simpa using hi)]at hx;cases hx
 rintro⟨n,_⟩ _ ⟨h0,h1,h2⟩;change Int at n;simp only at h0 h1 h2⊢;refine⟨fun h=> ?_,fun h=> ?_,fun h=> ?_⟩
 . have h:=of_decide_eq_true h;rw[wr (by omega) (by omega)];exact⟨by omega,by omega⟩
 . rw[J1]at h;simp only[Bool.and_eq_true,decide_eq_true_eq]at h;obtain⟨h3,h4⟩:=h;rw[wr (by omega) (by omega)]at h4⊢;refine⟨⟨by omega,by omega,fun i x hi hx=> ?_⟩,by omega⟩;by_cases he:i=(n-1).toNat
   . subst he;rw[H2 (d:=(0:Int)) (by omega) (by omega)]at hx;cases hx;exact h4
   . exact h2 i x (by omega) hx
 . refine⟨⟨Int.le_refl _,h0,h1⟩, ?_⟩;have e:(l.take n.toNat).drop (Int.toNat 0)=l.take n.toNat:=rfl;rw[e];have hlen:(l.take n.toNat).length<=l.length:=by rw[List.length_take];omega
   refine⟨⟨by omega,by omega⟩,eJ hb (by omega) h2 ?_⟩;rw[J1]at h;simp only[Bool.and_eq_false_iff,decide_eq_false_iff_not]at h;rcases h with h|h
   . exact .inl (by omega)
   . by_cases hn:n=0
     . exact .inl (by omega)
     . rw[wr (by omega) (by omega)]at h;refine .inr ⟨gx 0 l (n-1), ?_,h⟩;have:=H2 (d:=(0:Int)) (l:=l) (i:=n-1) (by omega) (by omega);rw[<-this];congr 1;omega
theorem GX (x:A5 Fe.args) (hw:awf Fe.args x) (_:Fe.pre x):BA x:=by
 obtain⟨a,b,_⟩:=x;have hl:a.length<=9223372036854775807:=hw.1.1;change List Int at a b;simp only[BA];refine⟨fun h=> ?_,fun h=> ?_⟩
 . have h:=of_decide_eq_true h;exact(decide_eq_false fun e=>h (by rw[e])).symm
 . have hlen:a.length=b.length:=by have:=of_decide_eq_false h;omega
   refine⟨fun p=>0<=p.1/\p.1<=(a.length:Int)/\a.take p.1.toNat=b.take p.1.toNat,fun p=>((a.length:Int)-p.1).toNat,⟨Int.le_refl _,Int.natCast_nonneg _,by simp⟩, ?_⟩;rintro⟨i,_⟩ _ ⟨h0,h1,h2⟩;change Int at i;simp only at h0 h1 h2⊢;refine⟨fun h=> ?_,fun h=> ?_⟩
   . have h:=of_decide_eq_true h;refine⟨⟨h0,h⟩,⟨h0,by omega⟩,fun he=> ?_,fun he=> ?_⟩
     . have he:=of_decide_eq_true he;exact(decide_eq_false fun e=>he (by rw[e])).symm
     . have he:gx 0 a i=gx 0 b i:=by simpa using he
       rw[wr (by omega) (by omega)];refine⟨⟨by omega,by omega, ?_⟩,by omega⟩;rw[show(i+1).toNat=i.toNat+1 from by omega,List.take_add_one,List.take_add_one,H2 (d:=(0:Int)) h0 h,H2 (d:=(0:Int)) h0 (by omega),h2,he]
   . have h:=of_decide_eq_false h;rw[F6 (by omega),F6 (by omega)]at h2;exact(decide_eq_true h2).symm
theorem Ss (x:A5 T8.args) (hw:awf T8.args x) (_:T8.pre x):Js x:=by
 obtain⟨v,_⟩:=x;change Int at v;have hv:IntKind.u64.min<=v/\v<=IntKind.u64.max:=hw.1;rw[VA,Ul]at hv;simp only[Js];refine⟨by decide,by simp, ?_⟩;rintro⟨r,_⟩ _ hr;simp only at hr⊢;rw[hr];congr 1;rw[show Min.min (Int.toNat 32) IntKind.u64.bits=32 from rfl];simp only[nv,Y2];rw[Int.fdiv_eq_ediv_of_nonneg _ (by decide),show(2:Int)^32=4294967296 from rfl];omega
theorem A1m (v:Int) (_:0<=v):Int.fdiv v (2^Min.min (Int.toNat 32) IntKind.u64.bits)=v/4294967296:=by
 rw[show Min.min (Int.toNat 32) IntKind.u64.bits=32 from rfl,Int.fdiv_eq_ediv_of_nonneg _ (by decide)];rfl
theorem OG (x:A5 Lp.args) (hw:awf Lp.args x) (hp:Lp.pre x):LX x:=by
 obtain⟨a,b,_⟩:=x;have ha:A7 a:=A4 hw.1.2;have hb:A7 b:=A4 hw.2.1.2;change List Int at a b;obtain⟨la,lb⟩:a.length<=17592186044416/\b.length<=17592186044416:=hp;simp only[LX];have em:IntKind.i64.wrap (Max.max (a.length:Int) (b.length:Int)+1)=((max a.length b.length+1:Nat):Int):=by
  rw[wr (by omega) (by omega)];omega
 rw[em];have hml:max a.length b.length+1<=17592186044417:=by omega
 refine⟨⟨by omega,Int.le_refl _,by simp;omega,by omega⟩, ?_⟩;have hna:a.length<=max a.length b.length+1:=by omega
 have hnb:b.length<=max a.length b.length+1:=by omega
 have hlt2:=gV ha hb;generalize max a.length b.length+1=n at hml hna hnb hlt2;refine⟨fun p=>0<=p.2.1/\p.2.1<=(n:Int)/\0<=p.1/\p.1<=1/\p.2.2.1.length=n/\nv (p.2.2.1.take p.2.1.toNat)+4294967296^p.2.1.toNat*p.1.toNat=nv (a.take p.2.1.toNat)+nv (b.take p.2.1.toNat),fun p=>((n:Int)-p.2.1).toNat,⟨Int.le_refl _,Int.natCast_nonneg _,Int.le_refl _,by show(0:Int)<=1;omega,by simp,by simp[nv]⟩, ?_⟩;rintro⟨c,i,out,_⟩ ⟨_,_,hwo,_⟩ ⟨h0,h1,h2,h3,h4,h5⟩;change Int at c i;change List Int at out;simp only at h0 h1 h2 h3 h4 h5⊢;have ho:A7 out:=A4 hwo.2;have da:=K3 ha i.toNat;have db:=K3 hb i.toNat;refine⟨fun h=> ?_,fun h=> ?_⟩
 . have h:=of_decide_eq_true h;refine⟨fun p=>p.1=c+(dg a i.toNat:Int),⟨fun hi=> ?_,fun hi=> ?_⟩, ?_⟩
   . have hi:=of_decide_eq_true hi;refine⟨⟨h0,hi⟩, ?_⟩;show IntKind.u64.wrap _= _;rw[Ch ha h0 hi,R5 (a:=(dg a i.toNat:Int)) (by omega) (by omega),R5 (by omega) (by omega)]
   . have hi:=of_decide_eq_false hi;show c= _;rw[Jz (by omega)];omega
   rintro⟨c1,_⟩ _ hc1;simp only at hc1⊢;refine⟨fun p=>p.1=c1+(dg b i.toNat:Int),⟨fun hi=> ?_,fun hi=> ?_⟩, ?_⟩
   . have hi:=of_decide_eq_true hi;refine⟨⟨h0,hi⟩, ?_⟩;show IntKind.u64.wrap _= _;rw[Ch hb h0 hi,R5 (a:=(dg b i.toNat:Int)) (by omega) (by omega),R5 (by omega) (by omega)]
   . have hi:=of_decide_eq_false hi;show c1= _;rw[Jz (by omega)];omega
   rintro⟨c2,_⟩ _ hc2;simp only at hc2⊢;subst hc1 hc2;refine⟨⟨h0,h⟩,by decide, ?_⟩;rw[A1m _ (by omega),wr (by omega) (by omega),Y2];refine⟨⟨by omega,by omega,by omega,by omega,by rw[List.length_set];exact h4, ?_⟩,by omega⟩;rw[show(i+1).toNat=i.toNat+1 from by omega,O1 (by omega),H3 a,H3 b,Nat.pow_succ];exact QV h5 (by omega)
 . have h:=of_decide_eq_false h;refine⟨by omega, ?_⟩;rintro⟨r,_⟩ _ hr;simp only at hr⊢;rw[hr];congr 1;rw[show i.toNat=n from by omega,List.take_of_length_le (by omega),List.take_of_length_le hna,List.take_of_length_le hnb]at h5;have hc:c.toNat=0:=Xa (P:=4294967296^n) (x:=nv a+nv b) (by rw[<-h5];exact Nat.le_add_left ..) hlt2;rw[hc,Nat.mul_zero,Nat.add_zero]at h5;exact h5
theorem AZ (x:A5 Br.args) (hw:awf Br.args x) (hp:Br.pre x):Sr x:=by
 obtain⟨a,b,_⟩:=x;change List Int at a b;obtain⟨la,lb⟩:a.length<=17592186044416/\b.length<=17592186044416:=hp;simp only[Sr];refine⟨by omega, ?_⟩;rintro⟨r,_⟩ ⟨⟨hla,_⟩,_⟩ hr;simp only at hr hla⊢;subst hr;refine⟨by omega, ?_⟩;rintro⟨s,_⟩ ⟨⟨hlb,_⟩,_⟩ hs;simp only at hs hlb⊢;subst hs;have ha:=H9 (nv a);have hb:=H9 (nv b);refine⟨fun hne=>⟨fun h=> ?_,fun h=> ?_⟩,fun hne=> ?_⟩
 . have h:=of_decide_eq_true h;exact(Jb (Ub (by omega))).symm
 . have h:=of_decide_eq_false h;have hne:=of_decide_eq_true hne;exact(HL (Ub (by omega))).symm
 . have hlen:(nc (nv a)).length=(nc (nv b)).length:=by have:=of_decide_eq_false hne;omega
   have ea:=E8 (nv a);have eb:=E8 (nv b);generalize nc (nv a)=r at*;generalize nc (nv b)=s at*;rw[<-ea, <-eb];refine⟨fun p=> -1<=p.1/\p.1<(r.length:Int)/\r.drop (p.1+1).toNat=s.drop (p.1+1).toNat,fun p=>(p.1+1).toNat, ?_, ?_⟩
   . rw[wr (by omega) (by omega)];refine⟨by omega,by omega, ?_⟩;rw[List.drop_of_length_le (by omega),List.drop_of_length_le (by omega)]
   rintro⟨i,_⟩ _ ⟨h0,h1,h2⟩;change Int at i;simp only at h0 h1 h2⊢;refine⟨fun h=> ?_,fun h=> ?_⟩
   . have h:=of_decide_eq_true h;refine⟨⟨h,h1⟩,⟨h,by omega⟩,fun hlt=> ?_,fun hlt=>⟨⟨h,h1⟩,⟨h,by omega⟩,fun hgt=> ?_,fun hgt=> ?_⟩⟩
     . exact(Jb (UH ha hb hlen h h1 h2 (of_decide_eq_true hlt))).symm
     . exact(HL (UH hb ha hlen.symm h (by omega) h2.symm (of_decide_eq_true hgt))).symm
     . have hlt:=of_decide_eq_false hlt;have hgt:=of_decide_eq_false hgt;rw[wr (by omega) (by omega)];refine⟨⟨by omega,by omega, ?_⟩,by omega⟩;rw[show i-1+1=i from by omega,Q4 h h1,Q4 h (by omega),h2,show gx 0 r i=gx 0 s i from by omega]
   . have h:=of_decide_eq_false h;rw[show(i+1).toNat=0 from by omega,List.drop_zero,List.drop_zero]at h2;rw[h2,QP]
theorem OJ (x:A5 Ls.args) (hw:awf Ls.args x) (hp:Ls.pre x):MB x:=by
 obtain⟨a,b,_⟩:=x;change List Int at a b;have hla:A7 a:=A4 hw.1.2;have hlb:A7 b:=A4 hw.2.1.2;obtain⟨la,lb⟩:a.length<=17592186044416/\b.length<=17592186044416:=hp;simp only[MB];refine⟨⟨la,lb⟩, ?_⟩;rintro⟨d,_⟩ _ hd;simp only at hd⊢;subst hd;refine⟨fun h=> ?_,fun h=> ?_⟩
 . have h:=of_decide_eq_true h;refine⟨fun _=>⟨by trivial,by trivial⟩,fun hge=> ?_⟩;unfold Cc at h;rw[if_neg (by omega)]at h;split at h<;>omega
 . have h:=of_decide_eq_false h;have hge:nv b<=nv a:=by
    rcases Nat.lt_or_ge (nv a) (nv b)with h1|h1
    . rw[Jb h1]at h;omega
    . exact h1
   refine⟨by omega, ?_⟩;rintro⟨r,_⟩ _ hr;simp only at hr⊢;refine⟨by omega, ?_⟩;rintro⟨s,_⟩ _ hs;simp only at hs⊢;have hra:A7 r:=hr▸H9 _;have hsb:A7 s:=hs▸H9 _;have hrv:nv r=nv a:=by rw[hr,E8]
   have hsv:nv s=nv b:=by rw[hs,E8]
   have hrl:r.length<=a.length:=by rw[hr];exact D3 hla
   have hsr:s.length<=r.length:=by rw[hr,hs];exact I2 hge
   rw[<-hrv, <-hsv]at hge⊢;clear hr hs hrv hsv;refine⟨⟨by omega,Int.le_refl _,by simp;omega,by omega⟩, ?_⟩;refine⟨fun p=>0<=p.2.1/\p.2.1<=(r.length:Int)/\0<=p.1/\p.1<=1/\p.2.2.1.length=r.length/\nv (r.take p.2.1.toNat)+4294967296^p.2.1.toNat*p.1.toNat=nv (p.2.2.1.take p.2.1.toNat)+nv (s.take p.2.1.toNat),fun p=>((r.length:Int)-p.2.1).toNat,⟨Int.le_refl _,Int.natCast_nonneg _,Int.le_refl _,by show(0:Int)<=1;omega,by simp,by simp[nv]⟩, ?_⟩;rintro⟨c,i,out,_⟩ ⟨_,_,hwo,_⟩ ⟨h0,h1,h2,h3,h4,h5⟩;change Int at c i;change List Int at out;simp only at h0 h1 h2 h3 h4 h5⊢;have ho:A7 out:=A4 hwo.2;have da:=K3 hra i.toNat;have db:=K3 hsb i.toNat;refine⟨fun h=> ?_,fun h=> ?_⟩
   . have h:=of_decide_eq_true h;refine⟨fun p=>p.1=c+(dg s i.toNat:Int),⟨fun hi=> ?_,fun hi=> ?_⟩, ?_⟩
     . have hi:=of_decide_eq_true hi;refine⟨⟨h0,hi⟩, ?_⟩;show IntKind.u64.wrap _= _;rw[Ch hsb h0 hi,R5 (a:=(dg s i.toNat:Int)) (by omega) (by omega),R5 (by omega) (by omega)]
     . have hi:=of_decide_eq_false hi;show c= _;rw[Jz (by omega)];omega
     rintro⟨c1,_⟩ _ hc1;change Int at c1;simp only at hc1⊢;refine⟨⟨h0,h⟩, ?_⟩;rw[Ch hra h0 h,R5 (a:=(dg r i.toNat:Int)) (by omega) (by omega)];refine⟨fun p=>0<=p.1/\p.1<=1/\p.2.1=(dg r i.toNat:Int)+4294967296*p.1/\c1<=p.2.1/\p.2.1-c1<=4294967295,⟨fun hi=> ?_,fun hi=> ?_⟩, ?_⟩
     . have hi:=of_decide_eq_true hi;show(0:Int)<=1/\(1:Int)<=1/\IntKind.u64.wrap _=(dg r i.toNat:Int)+4294967296*1/\c1<=IntKind.u64.wrap _ /\IntKind.u64.wrap _-c1<= _;rw[R5 (by omega) (by omega)];omega
     . have hi:=of_decide_eq_false hi;show(0:Int)<=0/\(0:Int)<=1/\(dg r i.toNat:Int)=(dg r i.toNat:Int)+4294967296*0/\c1<=(dg r i.toNat:Int)/\(dg r i.toNat:Int)-c1<= _;omega
     rintro⟨c2,x2,_⟩ _ ⟨k1,k2,k3,k4,k5⟩;change Int at c2 x2;simp only at k1 k2 k3 k4 k5⊢;refine⟨⟨h0,by omega⟩, ?_⟩;rw[wr (by omega) (by omega),R5 (a:=x2-c1) (by omega) (by omega),iS (by omega) (by omega)];refine⟨⟨by omega,by omega,by omega,by omega,by rw[List.length_set];exact h4, ?_⟩,by omega⟩;rw[show(i+1).toNat=i.toNat+1 from by omega,O1 (by omega),H3 r,H3 s,Nat.pow_succ];exact KE h5 (by omega)
   . have h:=of_decide_eq_false h;refine⟨by omega, ?_⟩;rintro⟨q,_⟩ _ hq;simp only at hq⊢;refine⟨fun hlt=>by omega,fun _=>⟨?_,by trivial⟩⟩;rw[hq];congr 1;rw[show i.toNat=r.length from by omega,List.take_of_length_le (Nat.le_refl _),List.take_of_length_le (by omega),List.take_of_length_le hsr]at h5;have hol:nv out<4294967296^out.length:=Cu ho;rw[h4]at hol;have hc:c.toNat=0:=Xa (P:=4294967296^r.length) (x:=nv out) (by omega) hol;rw[hc,Nat.mul_zero,Nat.add_zero]at h5;omega
theorem OI (x:A5 Lr.args) (hw:awf Lr.args x) (hp:Lr.pre x):MA x:=by
 obtain⟨a,b,_⟩:=x;have ha:A7 a:=A4 hw.1.2;have hb:A7 b:=A4 hw.2.1.2;change List Int at a b;obtain⟨la,lb⟩:a.length<=17592186044416/\b.length<=17592186044416:=hp;simp only[MA];have em:IntKind.i64.wrap ((a.length:Int)+(b.length:Int))=((a.length+b.length:Nat):Int):=by
  rw[wr (by omega) (by omega)];omega
 rw[em];refine⟨⟨by omega,Int.le_refl _,by simp;omega,by omega⟩, ?_⟩;refine⟨fun p=>0<=p.1/\p.1<=(a.length:Int)/\p.2.1.length=a.length+b.length/\nv p.2.1=nv (a.take p.1.toNat)*nv b/\∀j,p.1.toNat+b.length<=j->dg p.2.1 j=0,fun p=>((a.length:Int)-p.1).toNat,⟨Int.le_refl _,Int.natCast_nonneg _,by rw[List.length_replicate,Int.toNat_natCast],by simp[nv,Ld],fun j _=>Zg _ _⟩, ?_⟩;rintro⟨i,out,_⟩ ⟨_,hwo,_⟩ ⟨h0,h1,h2,h3,h4⟩;change Int at i;change List Int at out;simp only at h0 h1 h2 h3 h4⊢;have ho:A7 out:=A4 hwo.2;refine⟨fun h=> ?_,fun h=> ?_⟩
 . have h:=of_decide_eq_true h;have da:=K3 ha i.toNat;refine⟨fun p=>0<=p.2.1/\p.2.1<=(b.length:Int)/\0<=p.1/\p.1<=4294967295/\p.2.2.1.length=a.length+b.length/\nv p.2.2.1+4294967296^(i.toNat+p.2.1.toNat)*p.1.toNat=nv out+4294967296^i.toNat*(dg a i.toNat*nv (b.take p.2.1.toNat))/\∀j,i.toNat+b.length<=j->dg p.2.2.1 j=0,fun p=>((b.length:Int)-p.2.1).toNat,⟨Int.le_refl _,Int.natCast_nonneg _,Int.le_refl _,by show(0:Int)<=4294967295;omega,h2,by simp[nv],h4⟩, ?_⟩;rintro⟨c,j,o,_⟩ ⟨_,_,hwo',_⟩ ⟨g0,g1,g2,g3,g4,g5,g6⟩;change Int at c j;change List Int at o;simp only at g0 g1 g2 g3 g4 g5 g6⊢;have hoo:A7 o:=A4 hwo'.2;refine⟨fun hj=> ?_,fun hj=> ?_⟩
   . have hj:=of_decide_eq_true hj;have db:=K3 hb j.toNat;rw[wr (a:=i+j) (by omega) (by omega)];refine⟨⟨by omega,by omega⟩,⟨h0,h⟩,⟨g0,hj⟩,⟨by omega,by omega⟩,by decide, ?_⟩;rw[Ch ha h0 h,Ch hb g0 hj,S7 hoo,show(i+j).toNat=i.toNat+j.toNat from by omega];have dk:=K3 hoo (i.toNat+j.toNat);have hm:dg a i.toNat*dg b j.toNat<=4294967295*4294967295:=Nat.mul_le_mul da db;have hme:(dg a i.toNat:Int)*(dg b j.toNat:Int)=((dg a i.toNat*dg b j.toNat:Nat):Int):=(Int.natCast_mul _ _).symm;rw[R5 (a:=(dg a i.toNat:Int)) (by omega) (by omega),R5 (a:=(dg b j.toNat:Int)) (by omega) (by omega),R5 (a:=(dg o (i.toNat+j.toNat):Int)) (by omega) (by omega),hme];have g5':=g5;generalize hMM:dg a i.toNat*dg b j.toNat=M at hm;rw[R5 (a:=(M:Int)) (by omega) (by omega),R5 (a:=(dg o (i.toNat+j.toNat):Int)+(M:Int)) (by omega) (by omega),R5 (by omega) (by omega),A1m _ (by omega),wr (by omega) (by omega),Y2];refine⟨⟨by omega,by omega,by omega,by omega,by rw[List.length_set];exact g4, ?_,fun q hq=> ?_⟩,by omega⟩
     . have hs:=Fv (l:=o) (k:=i.toNat+j.toNat) (v:=(c+((dg o (i.toNat+j.toNat):Int)+(M:Int)))%4294967296) (by omega);rw[show(j+1).toNat=j.toNat+1 from by omega,H3 b, <-Nat.add_assoc i.toNat,Nat.pow_succ,Nat.mul_add (dg a i.toNat)];have e1:dg a i.toNat*(4294967296^j.toNat*dg b j.toNat)=4294967296^j.toNat*M:=by rw[<-hMM,Nat.mul_left_comm]
       rw[e1,Nat.mul_add (4294967296^i.toNat), <-Nat.mul_assoc (4294967296^i.toNat) (4294967296^j.toNat), <-Nat.pow_add, <-Nat.add_assoc (nv out), <-g5];generalize 4294967296^(i.toNat+j.toNat)=P at*;have hd:((c+((dg o (i.toNat+j.toNat):Int)+(M:Int)))%4294967296).toNat+4294967296*((c+((dg o (i.toNat+j.toNat):Int)+(M:Int)))/4294967296).toNat=c.toNat+dg o (i.toNat+j.toNat)+M:=by omega
       have hd2:=congrArg (P* ·) hd;simp only[Nat.mul_add, <-Nat.mul_assoc]at hd2;omega
     . rw[Qo (by omega),if_neg (by omega)];exact g6 q hq
   . have hj:=of_decide_eq_false hj;rw[wr (a:=i+(b.length:Int)) (by omega) (by omega),wr (by omega) (by omega),iS g2 g3];refine⟨⟨by omega,by omega⟩,⟨by omega,by omega,by rw[List.length_set];exact g4, ?_,fun q hq=> ?_⟩,by omega⟩
     . have hs:=Fv (l:=o) (k:=(i+(b.length:Int)).toNat) (v:=c) (by omega);rw[g6 _ (by omega),Nat.mul_zero,Nat.add_zero]at hs;rw[hs,show(i+(b.length:Int)).toNat=i.toNat+b.length from by omega];rw[show j.toNat=b.length from by omega,List.take_of_length_le (Nat.le_refl b.length)]at g5;rw[g5,show(i+1).toNat=i.toNat+1 from by omega,H3,Nat.add_mul,h3,Nat.mul_assoc]
     . rw[Qo (by omega),if_neg (by omega)];exact g6 q (by omega)
 . have h:=of_decide_eq_false h;refine⟨by omega, ?_⟩;rintro⟨r,_⟩ _ hr;simp only at hr⊢;rw[hr,h3,List.take_of_length_le (by omega)]
theorem ER (x:A5 Di.args) (hw:awf Di.args x) (hp:Di.pre x):Wj x:=by
 obtain⟨a,_⟩:=x;have ha:A7 a:=A4 hw.1.2;change List Int at a;have la:a.length<=35184372088832:=hp;have n1:=D3 ha;simp only[Wj];refine⟨hp, ?_⟩;rintro⟨r,_⟩ _ hr;simp only at hr⊢;have hrv:nv r=nv a:=by rw[hr,E8]
 have hra:A7 r:=hr▸H9 _;refine⟨fun h=> ?_,fun h=> ?_⟩
 . have h:=of_decide_eq_true h;have h2:4294967296^2<=nv a:=mI (by rw[<-hr];omega);exact⟨fun h3=>by omega,fun _=>by trivial⟩
 . have h:=of_decide_eq_false h;have hrl:r.length<=2:=by omega
   rw[wr (a:=(r.length:Int)-1) (by omega) (by omega)];refine⟨fun p=> -1<=p.2.1/\p.2.1<(r.length:Int)/\p.1=(nv (r.drop (p.2.1+1).toNat):Int),fun p=>(p.2.1+1).toNat,⟨by show(-1:Int)<=(r.length:Int)-1;omega,by show(r.length:Int)-1< _;omega, ?_⟩, ?_⟩
   . show(0:Int)= _;rw[List.drop_of_length_le (by show r.length<=((r.length:Int)-1+1).toNat;omega)];rfl
   rintro⟨v,i,_⟩ _ ⟨i0,i1,hv⟩;change Int at v i;simp only at i0 i1 hv⊢;refine⟨fun h2=> ?_,fun h2=> ?_⟩
   . have h2:=of_decide_eq_true h2;have hg:=Nf hra h2 i1;have hlt:nv (r.drop (i+1).toNat)<4294967296:=by
      have h3:=Cu (l:=r.drop (i+1).toNat) fun y hy=>hra y (List.mem_of_mem_drop hy)
      have h4:4294967296^(r.drop (i+1).toNat).length<=4294967296^1:=Nat.pow_le_pow_right (by decide) (by rw[List.length_drop];omega);omega
     rw[wr (a:=i-1) (by omega) (by omega),show Min.min (Int.toNat 32) IntKind.u64.bits=32 from rfl,R5 (a:=v*2^32) (by omega) (by omega),R5 (a:=gx 0 r i) (by omega) (by omega)];have hor:=AD (v:=gx 0 r i) (b:=v) (k:=32) (by omega) (by omega) (by omega) (by omega) (by omega);rw[show IntKind.u64.bits=64 from rfl,hor,R5 (by omega) (by omega)];refine⟨by decide,⟨h2,i1⟩,⟨by omega,by omega, ?_⟩,by omega⟩;rw[show i-1+1=i from by omega,Q4 h2 i1];show _=(((gx 0 r i).toNat+4294967296*nv (r.drop (i+1).toNat):Nat):Int);omega
   . have h2:=of_decide_eq_false h2;rw[show(i+1).toNat=0 from by omega,List.drop_zero,hrv]at hv;refine⟨fun _=>⟨hv,by trivial⟩,fun h3=> ?_⟩;have h4:=Cu hra;have h5:4294967296^r.length<=4294967296^2:=Nat.pow_le_pow_right (by decide) hrl;omega
def VO:An:= {loop:= [(6,⟨[],[],[(3,false,[.val (.int .i64)]),(4,false,[.val (.int .u32)])],[],[]⟩)]}
def ZZ:An:= {}
def NK:An:= {join:= [(15,⟨[0,1,4,11],[0],[(5,false,[.val (.sl (.int .u32))])],[],[]⟩),(11,⟨[0,1,4,11],[],[(5,false,[.val (.sl (.int .u32))])],[],[(0, .row (.int .u32) 127)]⟩)],loop:= [(10,⟨[0,1,4],[],[(5,false,[.val (.sl (.int .u32))]),(11,false,[.val (.int .i64)])],[],[(0, .row (.int .u32) 127)]⟩)],plan:= [(7,[],[],true, .done)]}
def ZW:An:= {loop:= [(2,⟨[],[],[(0,false,[.val (.sl (.int .u32))]),(1,false,[.val (.sl (.int .u32))])],[],[]⟩)]}
def FL:A5 Hq.args->Prop:=fun(x:List Int×Unit)=>Dw x.1/\∀(r:List Int×Unit),J0 r.1/\True->r.1=nc (nv x.1)->(decide ((r.1.length:Int)=(0:Int))=true->(0:Int)=(↑(I3 (nv x.1)):Int))/\(decide ((r.1.length:Int)=(0:Int))=false->((0:Int)<=IntKind.i64.wrap ((r.1.length:Int)-(1:Int))/\IntKind.i64.wrap ((r.1.length:Int)-(1:Int))<(r.1.length:Int))/\∃(I:Int×Int×Unit->Prop),∃(μ:Int×Int×Unit->Nat),I (IntKind.i64.wrap ((32:Int)*IntKind.i64.wrap ((r.1.length:Int)-(1:Int))),gx (0:Int) r.1 (IntKind.i64.wrap ((r.1.length:Int)-(1:Int))),())/\∀(p:Int×Int×Unit),(Ty.int IntKind.i64).wf p.1/\(Ty.int IntKind.u32).wf p.2.1/\True->I p->(decide (0<p.2.1)=true->(0:(Ty.int IntKind.u64).den)<=(1:Int)/\I (IntKind.i64.wrap (p.1+1),Int.fdiv p.2.1 ((2:Int)^Min.min (Int.toNat (1:Int)) IntKind.u32.bits),())/\μ (IntKind.i64.wrap (p.1+1),Int.fdiv p.2.1 ((2:Int)^Min.min (Int.toNat (1:Int)) IntKind.u32.bits),())<μ p)/\(decide (0<p.2.1)=false->p.1=(↑(I3 (nv x.1)):Int)))
def MD:A5 Lt.args->Prop:=fun(x:List Int×Int×Unit)=>(32:Int)≠(0:Int)/\(decide ((x.1.length:Int)<=IntKind.i64.wrap (Int.tdiv x.2.1 (32:Int)))=true->(0:Int)=(↑(nv x.1/(2:Nat)^x.2.1.toNat%(2:Nat)):Int))/\(decide ((x.1.length:Int)<=IntKind.i64.wrap (Int.tdiv x.2.1 (32:Int)))=false->(32:Int)≠(0:Int)/\((0:Int)<=IntKind.i64.wrap (Int.tdiv x.2.1 (32:Int))/\IntKind.i64.wrap (Int.tdiv x.2.1 (32:Int))<(x.1.length:Int))/\(32:Int)≠(0:Int)/\(0:(Ty.int IntKind.u64).den)<=IntKind.u64.wrap (Int.tmod x.2.1 (32:Int))/\IntKind.u32.wrap (↑(BitVec.ofInt IntKind.u32.bits ((gx (0:Int) x.1 (IntKind.i64.wrap (Int.tdiv x.2.1 (32:Int)))).fdiv ((2:Int)^Min.min (IntKind.u64.wrap (Int.tmod x.2.1 (32:Int))).toNat IntKind.u32.bits))&&&BitVec.ofInt IntKind.u32.bits (1:Int)).toNat:Int)=(↑(nv x.1/(2:Nat)^x.2.1.toNat%(2:Nat)):Int))
def Wi:A5 Dh.args->Prop:=fun(x:List Int×List Int×Unit)=>Dw x.2.1/\∀(r:List Int×Unit),J0 r.1/\True->r.1=nc (nv x.2.1)->(decide ((r.1.length:Int)=(0:Int))=true->(nv x.2.1=0->false=false)/\(nv x.2.1≠0->Pj Int=nc (nv x.1/nv x.2.1)/\Pj Int=nc (nv x.1%nv x.2.1)/\false=true))/\(decide ((r.1.length:Int)=(0:Int))=false->Dw x.1/\∀(d:Int×Bool×Unit),Dz d.1/\True/\True->(nv x.1<18446744073709551616->d.1=(↑(nv x.1):Int)/\d.2.1=true)/\((18446744073709551616:Nat)<=nv x.1->d.2.1=false)->Dw r.1/\∀(b:Int×Bool×Unit),Dz b.1/\True/\True->(nv r.1<18446744073709551616->b.1=(↑(nv r.1):Int)/\b.2.1=true)/\((18446744073709551616:Nat)<=nv r.1->b.2.1=false)->(E5 d.2.1 b.2.1 false=true->b.1≠0/\b.1≠0/\True/\∀(r:List Int×Unit),J0 r.1/\True->r.1=nc (IntKind.u64.wrap (Int.tdiv d.1 b.1)).toNat->True/\∀(f:List Int×Unit),J0 f.1/\True->f.1=nc (Int.tmod d.1 b.1).toNat->(nv x.2.1=0->true=false)/\(nv x.2.1≠0->r.1=nc (nv x.1/nv x.2.1)/\f.1=nc (nv x.1%nv x.2.1)/\true=true))/\(E5 d.2.1 b.2.1 false=false->((0:Int)<=(x.1.length:Int)/\(x.1.length:Int)<=(x.1.length:Int)/\(↑(4:Nat):Int)*(x.1.length:Int)<=(281474976710656:Int)/\(x.1.length:Int)<=(9223372036854775807:Int))/\E3 x.1/\∀(f:Int×Unit),L4 f.1/\True->f.1=(↑(I3 (nv x.1)):Int)->∃(I:List Int×Int×List Int×Unit->Prop),∃(μ:List Int×Int×List Int×Unit->Nat),I ([],IntKind.i64.wrap (f.1-1),List.replicate (x.1.length:Int).toNat (0:Int),())/\∀(p:List Int×Int×List Int×Unit),(Ty.int IntKind.u32).sl.wf p.1/\(Ty.int IntKind.i64).wf p.2.1/\J0 p.2.2.1/\True->I p->(decide (0<=p.2.1)=true->∃(J:List Int×List Int×Unit->Prop),((E3 p.1/\E3 p.1)/\∀(c:List Int×Unit),J0 c.1/\True->c.1=nc (nv p.1+nv p.1)->∃(J_1:List Int×Unit->Prop),(0<=p.2.1/\∀(r:Int×Unit),(IntKind.u32.min<=r.1/\r.1<=IntKind.u32.max)/\True->r.1=(↑(nv x.1/(2:Nat)^Int.toNat p.2.1%(2:Nat)):Int)->(decide (r.1=1)=true->(E3 c.1/\E3 [(1:Int)])/\∀(r:List Int×Unit),J0 r.1/\True->r.1=nc (nv c.1+nv [(1:Int)])->J_1 r)/\(decide (r.1=1)=false->J_1 c))/\∀(a:List Int×Unit),(Ty.int IntKind.u32).sl.wf a.1/\True->J_1 a->(E3 a.1/\E3 r.1)/\∀(e:List Int×Bool×Unit),J0 e.1/\True/\True->(nv a.1<nv r.1->e.1= []/\e.2.1=false)/\(nv r.1<=nv a.1->e.1=nc (nv a.1-nv r.1)/\e.2.1=true)->(e.2.1=true->(32:Int)≠(0:Int)/\((0:Int)<=IntKind.i64.wrap (Int.tdiv p.2.1 (32:Int))/\IntKind.i64.wrap (Int.tdiv p.2.1 (32:Int))<(p.2.2.1.length:Int))/\(32:Int)≠(0:Int)/\(0:(Ty.int IntKind.u64).den)<=IntKind.u64.wrap (Int.tmod p.2.1 (32:Int))/\((0:Int)<=IntKind.i64.wrap (Int.tdiv p.2.1 (32:Int))/\IntKind.i64.wrap (Int.tdiv p.2.1 (32:Int))<(p.2.2.1.length:Int))/\J (e.1,List.set p.2.2.1 (IntKind.i64.wrap (Int.tdiv p.2.1 (32:Int))).toNat (IntKind.u32.wrap (↑(BitVec.ofInt IntKind.u32.bits (List.getD p.2.2.1 (IntKind.i64.wrap (Int.tdiv p.2.1 (32:Int))).toNat (0:Int)) |||BitVec.ofInt IntKind.u32.bits (IntKind.u32.wrap ((1:Int)*(2:Int)^Min.min (IntKind.u64.wrap (Int.tmod p.2.1 (32:Int))).toNat IntKind.u32.bits))).toNat:Int)),()))/\(e.2.1=false->J (a.1,p.2.2.1,())))/\∀(a:List Int×List Int×Unit),(Ty.int IntKind.u32).sl.wf a.1/\J0 a.2.1/\True->J a->I (a.1,IntKind.i64.wrap (p.2.1-1),a.2.1,())/\μ (a.1,IntKind.i64.wrap (p.2.1-1),a.2.1,())<μ p)/\(decide (0<=p.2.1)=false->Dw p.2.2.1/\∀(r:List Int×Unit),J0 r.1/\True->r.1=nc (nv p.2.2.1)->Dw p.1/\∀(c:List Int×Unit),J0 c.1/\True->c.1=nc (nv p.1)->(nv x.2.1=0->true=false)/\(nv x.2.1≠0->r.1=nc (nv x.1/nv x.2.1)/\c.1=nc (nv x.1%nv x.2.1)/\true=true))))
def LZ:A5 Lq.args->Prop:=fun(x:List Int×List Int×Unit)=>Dw x.1/\∀(r:List Int×Unit),J0 r.1/\True->r.1=nc (nv x.1)->Dw x.2.1/\∀(a:List Int×Unit),J0 a.1/\True->a.1=nc (nv x.2.1)->∃(I:List Int×List Int×Unit->Prop),∃(μ:List Int×List Int×Unit->Nat),I (r.1,a)/\∀(p:List Int×List Int×Unit),(Ty.int IntKind.u32).sl.wf p.1/\(Ty.int IntKind.u32).sl.wf p.2.1/\True->I p->(decide ((0:Int)<(p.2.1.length:Int))=true->(S0 p.1/\S0 p.2.1)/\∀(r:List Int×List Int×Bool×Unit),J0 r.1/\J0 r.2.1/\True/\True->(nv p.2.1=0->r.2.2.1=false)/\(nv p.2.1≠0->r.1=nc (nv p.1/nv p.2.1)/\r.2.1=nc (nv p.1%nv p.2.1)/\r.2.2.1=true)->I (p.2.1,r.2.1,())/\μ (p.2.1,r.2.1,())<μ p)/\(decide ((0:Int)<(p.2.1.length:Int))=false->p.1=nc ((nv x.1).gcd (nv x.2.1)))
theorem LY (x:A5 Hq.args) (hw:awf Hq.args x) (hp:Hq.pre x):FL x:=by
 obtain⟨a,_⟩:=x;have ha:A7 a:=A4 hw.1.2;change List Int at a;have la:a.length<=17592186044416:=hp;have n1:=D3 ha;have hbl:=dH ha;simp only[FL];refine⟨by show a.length<=35184372088832;omega, ?_⟩;rintro⟨r,_⟩ _ hr;simp only at hr⊢;have hrv:nv r=nv a:=by rw[hr,E8]
 have hra:A7 r:=hr▸H9 _;refine⟨fun h=> ?_,fun h=> ?_⟩
 . have h:=of_decide_eq_true h;have h0:nv a=0:=by rw[<-hrv,List.eq_nil_of_length_eq_zero (l:=r) (by omega)];rfl
   rw[h0];rfl
 . have h:=of_decide_eq_false h;have hrl:r.length<=a.length:=by rw[hr];exact n1
   have h0:nv a≠0:=fun e=>h (by rw[hr,e,L9];rfl)
   have ht:=jM h0;rw[<-hr]at ht;rw[wr (a:=(r.length:Int)-1) (by omega) (by omega),wr (a:=32*((r.length:Int)-1)) (by omega) (by omega),Ch hra (by omega) (by omega),show((r.length:Int)-1).toNat=r.length-1 from by omega];have hd:=K3 hra (r.length-1);refine⟨⟨by omega,by omega⟩,fun p=>0<=p.1/\0<=p.2.1/\p.1+(I3 p.2.1.toNat:Int)=(I3 (nv a):Int),fun p=>p.2.1.toNat,⟨by show(0:Int)<=32*((r.length:Int)-1);omega,Int.natCast_nonneg _, ?_⟩, ?_⟩
   . show 32*((r.length:Int)-1)+(I3 ((dg r (r.length-1):Nat):Int).toNat:Int)= _;rw[Int.toNat_natCast,ht];omega
   rintro⟨n,v,_⟩ _ ⟨h1,h2,h3⟩;change Int at n v;simp only at h1 h2 h3⊢;refine⟨fun h4=> ?_,fun h4=> ?_⟩
   . have h4:=of_decide_eq_true h4;have hh:=fP (n:=v.toNat) (by omega);have e:Int.fdiv v (2^Min.min (Int.toNat 1) IntKind.u32.bits)=v/2:=by
      show Int.fdiv v (2^1)= _;rw[Int.fdiv_eq_ediv_of_nonneg _ (by decide)];rfl
     rw[e,wr (a:=n+1) (by omega) (by omega)];refine⟨by decide,⟨by omega,by omega, ?_⟩,by omega⟩;rw[show(v/2).toNat=v.toNat/2 from by omega];omega
   . have h4:=of_decide_eq_false h4;rw[show v.toNat=0 from by omega,Tk]at h3;omega
theorem OK (x:A5 Lt.args) (hw:awf Lt.args x) (hp:Lt.pre x):MD x:=by
 obtain⟨a,n,_⟩:=x;have ha:A7 a:=A4 hw.1.2;have hn:=(show IntKind.i64.min<=n/\n<=IntKind.i64.max from hw.2.1);rw[Mx,Tv]at hn;change List Int at a;change Int at n;have hn': -9223372036854775808<=n/\n<=9223372036854775807:=hn;have n0:0<=n:=hp;simp only[MD];have e1:IntKind.i64.wrap (Int.tdiv n 32)=((n.toNat/32:Nat):Int):=by
  rw[Int.tdiv_eq_ediv_of_nonneg n0,wr (by omega) (by omega)];omega
 have e2:IntKind.u64.wrap (Int.tmod n 32)=((n.toNat%32:Nat):Int):=by
  rw[Int.tmod_eq_emod_of_nonneg n0,R5 (by omega) (by omega)];omega
 rw[e1,e2];have hb:=oK ha n.toNat;refine⟨by decide,fun h=> ?_,fun h=> ?_⟩
 . have h:=of_decide_eq_true h;rw[Jz (by omega),Nat.zero_div]at hb;rw[<-hb];rfl
 . have h:=of_decide_eq_false h;have h5:n.toNat%32<=31:=by omega
   refine⟨by decide,⟨by omega,by omega⟩,by decide,Int.natCast_nonneg _, ?_⟩;rw[Int.toNat_natCast,show Min.min (n.toNat%32) IntKind.u32.bits=n.toNat%32 from by show Min.min (n.toNat%32) 32= _;omega];rw[Ch ha (by omega) (by omega),Int.toNat_natCast, <-hb];have hd:=K3 ha (n.toNat/32);have e3:Int.fdiv (dg a (n.toNat/32):Int) (2^(n.toNat%32))=((dg a (n.toNat/32)/2^(n.toNat%32):Nat):Int):=by
    rw[show((2:Int)^(n.toNat%32))=((2^(n.toNat%32):Nat):Int)from by rw[Int.natCast_pow];rfl,Int.fdiv_eq_ediv_of_nonneg _ (Int.natCast_nonneg _)];rfl
   have hle:dg a (n.toNat/32)/2^(n.toNat%32)<=dg a (n.toNat/32):=Nat.div_le_self _ _;rw[e3];generalize dg a (n.toNat/32)/2^(n.toNat%32)=Z at*;rw[show IntKind.u32.bits=32 from rfl,fM (Int.natCast_nonneg _) (by omega),iS (by omega) (by omega),Int.toNat_natCast]
theorem EQ (x:A5 Dh.args) (hw:awf Dh.args x) (hp:Dh.pre x):Wi x:=by
 obtain⟨a,b,_⟩:=x;have ha:A7 a:=A4 hw.1.2;have hb:A7 b:=A4 hw.2.1.2;change List Int at a b;obtain⟨la,lb⟩:a.length<=8796093022208/\b.length<=8796093022208:=hp;have n2:=D3 hb;simp only[Wi];refine⟨by show b.length<=35184372088832;omega, ?_⟩;rintro⟨d,_⟩ _ hd;simp only at hd⊢;have hdv:nv d=nv b:=by rw[hd,E8]
 have hdl:d.length<=b.length:=by rw[hd];exact n2
 refine⟨fun h=> ?_,fun h=> ?_⟩
 . have h:=of_decide_eq_true h;have h0:nv b=0:=by rw[<-hdv,List.eq_nil_of_length_eq_zero (l:=d) (by omega)];rfl
   exact⟨fun _=>by trivial,fun h1=>absurd h0 h1⟩
 have h:=of_decide_eq_false h;have hb0:nv b≠0:=fun e=>h (by rw[hd,e,L9];rfl)
 refine⟨by show a.length<=35184372088832;omega, ?_⟩;rintro⟨u,su,_⟩ ⟨hu64,_⟩ ⟨u1,u2⟩;refine⟨by show d.length<=35184372088832;omega, ?_⟩;rintro⟨v,sv,_⟩ _ ⟨v1,v2⟩;change Int at u v;change Bool at su sv;simp only at u1 u2 v1 v2 hu64⊢;rw[hdv]at v1 v2;refine⟨fun hs=> ?_,fun _=> ?_⟩
 . rw[J1,Bool.and_eq_true]at hs;have a1:nv a<18446744073709551616:=by
    rcases Nat.lt_or_ge (nv a) 18446744073709551616 with h1|h1
    . exact h1
    . rw[u2 h1]at hs;exact absurd hs.1 (by decide)
   have a2:nv b<18446744073709551616:=by
    rcases Nat.lt_or_ge (nv b) 18446744073709551616 with h1|h1
    . exact h1
    . rw[v2 h1]at hs;exact absurd hs.2 (by decide)
   have hu:=(u1 a1).1;have hv:=(v1 a2).1;have e1:Int.tdiv u v=((nv a/nv b:Nat):Int):=by rw[hu,hv];rfl
   have e2:Int.tmod u v=((nv a%nv b:Nat):Int):=by rw[hu,hv];rfl
   have hq:nv a/nv b<=nv a:=Nat.div_le_self _ _;refine⟨by omega,by omega,trivial, ?_⟩;rintro⟨q,_⟩ _ hq';refine⟨trivial, ?_⟩;rintro⟨m,_⟩ _ hm;simp only at hq' hm⊢;refine⟨fun h0=>absurd h0 hb0,fun _=>⟨?_, ?_,by trivial⟩⟩
   . rw[hq',e1];generalize nv a/nv b=Q at*;rw[R5 (by omega) (by omega)];rfl
   . rw[hm,e2];rfl
 . refine⟨⟨by omega,Int.le_refl _,by omega,by omega⟩,by show a.length<=17592186044416;omega, ?_⟩;rintro⟨n,_⟩ _ hn;change Int at n;simp only at hn⊢;have hbl:=dH ha;have hNlt:=SP (nv a);rw[hn,wr (a:=(I3 (nv a):Int)-1) (by omega) (by omega)];clear hn u1 u2 v1 v2 hu64;refine⟨fun p=> -1<=p.2.1/\p.2.1<=(I3 (nv a):Int)-1/\p.1=nc (nv a/2^(p.2.1+1).toNat%nv b)/\nv p.2.2.1=nv a/2^(p.2.1+1).toNat/nv b*2^(p.2.1+1).toNat/\p.2.2.1.length=a.length,fun p=>(p.2.1+1).toNat,⟨by show(-1:Int)<=(I3 (nv a):Int)-1;omega,Int.le_refl _, ?_, ?_, ?_⟩, ?_⟩
   . show []= _;rw[show(((I3 (nv a):Int)-1)+1).toNat=I3 (nv a)from by omega,Nat.div_eq_of_lt hNlt,Nat.zero_mod,L9]
   . show nv (List.replicate _ 0)= _;rw[Ld,show(((I3 (nv a):Int)-1)+1).toNat=I3 (nv a)from by omega,Nat.div_eq_of_lt hNlt,Nat.zero_div,Nat.zero_mul]
   . show(List.replicate _ 0).length= _;simp
   rintro⟨r,i,q,_⟩ ⟨_,_,hwq,_⟩ ⟨i0,i1,hr,hq,hql⟩;change List Int at r q;change Int at i;have hqL:A7 q:=A4 hwq.2;simp only at i0 i1 hr hq hql⊢;refine⟨fun hi=> ?_,fun hi=> ?_⟩
   . have hi:=of_decide_eq_true hi;obtain⟨b0,b1,b2⟩:=jL (a:=nv a) (b:=nv b) (i:=i.toNat) hb0;rw[show(i+1).toNat=i.toNat+1 from by omega]at hr hq;have hrlt:nv a/2^(i.toNat+1)%nv b<nv b:=Nat.mod_lt _ (Nat.pos_of_ne_zero hb0);have hbit:nv a/2^i.toNat%2<2:=Nat.mod_lt _ (by decide);have hrv:nv r=nv a/2^(i.toNat+1)%nv b:=by rw[hr,E8]
     rw[<-hrv]at b1 b2 hrlt;have hrl:r.length<=8796093022208:=by
      have:=I2 (Nat.le_of_lt hrlt);rw[hrv, <-hr]at this;omega
     have hrr:r=nc (nv r):=by rw[hrv];exact hr
     clear hr hrv;generalize hM:nv a/2^(i.toNat+1)/nv b=M at*;generalize hbt:nv a/2^i.toNat%2=bt at*;have e1:IntKind.i64.wrap (Int.tdiv i 32)=((i.toNat/32:Nat):Int):=by
      rw[Int.tdiv_eq_ediv_of_nonneg hi,wr (by omega) (by omega)];omega
     have e2:IntKind.u64.wrap (Int.tmod i 32)=((i.toNat%32:Nat):Int):=by
      rw[Int.tmod_eq_emod_of_nonneg hi,R5 (by omega) (by omega)];omega
     have h5:i.toNat%32<=31:=by omega
     have hil:i.toNat/32<q.length:=by omega
     rw[e1,e2,wr (a:=i-1) (by omega) (by omega)];refine⟨fun p=>p.1=nc (nv a/2^i.toNat%nv b)/\nv p.2.1=nv a/2^i.toNat/nv b*2^i.toNat/\p.2.1.length=a.length,⟨⟨by show r.length<= _;omega,by show r.length<= _;omega⟩, ?_⟩, ?_⟩
     . rintro⟨r2,_⟩ _ hr2;simp only at hr2⊢;have l2:r2.length<=8796093022209:=by
        have:=DN (nv r) (nv r);rw[hr2];rw[<-hrr]at this;omega
       refine⟨fun p=>p.1=nc (2*nv r+bt),⟨hi, ?_⟩, ?_⟩
       . rintro⟨z,_⟩ _ hz;simp only at hz⊢;refine⟨fun h1=> ?_,fun h1=> ?_⟩
         . have h1:=of_decide_eq_true h1;refine⟨⟨by show r2.length<= _;omega,by show([1]:List Int).length<= _;decide⟩, ?_⟩;rintro⟨r3,_⟩ _ hr3;simp only at hr3⊢;rw[hr3,hr2,E8,A3d];congr 1;omega
         . have h1:=of_decide_eq_false h1;show r2= _;rw[hr2];congr 1;omega
       rintro⟨r3,_⟩ _ hr3;simp only at hr3⊢;have hr3v:nv r3=2*nv r+bt:=by rw[hr3,E8]
       have l3:r3.length<=8796093022210:=by
        have e:2*nv r+bt<=(nv r+nv r)+(nv r+nv r)\/nv r=0:=by omega
        rw[hr3];rcases e with e|e
        . have a1:=I2 e;have a2:=DN (nv r+nv r) (nv r+nv r);rw[<-hr2]at a2;omega
        . have a1:=I2 (m:=2*nv r+bt) (n:=1) (by omega);rw[Ra]at a1;have:([1]:List Int).length=1:=rfl;omega
       refine⟨⟨by show r3.length<= _;omega,by show d.length<= _;omega⟩, ?_⟩;rintro⟨r5,ok,_⟩ _ hr5;change Bool at ok;simp only at hr5⊢;rw[hr3v,hdv]at hr5;refine⟨fun hok=> ?_,fun hok=> ?_⟩
       . have hge:nv b<=2*nv r+bt:=by
          rcases Nat.lt_or_ge (2*nv r+bt) (nv b)with h1|h1
          . rw[(hr5.1 h1).2]at hok;exact absurd hok (by decide)
          . exact h1
         rw[if_pos hge]at b1 b2;obtain⟨bb,s1,s2⟩:=A0j (q:=q) hqL (M:=M) (i:=i.toNat) hq hil;have hd32:=K3 hqL (i.toNat/32);obtain⟨o1,o2⟩:=mS (d:=dg q (i.toNat/32)) (b:=bb) (s:=i.toNat%32) s1 (by omega) h5;refine⟨by decide,⟨by omega,by omega⟩,by decide,Int.natCast_nonneg _,⟨by omega,by omega⟩, ?_, ?_, ?_⟩
         . show r5= _;rw[(hr5.2 hge).1,b2]
         . show nv (q.set _ _)= _;rw[Int.toNat_natCast,Int.toNat_natCast,show Min.min (i.toNat%32) IntKind.u32.bits=i.toNat%32 from by show Min.min (i.toNat%32) 32= _;omega];rw[S7 hqL,Int.one_mul,show((2:Int)^(i.toNat%32))=((2^(i.toNat%32):Nat):Int)from by rw[Int.natCast_pow];rfl];have hp2:2^(i.toNat%32)<=2^31:=Nat.pow_le_pow_right (by decide) h5;have hp0:(0:Int)<=((2^(i.toNat%32):Nat):Int):=Int.natCast_nonneg _;rw[iS (a:=((2^(i.toNat%32):Nat):Int)) (by omega) (by omega),show IntKind.u32.bits=32 from rfl,o1,iS (by omega) (by omega),s2,b1]
         . show(q.set _ _).length= _;rw[List.length_set];exact hql
       . have hlt:2*nv r+bt<nv b:=by
          rcases Nat.lt_or_ge (2*nv r+bt) (nv b)with h1|h1
          . exact h1
          . rw[(hr5.2 h1).2]at hok;exact absurd hok (by decide)
         rw[if_neg (by omega)]at b1 b2;refine⟨?_, ?_,hql⟩
         . show r3= _;rw[hr3,b2,Nat.sub_zero]
         . show nv q= _;rw[hq,b1,Nat.add_zero,Nat.pow_succ];grind
     . rintro⟨r',q',_⟩ _ ⟨j1,j2,j3⟩;simp only at j1 j2 j3⊢;refine⟨⟨by omega,by omega, ?_, ?_,j3⟩,by omega⟩
       . rw[show i-1+1=i from by omega];exact j1
       . rw[show i-1+1=i from by omega];exact j2
   . have hi:=of_decide_eq_false hi;rw[show(i+1).toNat=0 from by omega,Nat.pow_zero,Nat.div_one]at hr hq;rw[Nat.mul_one]at hq;have hrl:r.length<=8796093022208:=by
      have:=I2 (Nat.le_of_lt (Nat.mod_lt (nv a) (Nat.pos_of_ne_zero hb0)));rw[<-hr]at this;omega
     refine⟨by show q.length<= _;omega, ?_⟩;rintro⟨q',_⟩ _ hq';refine⟨by show r.length<= _;omega, ?_⟩;rintro⟨r',_⟩ _ hr';simp only at hq' hr'⊢;refine⟨fun h=>absurd h hb0,fun _=>⟨by rw[hq',hq],by rw[hr',hr,E8],by trivial⟩⟩
theorem OH (x:A5 Lq.args) (hw:awf Lq.args x) (hp:Lq.pre x):LZ x:=by
 obtain⟨a,b,_⟩:=x;have ha:A7 a:=A4 hw.1.2;have hb:A7 b:=A4 hw.2.1.2;change List Int at a b;obtain⟨la,lb⟩:a.length<=8796093022208/\b.length<=8796093022208:=hp;have n1:=D3 ha;have n2:=D3 hb;simp only[LZ];refine⟨by show a.length<=35184372088832;omega, ?_⟩;rintro⟨r,_⟩ _ hr;refine⟨by show b.length<=35184372088832;omega, ?_⟩;rintro⟨s,_⟩ _ hs;simp only at hr hs⊢;refine⟨fun p=>p.1=nc (nv p.1)/\p.2.1=nc (nv p.2.1)/\Nat.gcd (nv p.1) (nv p.2.1)=Nat.gcd (nv a) (nv b)/\p.1.length<=8796093022208/\p.2.1.length<=8796093022208,fun p=>nv p.2.1,⟨by show r=nc (nv r);rw[hr,E8],by show s=nc (nv s);rw[hs,E8],by show Nat.gcd (nv r) (nv s)= _;rw[hr,hs,E8,E8],by show r.length<= _;rw[hr];omega,by show s.length<= _;rw[hs];omega⟩, ?_⟩;rintro⟨u,v,_⟩ _ ⟨e1,e2,hg,l1,l2⟩;change List Int at u v;simp only at e1 e2 hg l1 l2⊢;refine⟨fun h=> ?_,fun h=> ?_⟩
 . have h:=of_decide_eq_true h;have hv0:0<nv v:=by
    rcases Nat.eq_zero_or_pos (nv v)with h1|h1
    . rw[h1,L9]at e2;rw[e2]at h;exact absurd h (by simp)
    . exact h1
   refine⟨⟨l1,l2⟩, ?_⟩;rintro⟨q,m,ok,_⟩ _ hqm;simp only at hqm⊢;obtain⟨_,hm,_⟩:=hqm.2 (by omega);have hmv:nv m=nv u%nv v:=by rw[hm,E8]
   have hml:=Nat.mod_lt (nv u) hv0;refine⟨⟨e2,by rw[hmv];exact hm, ?_,l2, ?_⟩,by rw[hmv];exact hml⟩
   . rw[hmv, <-hg,Nat.gcd_comm (nv u),Nat.gcd_comm (nv v)];exact(Nat.gcd_rec (nv v) (nv u)).symm
   . have:=I2 (Nat.le_of_lt hml);rw[<-hm, <-e2]at this;omega
 . have h:=of_decide_eq_false h;have h0:nv v=0:=by rw[List.eq_nil_of_length_eq_zero (l:=v) (by omega)];rfl
   rw[h0,Nat.gcd_zero_right]at hg;rw[e1,hg]
def VQ:An:= {}
def VR:An:= {}
def SH:An:= {}
def IF:An:= {}
def VS:An:= {}
def aF:An:= {}
def aA:An:= {}
def aB:An:= {plan:= [(2,[1,3,5],[8],true, .done)]}
def aG:An:= {plan:= [(1,[0,1],[4],true, .done)]}
def aD:An:= {plan:= [(1,[1,3,6,8],[11],true, .done)]}
def aC:An:= {}
def NM:An:= {join:= [(10,⟨[4,5],[],[],[(2,44,[.val .bool, .val (.sl (.int .u32))]),(3,44,[.val .bool, .val (.sl (.int .u32))])],[]⟩)],plan:= [(4,[1,3,8],[11,12],true, .done),(6,[0,1],[4],true, .done),(8,[0],[3],true, .done),(9,[0],[3],true, .done),(10,[0],[2,3],false, .done)]}
def FN:A5 Hs.args->Prop:=fun(x:Bool×List Int×Unit)=>Dw x.2.1/\∀(r:List Int×Unit),J0 r.1/\True->r.1=nc (nv x.2.1)->(E5 x.1 (decide ((0:Int)<(r.1.length:Int))) false,r.1)=ic (iv (x.1,x.2.1))
def FO:A5 Ht.args->Prop:=fun(x:(Bool×List Int)×Unit)=>Dw x.1.2/\∀(r:(Bool×List Int)×Unit),G2 r.1/\True->r.1=ic (iv x.1)->r.1=ic (iv x.1)
def BB:A5 Ff.args->Prop:=fun(x:(Bool×List Int)×(Bool×List Int)×Unit)=>((x.1.1==x.2.1.1)=true->True)/\∀(r:Bool×Unit),((x.1.1==x.2.1.1)=true->(True/\True)/\r.1=decide (x.1.2=x.2.1.2))->E5 (x.1.1==x.2.1.1) r.1 false=decide (x.1=x.2.1)
def Su:A5 Bs.args->Prop:=fun(x:Int×Unit)=>(decide (x.1<0)=true->True/\∀(r:List Int×Unit),J0 r.1/\True->r.1=nc (IntKind.u64.wrap (IntKind.u64.wrap (IntKind.i64.wrap (-IntKind.i64.wrap (x.1+1)))+(1:Int))).toNat->Dw r.1/\∀(a:(Bool×List Int)×Unit),G2 a.1/\True->a.1=ic (iv (true,r.1))->a.1=ic x.1)/\(decide (x.1<0)=false->True/\∀(r:List Int×Unit),J0 r.1/\True->r.1=nc (IntKind.u64.wrap x.1).toNat->Dw r.1/\∀(a:(Bool×List Int)×Unit),G2 a.1/\True->a.1=ic (iv (false,r.1))->a.1=ic x.1)
def FP:A5 Hu.args->Prop:=fun(x:(Bool×List Int)×Unit)=>Dw x.1.2/\∀(r:(Bool×List Int)×Unit),G2 r.1/\True->r.1=ic (iv x.1)->(r.1.1=true->(-1:Int)=(iv x.1).sign)/\(r.1.1=false->(decide ((r.1.2.length:Int)=(0:Int))=true->(0:Int)=(iv x.1).sign)/\(decide ((r.1.2.length:Int)=(0:Int))=false->(1:Int)=(iv x.1).sign))
def MJ:A5 Ly.args->Prop:=fun(x:(Bool×List Int)×Unit)=>Dw x.1.2/\∀(r:(Bool×List Int)×Unit),G2 r.1/\True->r.1=ic (iv (!x.1.1,x.1.2))->r.1=ic (-iv x.1)
def ME:A5 Lu.args->Prop:=fun(x:(Bool×List Int)×Unit)=>Dw x.1.2/\∀(r:(Bool×List Int)×Unit),G2 r.1/\True->r.1=ic (iv (false,x.1.2))->r.1=ic (↑(iv x.1).natAbs:Int)
def MF:A5 Lv.args->Prop:=fun(x:(Bool×List Int)×(Bool×List Int)×Unit)=>((x.1.1==x.2.1.1)=true->(E3 x.1.2/\E3 x.2.1.2)/\∀(r:List Int×Unit),J0 r.1/\True->r.1=nc (nv x.1.2+nv x.2.1.2)->Dw r.1/\∀(a:(Bool×List Int)×Unit),G2 a.1/\True->a.1=ic (iv (x.1.1,r.1))->a.1=ic (iv x.1+iv x.2.1))/\((x.1.1==x.2.1.1)=false->(E3 x.1.2/\E3 x.2.1.2)/\∀(r:List Int×Bool×Unit),J0 r.1/\True/\True->(nv x.1.2<nv x.2.1.2->r.1= []/\r.2.1=false)/\(nv x.2.1.2<=nv x.1.2->r.1=nc (nv x.1.2-nv x.2.1.2)/\r.2.1=true)->(r.2.1=true->Dw r.1/\∀(a:(Bool×List Int)×Unit),G2 a.1/\True->a.1=ic (iv (x.1.1,r.1))->a.1=ic (iv x.1+iv x.2.1))/\(r.2.1=false->(E3 x.2.1.2/\E3 x.1.2)/\∀(r:List Int×Bool×Unit),J0 r.1/\True/\True->(nv x.2.1.2<nv x.1.2->r.1= []/\r.2.1=false)/\(nv x.1.2<=nv x.2.1.2->r.1=nc (nv x.2.1.2-nv x.1.2)/\r.2.1=true)->Dw r.1/\∀(a:(Bool×List Int)×Unit),G2 a.1/\True->a.1=ic (iv (x.2.1.1,r.1))->a.1=ic (iv x.1+iv x.2.1)))
def MN:A5 Lz.args->Prop:=fun(x:(Bool×List Int)×(Bool×List Int)×Unit)=>Dw x.2.1.2/\∀(r:(Bool×List Int)×Unit),G2 r.1/\True->r.1=ic (-iv x.2.1)->(E3 x.1.2/\E3 r.1.2)/\∀(a:(Bool×List Int)×Unit),G2 a.1/\True->a.1=ic (iv x.1+iv r.1)->a.1=ic (iv x.1-iv x.2.1)
def MI:A5 Lx.args->Prop:=fun(x:(Bool×List Int)×(Bool×List Int)×Unit)=>(E3 x.1.2/\E3 x.2.1.2)/\∀(r:List Int×Unit),J0 r.1/\True->r.1=nc (nv x.1.2*nv x.2.1.2)->Dw r.1/\∀(a:(Bool×List Int)×Unit),G2 a.1/\True->a.1=ic (iv (x.1.1 !=x.2.1.1,r.1))->a.1=ic (iv x.1*iv x.2.1)
def MG:A5 Lw.args->Prop:=fun(x:(Bool×List Int)×(Bool×List Int)×Unit)=>(S0 x.1.2/\S0 x.2.1.2)/\∀(r:List Int×Unit),J0 r.1/\True->r.1=nc ((nv x.1.2).gcd (nv x.2.1.2))->Dw r.1/\∀(a:(Bool×List Int)×Unit),G2 a.1/\True->a.1=ic (iv (false,r.1))->a.1=ic (↑((nv x.1.2).gcd (nv x.2.1.2)):Int)
def Wk:A5 Dj.args->Prop:=fun(x:(Bool×List Int)×(Bool×List Int)×Unit)=>(S0 x.1.2/\S0 x.2.1.2)/\∀(r:List Int×List Int×Bool×Unit),J0 r.1/\J0 r.2.1/\True/\True->(nv x.2.1.2=0->r.2.2.1=false)/\(nv x.2.1.2≠0->r.1=nc (nv x.1.2/nv x.2.1.2)/\r.2.1=nc (nv x.1.2%nv x.2.1.2)/\r.2.2.1=true)->((!r.2.2.1)=true->iv x.2.1≠0->(false,[])=ic (iv x.1/iv x.2.1)/\(false,[])=ic (iv x.1%iv x.2.1)/\false=true)/\((!r.2.2.1)=false->Dw r.1/\∀(b:(Bool×List Int)×Unit),G2 b.1/\True->b.1=ic (iv (x.1.1 !=x.2.1.1,r.1))->Dw r.2.1/\∀(c:(Bool×List Int)×Unit),G2 c.1/\True->c.1=ic (iv (x.1.1,r.2.1))->∃(J:Bool×List Int×Bool×List Int×Unit->Prop),((c.1.1=true->Dw x.2.1.2/\∀(r:(Bool×List Int)×Unit),G2 r.1/\True->r.1=ic (↑(iv x.2.1).natAbs:Int)->(E3 c.1.2/\E3 r.1.2)/\∀(d:(Bool×List Int)×Unit),G2 d.1/\True->d.1=ic (iv c.1+iv r.1)->(x.2.1.1=true->True/\∀(r:(Bool×List Int)×Unit),G2 r.1/\True->r.1=ic (1:Int)->(E3 b.1.2/\E3 r.1.2)/\∀(a:(Bool×List Int)×Unit),G2 a.1/\True->a.1=ic (iv b.1+iv r.1)->J (a.1.1,a.1.2,d.1.1,d.1.2,()))/\(x.2.1.1=false->True/\∀(r:(Bool×List Int)×Unit),G2 r.1/\True->r.1=ic (1:Int)->(E3 b.1.2/\E3 r.1.2)/\∀(a:(Bool×List Int)×Unit),G2 a.1/\True->a.1=ic (iv b.1-iv r.1)->J (a.1.1,a.1.2,d.1.1,d.1.2,())))/\(c.1.1=false->J (b.1.1,b.1.2,c.1.1,c.1.2,())))/\∀(p:Bool×List Int×Bool×List Int×Unit),Ty.bool.wf p.1/\(Ty.int IntKind.u32).sl.wf p.2.1/\Ty.bool.wf p.2.2.1/\(Ty.int IntKind.u32).sl.wf p.2.2.2.1/\True->J p->(iv x.2.1≠0->(p.1,p.2.1)=ic (iv x.1/iv x.2.1)/\(p.2.2.1,p.2.2.2.1)=ic (iv x.1%iv x.2.1)/\true=true)/\(iv x.2.1≠0->(p.1,p.2.1)=ic (iv x.1/iv x.2.1)/\(p.2.2.1,p.2.2.2.1)=ic (iv x.1%iv x.2.1)/\true=true))
theorem MH (x:A5 Hs.args) (hw:awf Hs.args x) (hp:Hs.pre x):FN x:=by
 obtain⟨b,l,_⟩:=x;change Bool at b;change List Int at l;have hl:l.length<=35184372088832:=hp;simp only[FN];refine⟨by omega, ?_⟩;rintro⟨r,_⟩ _ hr;simp only at hr⊢;rw[A4w,hr,J1];have e:decide ((0:Int)<((nc (nv l)).length:Int))=decide (nv l≠0):=by
  rw[decide_eq_decide];constructor
  . intro h h0;rw[h0,L9]at h;simp at h
  . intro h;have:(nc (nv l)).length≠0:=fun h1=>h (Qz.1 (List.eq_nil_of_length_eq_zero h1))
    omega
 rw[e]
theorem MK (x:A5 Ht.args) (hw:awf Ht.args x) (hp:Ht.pre x):FO x:=by
 simp only[FO];exact⟨hp,fun r _ h=>h⟩
theorem GY (x:A5 Ff.args) (hw:awf Ff.args x) (hp:Ff.pre x):BB x:=by
 obtain⟨⟨a,l⟩,⟨b,m⟩,_⟩:=x;change Bool at a b;change List Int at l m;simp only[BB];refine⟨fun _=>trivial, ?_⟩;rintro⟨r,_⟩ hr;simp only at hr⊢;by_cases h:a=b
 . subst h;have:=(hr (by simp)).2;rw[this];simp[E5]
 . have:(a==b)=false:=by simpa using h
   rw[this];simp[E5,h]
theorem BC (x:A5 Bs.args) (hw:awf Bs.args x) (_:Bs.pre x):Su x:=by
 obtain⟨v,_⟩:=x;change Int at v;have hv:IntKind.i64.min<=v/\v<=IntKind.i64.max:=hw.1;rw[Mx,Tv]at hv;have hs:∀n:Nat,n<=9223372036854775808->Dw (nc n):=fun n hn=>by
  have:(nc n).length<=2:=Ct (by omega);show _ <=35184372088832;omega
 simp only[Su];refine⟨fun h=>⟨trivial, ?_⟩,fun h=>⟨trivial, ?_⟩⟩
 . have h:=of_decide_eq_true h;rintro⟨r,_⟩ _ hr;simp only at hr⊢;have e:(IntKind.u64.wrap (IntKind.u64.wrap (IntKind.i64.wrap (-IntKind.i64.wrap (v+1)))+1)).toNat=v.natAbs:=by
    rw[wr (a:=v+1) (by omega) (by omega),wr (by omega) (by omega),R5 (a:= -(v+1)) (by omega) (by omega),R5 (by omega) (by omega)];omega
   rw[e]at hr;subst hr;refine⟨hs _ (by omega), ?_⟩;rintro⟨s,_⟩ _ hs;simp only at hs⊢;rw[hs,JO,E8];congr 1;omega
 . have h:=of_decide_eq_false h;rintro⟨r,_⟩ _ hr;simp only at hr⊢;have e:(IntKind.u64.wrap v).toNat=v.natAbs:=by rw[Y3];omega
   rw[e]at hr;subst hr;refine⟨hs _ (by omega), ?_⟩;rintro⟨s,_⟩ _ hs;simp only at hs⊢;rw[hs,Kc,E8];congr 1;omega
theorem ML (x:A5 Hu.args) (hw:awf Hu.args x) (hp:Hu.pre x):FP x:=by
 obtain⟨a,_⟩:=x;simp only[FP];refine⟨hp, ?_⟩;rintro⟨r,_⟩ _ hr;simp only at hr⊢;subst hr;generalize iv a=v;refine⟨fun h=> ?_,fun h=>⟨fun h2=> ?_,fun h2=> ?_⟩⟩
 . have h:v<0:=of_decide_eq_true h;exact(Int.sign_eq_neg_one_of_neg h).symm
 . have h2:=of_decide_eq_true h2;have:nc v.natAbs= []:=List.eq_nil_of_length_eq_zero (by show(ic v).2.length=0;omega);rw[Qz]at this;rw[show v=0 from by omega];rfl
 . have h:¬v<0:=of_decide_eq_false h;have h2:=of_decide_eq_false h2;have:v≠0:=fun h0=>h2 (by rw[h0,TL];rfl)
   exact(Int.sign_eq_one_of_pos (by omega)).symm
theorem OP (x:A5 Ly.args) (hw:awf Ly.args x) (hp:Ly.pre x):MJ x:=by
 obtain⟨⟨b,l⟩,_⟩:=x;simp only[MJ];refine⟨hp, ?_⟩;rintro⟨r,_⟩ _ hr;simp only at hr⊢;rw[hr,lR]
theorem OM (x:A5 Lv.args) (hw:awf Lv.args x) (hp:Lv.pre x):MF x:=by
 obtain⟨⟨a,l⟩,⟨b,m⟩,_⟩:=x;have hl:A7 l:=A4 hw.1.2.2;have hm:A7 m:=A4 hw.2.1.2.2;change Bool at a b;change List Int at l m;obtain⟨p1,p2⟩:l.length<=17592186044416/\m.length<=17592186044416:=hp;have q1:E3 l:=by omega
 have q2:E3 m:=by omega
 have n1:=D3 hl;have n2:=D3 hm;have n3:=DN (nv l) (nv m);simp only[MF];refine⟨fun h=>⟨⟨q1,q2⟩, ?_⟩,fun h=>⟨⟨q1,q2⟩, ?_⟩⟩
 . have h:a=b:=by simpa using h
   subst h;rintro⟨r,_⟩ _ hr;simp only at hr⊢;subst hr;refine⟨by omega, ?_⟩;rintro⟨s,_⟩ _ hs;simp only at hs⊢;rw[hs];congr 1;cases a
   . simp only[Kc,E8];omega
   . simp only[JO,E8];omega
 . have h:a≠b:=by simpa using h
   rintro⟨r,ok,_⟩ _ ⟨h1,h2⟩;change Bool at ok;simp only at h1 h2⊢;refine⟨fun hok=> ?_,fun hok=>⟨⟨q2,q1⟩, ?_⟩⟩
   . have hge:nv m<=nv l:=by
      rcases Nat.lt_or_ge (nv l) (nv m)with h3|h3
      . rw[(h1 h3).2]at hok;cases hok
      . exact h3
     rw[(h2 hge).1];have:=I2 (show nv l-nv m<=nv l by omega);refine⟨by omega, ?_⟩;rintro⟨s,_⟩ _ hs;simp only at hs⊢;rw[hs];congr 1;cases a<;>cases b<;>simp only[JO,Kc,E8]<;>first|omega|exact absurd rfl h
   . have hlt:nv l<nv m:=by
      rcases Nat.lt_or_ge (nv l) (nv m)with h3|h3
      . exact h3
      . rw[(h2 h3).2]at hok;cases hok
     rintro⟨r2,ok2,_⟩ _ ⟨_,h4⟩;simp only at h4⊢;rw[(h4 (by omega)).1];have:=I2 (show nv m-nv l<=nv m by omega);refine⟨by omega, ?_⟩;rintro⟨s,_⟩ _ hs;simp only at hs⊢;rw[hs];congr 1;cases a<;>cases b<;>simp only[JO,Kc,E8]<;>first|omega|exact absurd rfl h
theorem OO (x:A5 Lx.args) (hw:awf Lx.args x) (hp:Lx.pre x):MI x:=by
 obtain⟨⟨a,l⟩,⟨b,m⟩,_⟩:=x;have hl:A7 l:=A4 hw.1.2.2;have hm:A7 m:=A4 hw.2.1.2.2;change Bool at a b;change List Int at l m;obtain⟨p1,p2⟩:l.length<=17592186044416/\m.length<=17592186044416:=hp;have n1:=D3 hl;have n2:=D3 hm;have n3:=Kd (nv l) (nv m);simp only[MI];refine⟨⟨by omega,by omega⟩, ?_⟩;rintro⟨r,_⟩ _ hr;simp only at hr⊢;subst hr;refine⟨by omega, ?_⟩;rintro⟨s,_⟩ _ hs;simp only at hs⊢;rw[hs];congr 1;cases a<;>cases b<;>simp[JO,Kc,E8,Int.natCast_mul,Int.neg_mul,Int.mul_neg]
theorem OL (x:A5 Lu.args) (hw:awf Lu.args x) (hp:Lu.pre x):ME x:=by
 obtain⟨⟨b,l⟩,_⟩:=x;simp only[ME];refine⟨hp, ?_⟩;rintro⟨r,_⟩ _ hr;simp only at hr⊢;rw[hr,J4,Kc]
theorem OQ (x:A5 Lz.args) (hw:awf Lz.args x) (hp:Lz.pre x):MN x:=by
 obtain⟨a,b,_⟩:=x;have hb:A7 b.2:=A4 hw.2.1.2.2;change Iu at a b;obtain⟨p1,p2⟩:a.2.length<=17592186044416/\b.2.length<=17592186044416:=hp;have n2:=D3 hb;simp only[MN];refine⟨by show b.2.length<=35184372088832;omega, ?_⟩;rintro⟨r,_⟩ _ hr;simp only at hr⊢;refine⟨⟨p1,by show r.2.length<= _;rw[hr,Cr,Int.natAbs_neg,J4];omega⟩, ?_⟩;rintro⟨s,_⟩ _ hs;simp only at hs⊢;rw[hs,hr,U9, <-Int.sub_eq_add_neg]
theorem ON (x:A5 Lw.args) (hw:awf Lw.args x) (hp:Lw.pre x):MG x:=by
 obtain⟨a,b,_⟩:=x;have ha:A7 a.2:=A4 hw.1.2.2;have hb:A7 b.2:=A4 hw.2.1.2.2;change Iu at a b;obtain⟨p1,p2⟩:a.2.length<=8796093022208/\b.2.length<=8796093022208:=hp;have n1:=D3 ha;have n2:=D3 hb;simp only[MG];refine⟨⟨p1,p2⟩, ?_⟩;rintro⟨r,_⟩ _ hr;simp only at hr⊢;have hl:r.length<=8796093022209:=by
  rw[hr];rcases Nat.eq_zero_or_pos (nv a.2)with h|h
  . rw[h,Nat.gcd_zero_left];omega
  . have:=I2 (Nat.le_of_dvd h (Nat.gcd_dvd_left (nv a.2) (nv b.2)));omega
 refine⟨by show r.length<=35184372088832;omega, ?_⟩;rintro⟨s,_⟩ _ hs;simp only at hs⊢;rw[hs,Kc,hr,E8]
theorem ES (x:A5 Dj.args) (hw:awf Dj.args x) (hp:Dj.pre x):Wk x:=by
 obtain⟨⟨sa,a⟩,⟨sb,b⟩,_⟩:=x;have ha:A7 a:=A4 hw.1.2.2;have hb:A7 b:=A4 hw.2.1.2.2;change Bool at sa sb;change List Int at a b;obtain⟨p1,p2⟩:a.length<=8796093022208/\b.length<=8796093022208:=hp;have n1:=D3 ha;have n2:=D3 hb;simp only[Wk];refine⟨⟨p1,p2⟩, ?_⟩;rintro⟨q,m,ok,_⟩ _ ⟨z1,z2⟩;change Bool at ok;simp only at z1 z2⊢;refine⟨fun h hne=> ?_,fun h=> ?_⟩
 . have hb0:nv b≠0:=fun e=>hne (by unfold iv;simp[e])
   rw[(z2 hb0).2.2]at h;exact absurd h (by decide)
 have hb0:nv b≠0:=fun e=>by rw[z1 e]at h;exact absurd h (by decide)
 obtain⟨hq,hm,_⟩:=z2 hb0;have lq:q.length<=8796093022208:=by
  have:=I2 (Nat.div_le_self (nv a) (nv b));rw[hq];omega
 have lm:m.length<=8796093022208:=by
  have:=I2 (Nat.le_of_lt (Nat.mod_lt (nv a) (Nat.pos_of_ne_zero hb0)));rw[hm];omega
 have vq:nv q=nv a/nv b:=by rw[hq,E8]
 have vm:nv m=nv a%nv b:=by rw[hm,E8]
 obtain⟨c1,c2⟩:=A2h (sa:=sa) (sb:=sb) (A:=nv a) (B:=nv b) hb0 (a:=iv (sa,a)) (b:=iv (sb,b)) (q:=iv (sa !=sb,q)) (m:=iv (sa,m)) rfl rfl (by rw[<-vq];rfl) (by rw[<-vm];rfl);refine⟨by show q.length<=35184372088832;omega, ?_⟩;rintro⟨Q,_⟩ _ hQ;refine⟨by show m.length<=35184372088832;omega, ?_⟩;rintro⟨M,_⟩ _ hM;simp only at hQ hM⊢;have lQ:Q.2.length<=8796093022208:=by
  have:(nc (nv q)).length=q.length:=by rw[vq, <-hq]
  rw[hQ,Cr,J4];show(nc (nv q)).length<= _;omega
 have lM:M.2.length<=8796093022208:=by
  have:(nc (nv m)).length=m.length:=by rw[vm, <-hm]
  rw[hM,Cr,J4];show(nc (nv m)).length<= _;omega
 refine⟨fun p=>(p.1,p.2.1)=ic (iv (sa,a)/iv (sb,b))/\(p.2.2.1,p.2.2.2.1)=ic (iv (sa,a)%iv (sb,b)),⟨fun h1=> ?_,fun h1=> ?_⟩, ?_⟩
 . have h1:iv (sa,m)<0:=by rw[hM]at h1;exact of_decide_eq_true h1
   obtain⟨d1,d2,d3⟩:=c1 h1;refine⟨by show b.length<=35184372088832;omega, ?_⟩;rintro⟨B,_⟩ _ hB;simp only at hB⊢;rw[J4]at hB;have lB:B.2.length<=8796093022208:=by
    rw[hB,Cr,Int.natAbs_natCast];show(nc (nv b)).length<= _;omega
   refine⟨⟨by show M.2.length<= _;omega,by show B.2.length<= _;omega⟩, ?_⟩;rintro⟨R,_⟩ _ hR;simp only at hR⊢;have eR:R=ic (iv (sa,a)%iv (sb,b)):=by rw[hR,hM,hB,U9,U9,d1]
   refine⟨fun h2=>⟨trivial, ?_⟩,fun h2=>⟨trivial, ?_⟩⟩
   . rintro⟨o,_⟩ _ ho;simp only at ho⊢;refine⟨⟨by show Q.2.length<= _;omega,by show o.2.length<= _;rw[ho,bB];show 1<= _;decide⟩, ?_⟩;rintro⟨T,_⟩ _ hT;simp only at hT⊢;exact⟨by show T= _;rw[hT,hQ,ho,U9,U9,d2 h2],eR⟩
   . rintro⟨o,_⟩ _ ho;simp only at ho⊢;refine⟨⟨by show Q.2.length<= _;omega,by show o.2.length<= _;rw[ho,bB];show 1<= _;decide⟩, ?_⟩;rintro⟨T,_⟩ _ hT;simp only at hT⊢;exact⟨by show T= _;rw[hT,hQ,ho,U9,U9,d3 h2],eR⟩
 . have h1:¬iv (sa,m)<0:=by rw[hM]at h1;exact of_decide_eq_false h1
   obtain⟨d1,d2⟩:=c2 h1;exact⟨by show Q= _;rw[hQ,d2],by show M= _;rw[hM,d1]⟩
 . rintro⟨t1,t2,t3,t4,_⟩ _ ⟨j1,j2⟩;exact⟨fun _=>⟨j1,j2,by trivial⟩,fun _=>⟨j1,j2,by trivial⟩⟩
def VT:An:= {join:= [(11,⟨[4,7,10],[2],[],[(5,44,[.val .bool, .val (.sl (.int .u32))]),(7,44,[.val .bool, .val (.sl (.int .u32))])],[]⟩)],plan:= [(5,[0,3],[5],true, .done),(10,[0,2],[4,5],true, .done)]}
def VW:An:= {}
def VU:An:= {}
def SI:An:= {}
def BU:An:= {plan:= [(1,[0,1],[],true, .done)]}
def aI:An:= {}
def IG:An:= {}
def fL:An:= {}
def VV:An:= {}
def FQ:A5 Hv.args->Prop:=fun(x:(Bool×List Int)×(Bool×List Int)×Unit)=>Dw x.2.1.2/\∀(r:Int×Unit),L4 r.1/\True->r.1=(iv x.2.1).sign->(decide (r.1=0)=true->True/\∀(r:QQ×Unit),U7 r.1/\True->r.1=rc (0:Rat)->r.1=rc (Cp x.1 x.2.1))/\(decide (r.1=0)=false->Dw x.2.1.2/\∀(r:(Bool×List Int)×Unit),G2 r.1/\True->r.1=ic (iv x.2.1)->((!r.1.1)=true->True)/\∀(d:Bool×Unit),((!r.1.1)=true->(True/\True)/\d.1=decide (r.1.2= [(1:Int)]))->(E5 (!r.1.1) d.1 false=true->Dw x.1.2/\∀(a:(Bool×List Int)×Unit),G2 a.1/\True->a.1=ic (iv x.1)->(a.1,r.1.2)=rc (Cp x.1 x.2.1))/\(E5 (!r.1.1) d.1 false=false->(S0 x.1.2/\S0 x.2.1.2)/\∀(r:(Bool×List Int)×Unit),G2 r.1/\True->r.1=ic (↑((nv x.1.2).gcd (nv x.2.1.2)):Int)->(S0 x.1.2/\S0 r.1.2)/\∀(a:(Bool×List Int)×(Bool×List Int)×Bool×Unit),G2 a.1/\G2 a.2.1/\True/\True->(iv r.1≠0->a.1=ic (iv x.1/iv r.1)/\a.2.1=ic (iv x.1%iv r.1)/\a.2.2.1=true)->(S0 x.2.1.2/\S0 r.1.2)/\∀(b:(Bool×List Int)×(Bool×List Int)×Bool×Unit),G2 b.1/\G2 b.2.1/\True/\True->(iv r.1≠0->b.1=ic (iv x.2.1/iv r.1)/\b.2.1=ic (iv x.2.1%iv r.1)/\b.2.2.1=true)->∃(J:Bool×List Int×Bool×List Int×Unit->Prop),((b.1.1=true->Dw a.1.2/\∀(r:(Bool×List Int)×Unit),G2 r.1/\True->r.1=ic (-iv a.1)->Dw b.1.2/\∀(c:(Bool×List Int)×Unit),G2 c.1/\True->c.1=ic (-iv b.1)->J (r.1.1,r.1.2,c.1.1,c.1.2,()))/\(b.1.1=false->J (a.1.1,a.1.2,b.1.1,b.1.2,())))/\∀(p:Bool×List Int×Bool×List Int×Unit),Ty.bool.wf p.1/\(Ty.int IntKind.u32).sl.wf p.2.1/\Ty.bool.wf p.2.2.1/\(Ty.int IntKind.u32).sl.wf p.2.2.2.1/\True->J p->((p.1,p.2.1),p.2.2.2.1)=rc (Cp x.1 x.2.1)))
def FU:A5 Hy.args->Prop:=fun(x:Unit)=>((false,[]),[(1:Int)])=rc (0:Rat)
def FR:A5 Hw.args->Prop:=fun(x:QQ×Unit)=>(S0 x.1.1.2/\S0 x.1.2)/\∀(r:QQ×Unit),U7 r.1/\True->r.1=rc (Cp x.1.1 (false,x.1.2))->r.1=rc (rv x.1)
def BD:A5 Fg.args->Prop:=fun(x:QQ×QQ×Unit)=>True/\∀(r:Bool×Unit),True/\True->r.1=decide (x.1.1=x.2.1.1)->(r.1=true->True)/\∀(a:Bool×Unit),(r.1=true->(True/\True)/\a.1=decide (x.1.2=x.2.1.2))->E5 r.1 a.1 false=decide (x.1=x.2.1)
def Mg:A5 W8.args->Prop:=fun(x:QQ×Unit)=>I9 x.1/\∀(r:QQ×Unit),U7 r.1/\True->r.1=rc (rv x.1)->True/\∀(a:Bool×Unit),True/\True->a.1=decide (x.1=r.1)->a.1=decide (x.1=rc (rv x.1))
def MU:A5 Mb.args->Prop:=fun(x:QQ×Unit)=>I9 x.1/\∀(r:QQ×Unit),U7 r.1/\True->r.1=rc (rv x.1)->(false,r.1.2)=ic (↑(rv x.1).den:Int)
def Sv:A5 Bt.args->Prop:=fun(x:Int×Unit)=>True/\∀(r:(Bool×List Int)×Unit),G2 r.1/\True->r.1=ic x.1->True/\∀(a:(Bool×List Int)×Unit),G2 a.1/\True->a.1=ic (1:Int)->(S0 r.1.2/\S0 a.1.2)/\∀(b:QQ×Unit),U7 b.1/\True->b.1=rc (Cp r.1 a.1)->b.1=ri x.1
def SC:A5 Ru.args->Prop:=fun(x:Int×Int×Unit)=>True/\∀(r:(Bool×List Int)×Unit),G2 r.1/\True->r.1=ic x.1->True/\∀(a:(Bool×List Int)×Unit),G2 a.1/\True->a.1=ic x.2.1->(S0 r.1.2/\S0 a.1.2)/\∀(b:QQ×Unit),U7 b.1/\True->b.1=rc (Cp r.1 a.1)->b.1=rc (Rat.divInt x.1 x.2.1)
def FT:A5 Hx.args->Prop:=fun(x:QQ×Unit)=>I9 x.1/\∀(r:QQ×Unit),U7 r.1/\True->r.1=rc (rv x.1)->Dw r.1.1.2/\∀(a:Int×Unit),L4 a.1/\True->a.1=(iv r.1.1).sign->a.1=(rv x.1).num.sign
theorem MS (x:A5 Hy.args) (hw:awf Hy.args x) (_:Hy.pre x):FU x:=by
 simp only[FU];exact eT.symm
theorem GZ (x:A5 Fg.args) (hw:awf Fg.args x) (hp:Fg.pre x):BD x:=by
 obtain⟨⟨a,l⟩,⟨b,m⟩,_⟩:=x;simp only[BD];refine⟨trivial, ?_⟩;rintro⟨r,_⟩ _ hr;refine⟨fun _=>trivial, ?_⟩;rintro⟨s,_⟩ hs;simp only at hr hs⊢;by_cases h:a=b
 . subst h;have hr:r=true:=by rw[hr];simp
   have:=(hs hr).2;rw[this,hr];simp[E5]
 . have hr:r=false:=by rw[hr];simp[h]
   rw[hr];simp[E5,h]
theorem Vi (x:A5 W8.args) (hw:awf W8.args x) (hp:W8.pre x):Mg x:=by
 obtain⟨a,_⟩:=x;simp only[Mg];refine⟨hp, ?_⟩;rintro⟨r,_⟩ _ hr;refine⟨trivial, ?_⟩;rintro⟨s,_⟩ _ hs;simp only at hr hs⊢;rw[hs,hr]
theorem OT (x:A5 Mb.args) (hw:awf Mb.args x) (hp:Mb.pre x):MU x:=by
 obtain⟨a,_⟩:=x;simp only[MU];refine⟨hp, ?_⟩;rintro⟨r,_⟩ _ hr;simp only at hr⊢;rw[hr];unfold rc ic;simp
theorem BE (x:A5 Bt.args) (hw:awf Bt.args x) (_:Bt.pre x):Sv x:=by
 obtain⟨v,_⟩:=x;change Int at v;have hv:IntKind.i64.min<=v/\v<=IntKind.i64.max:=hw.1;rw[Mx,Tv]at hv;simp only[Sv];refine⟨trivial, ?_⟩;rintro⟨r,_⟩ _ hr;refine⟨trivial, ?_⟩;rintro⟨s,_⟩ _ hs;simp only at hr hs⊢;subst hr hs;have h2:(ic v).2.length<=2:=by rw[Cr];exact Ct (by omega)
 refine⟨⟨by omega,by rw[bB];show 1<= _;decide⟩, ?_⟩;rintro⟨t,_⟩ _ ht;simp only at ht⊢;rw[ht,WI (U9 1),U9,cG]
theorem MQ (x:A5 Hw.args) (hw:awf Hw.args x) (hp:Hw.pre x):FR x:=by
 obtain⟨q,_⟩:=x;change G3 at q;obtain⟨h1,h2⟩:q.1.2.length<=2199023255552/\q.2.length<=2199023255552:=hp;simp only[FR];refine⟨⟨by show q.1.2.length<= _;omega,by show q.2.length<= _;omega⟩, ?_⟩;rintro⟨r,_⟩ _ hr;simp only at hr⊢;rw[hr,A0h]
theorem MR (x:A5 Hx.args) (hw:awf Hx.args x) (hp:Hx.pre x):FT x:=by
 obtain⟨q,_⟩:=x;have l1:A7 q.1.2:=A4 hw.1.1.2.2;have l2:A7 q.2:=A4 hw.1.2.2;change G3 at q;obtain⟨h1,h2⟩:q.1.2.length<=2199023255552/\q.2.length<=2199023255552:=hp;obtain⟨n1,n2⟩:=Nq l1 l2 h1 h2 (by decide);simp only[FT];refine⟨⟨h1,h2⟩, ?_⟩;rintro⟨r,_⟩ _ hr;simp only at hr⊢;have e:r.1=ic (rv q).num:=by rw[hr];rfl
 refine⟨by show r.1.2.length<= _;rw[e];omega, ?_⟩;rintro⟨s,_⟩ _ hs;simp only at hs⊢;rw[hs,e,U9]
theorem MP (x:A5 Hv.args) (hw:awf Hv.args x) (hp:Hv.pre x):FQ x:=by
 obtain⟨a,b,_⟩:=x;have la:A7 a.2:=A4 hw.1.2.2;have lb:A7 b.2:=A4 hw.2.1.2.2;change Iu at a b;obtain⟨p1,p2⟩:a.2.length<=8796093022208/\b.2.length<=8796093022208:=hp;have n1:=D3 la;have n2:=D3 lb;simp only[FQ];refine⟨by show b.2.length<=35184372088832;omega, ?_⟩;rintro⟨s,_⟩ _ hs;simp only at hs⊢;refine⟨fun h=>⟨trivial, ?_⟩,fun h=>⟨by show b.2.length<=35184372088832;omega, ?_⟩⟩
 . have h:=of_decide_eq_true h;rw[hs]at h;rintro⟨r,_⟩ _ hr;simp only at hr⊢;rw[hr,fW (Int.sign_eq_zero_iff_zero.1 h)]
 have h:=of_decide_eq_false h;have hB:iv b≠0:=fun e=>h (by rw[hs,e];rfl)
 rintro⟨m,_⟩ _ hm;simp only at hm⊢;refine⟨fun _=>trivial, ?_⟩;rintro⟨e,_⟩ he;simp only at he⊢;refine⟨fun h1=>⟨by show a.2.length<=35184372088832;omega, ?_⟩,fun _=>⟨⟨p1,p2⟩, ?_⟩⟩
 . rw[J1,Bool.and_eq_true]at h1;have h2:=(he h1.1).2;rw[h1.2]at h2;have h3:m.2= [1]:=of_decide_eq_true h2.symm;have h4:m.1=false:=by simpa using h1.1
   have h5:iv b=1:=by
    have e1:m=(false,[1]):=Prod.ext h4 h3;rw[<-U9 (iv b), <-hm,e1];rfl
   rintro⟨r,_⟩ _ hr;simp only at hr⊢;rw[hr,h3,WI h5,cG];rfl
 . rintro⟨g,_⟩ _ hg;simp only at hg⊢;have hgv:iv g=((Nat.gcd (nv a.2) (nv b.2):Nat):Int):=by rw[hg,U9]
   obtain⟨G0,Gs,Gn,Gp⟩:=lZ (A:=iv a) (B:=iv b) hB (G:=Nat.gcd (nv a.2) (nv b.2)) (by rw[J4,J4]);have hbz:nv b.2≠0:=by rw[<-J4];omega
   have hgl:g.2.length<=8796093022208:=by
    rw[hg,Cr,Int.natAbs_natCast];have:=I2 (Nat.le_of_dvd (by omega) (Nat.gcd_dvd_right (nv a.2) (nv b.2)));omega
   rw[<-hgv]at Gs Gn Gp;have hg0:iv g≠0:=by omega
   refine⟨⟨p1,hgl⟩, ?_⟩;rintro⟨n,n',okn,_⟩ _ hn;refine⟨⟨p2,hgl⟩, ?_⟩;rintro⟨d,d',okd,_⟩ _ hd;simp only at hn hd⊢;have hn:=(hn hg0).1;have hd:=(hd hg0).1;have ln:n.2.length<=8796093022208:=by
    rw[hn,Cr];have h1:=I2 (Int.natAbs_ediv_le_natAbs (iv a) (iv g));rw[J4 a]at h1;omega
   have ld:d.2.length<=8796093022208:=by
    rw[hd,Cr];have h1:=I2 (Int.natAbs_ediv_le_natAbs (iv b) (iv g));rw[J4 b]at h1;omega
   have hds:d.1=decide (iv b/iv g<0):=by rw[hd];rfl
   refine⟨fun p=>((p.1,p.2.1),p.2.2.2.1)=rc (Cp a b),⟨fun h1=>⟨by show n.2.length<=35184372088832;omega, ?_⟩,fun h1=> ?_⟩, ?_⟩
   . rw[hds]at h1;have h1:=Gs.1 (of_decide_eq_true h1);rintro⟨u,_⟩ _ hu;refine⟨by show d.2.length<=35184372088832;omega, ?_⟩;rintro⟨v,_⟩ _ hv;simp only at hu hv⊢;show(u,v.2)= _;rw[hn,U9]at hu;rw[hd,U9]at hv;rw[hu,hv];exact Gn h1
   . rw[hds]at h1;have h1:¬iv b<0:=fun h2=>(of_decide_eq_false h1) (Gs.2 h2)
     show(n,d.2)= _;rw[hn,hd];exact Gp h1
   . rintro⟨t1,t2,t3,t4,_⟩ _ j;exact j
def aH:An:= {plan:= [(1,[0,2],[6,7],true, .done),(2,[1,2,6,7,11,13],[17],true, .done)]}
def q8 (x:QQ×QQ×Unit) (r:QQ×Unit) (g:QQ×Unit):Prop:=∀(a:(Bool×List Int)×Unit),G2 a.1/\True->a.1=ic (↑(rv x.2.1).den:Int)->(E3 r.1.1.2/\E3 a.1.2)/\∀(b:(Bool×List Int)×Unit),G2 b.1/\True->b.1=ic (iv r.1.1*iv a.1)->I9 x.1/\∀(r:(Bool×List Int)×Unit),G2 r.1/\True->r.1=ic (↑(rv x.1).den:Int)->(E3 g.1.1.2/\E3 r.1.2)/\∀(c:(Bool×List Int)×Unit),G2 c.1/\True->c.1=ic (iv g.1.1*iv r.1)->(E3 b.1.2/\E3 c.1.2)/\∀(r:(Bool×List Int)×Unit),G2 r.1/\True->r.1=ic (iv b.1+iv c.1)->I9 x.1/\∀(d:(Bool×List Int)×Unit),G2 d.1/\True->d.1=ic (↑(rv x.1).den:Int)->I9 x.2.1/\∀(e:(Bool×List Int)×Unit),G2 e.1/\True->e.1=ic (↑(rv x.2.1).den:Int)->(E3 d.1.2/\E3 e.1.2)/\∀(f:(Bool×List Int)×Unit),G2 f.1/\True->f.1=ic (iv d.1*iv e.1)->(S0 r.1.2/\S0 f.1.2)/\∀(h:QQ×Unit),U7 h.1/\True->h.1=rc (Cp r.1 f.1)->h.1=rc (rv x.1+rv x.2.1)
def q9 (x:QQ×QQ×Unit):Prop:=∀(r:QQ×Unit),U7 r.1/\True->r.1=rc (rv x.1)->(I9 x.2.1/\∀(g:QQ×Unit),U7 g.1/\True->g.1=rc (rv x.2.1)->I9 x.2.1/\q8 x r g)/\I9 x.2.1/\∀(g:QQ×Unit),U7 g.1/\True->g.1=rc (rv x.2.1)->I9 x.2.1/\q8 x r g
def qa (x:QQ×QQ×Unit):Prop:=∀(r:QQ×Unit),U7 r.1/\True->r.1=rc (rv x.1)->I9 x.2.1/\∀(g:QQ×Unit),U7 g.1/\True->g.1=rc (rv x.2.1)->I9 x.2.1/\q8 x r g
def MO:A5 Ma.args->Prop:=fun(x:QQ×QQ×Unit)=>(I9 x.1/\∀(r:QQ×Unit),U7 r.1/\True->r.1=rc (rv x.1)->(I9 x.2.1/\∀(g:QQ×Unit),U7 g.1/\True->g.1=rc (rv x.2.1)->(I9 x.2.1/\q8 x r g)/\I9 x.2.1/\q8 x r g)/\((I9 x.2.1/\∀(g:QQ×Unit),U7 g.1/\True->g.1=rc (rv x.2.1)->I9 x.2.1/\q8 x r g)/\I9 x.2.1/\∀(g:QQ×Unit),U7 g.1/\True->g.1=rc (rv x.2.1)->I9 x.2.1/\q8 x r g)/\(I9 x.2.1/\∀(g:QQ×Unit),U7 g.1/\True->g.1=rc (rv x.2.1)->I9 x.2.1/\q8 x r g)/\I9 x.2.1/\∀(g:QQ×Unit),U7 g.1/\True->g.1=rc (rv x.2.1)->I9 x.2.1/\q8 x r g)/\((I9 x.1/\q9 x)/\I9 x.1/\qa x)/\(I9 x.1/\q9 x)/\I9 x.1/\qa x
theorem nI {p:G3} (l1:A7 p.1.2) (l2:A7 p.2) (h:I9 p):(ic (rv p).num).2.length<=2199023255552/\(ic ((rv p).den:Int)).2.length<=2199023255552:=by
 have:=Nq l1 l2 h.1 h.2 (by decide);exact⟨this.1,by rw[Cr,Int.natAbs_natCast];exact this.2⟩
theorem icm {x y:Int} {k:Nat} (hx:(ic x).2.length<=k) (hy:(ic y).2.length<=k):(ic (x*y)).2.length<=2*k:=by
 rw[Cr]at*;rw[Int.natAbs_mul];have:=Kd x.natAbs y.natAbs;omega
theorem ica {x y:Int} {k:Nat} (hx:(ic x).2.length<=k) (hy:(ic y).2.length<=k):(ic (x+y)).2.length<=k+1:=by
 rw[Cr]at*;have h1:=I2 (Int.natAbs_add_le x y);have:=DN x.natAbs y.natAbs;omega
theorem OR (x:A5 Ma.args) (hw:awf Ma.args x) (hp:Ma.pre x):MO x:=by
 obtain⟨p,q,_⟩:=x;have lp1:A7 p.1.2:=A4 hw.1.1.2.2;have lp2:A7 p.2:=A4 hw.1.2.2;have lq1:A7 q.1.2:=A4 hw.2.1.1.2.2;have lq2:A7 q.2:=A4 hw.2.1.2.2;change G3 at p q;obtain⟨hp3,hq3⟩:I9 p/\I9 q:=hp;obtain⟨a1,a2⟩:=nI lp1 lp2 hp3;obtain⟨b1,b2⟩:=nI lq1 lq2 hq3;have m1:=icm a1 b2;have m2:=icm b1 a2;have m3:=icm a2 b2;have m4:=ica m1 m2;have fin:rc (Cp (ic ((rv p).num*((rv q).den:Int)+(rv q).num*((rv p).den:Int))) (ic (((rv p).den:Int)*((rv q).den:Int))))=rc (rv p+rv q):=by
  unfold Cp;rw[U9,U9,aU]
 have P1:E3 (ic (rv p).num).2:=by show _ <= _;omega
 have P2:E3 (ic ((rv p).den:Int)).2:=by show _ <= _;omega
 have Q1:E3 (ic (rv q).num).2:=by show _ <= _;omega
 have Q2:E3 (ic ((rv q).den:Int)).2:=by show _ <= _;omega
 have M1:E3 (ic ((rv p).num*((rv q).den:Int))).2:=by show _ <= _;omega
 have M2:E3 (ic ((rv q).num*((rv p).den:Int))).2:=by show _ <= _;omega
 have M3:S0 (ic (((rv p).den:Int)*((rv q).den:Int))).2:=by show _ <= _;omega
 have M4:S0 (ic ((rv p).num*((rv q).den:Int)+(rv q).num*((rv p).den:Int))).2:=by show _ <= _;omega
 clear m1 m2 m3 m4 a1 a2 b1 b2;have r1:(rc (rv p)).1=ic (rv p).num:=rfl;have r2:(rc (rv q)).1=ic (rv q).num:=rfl;simp only[MO,q8,q9,qa]
 repeat' first
  |assumption
  |apply And.intro
  | (rintro⟨r,_⟩ _ h;simp only at h⊢;subst h;try simp only[r1,r2,U9])
theorem Pv (x:A5 Q7.args) (hw:awf Q7.args x) (_:Q7.pre x):Ih x:=by
 obtain⟨a,b,_⟩:=x;change Int at a b;simp only[Ih];refine⟨trivial, ?_⟩;rintro⟨r,_⟩ _ hr;refine⟨trivial, ?_⟩;rintro⟨s,_⟩ _ hs;change Bool at r s;simp only at hr hs;rw[hr,hs];refine⟨fun h=>(by cases h),fun _=>⟨fun h=>(by cases h),fun _=>⟨fun h=> ?_,fun h=>⟨fun h2=> ?_,fun h2=> ?_⟩⟩⟩⟩
 . simp[Cb,of_decide_eq_true h]
 . simp[Cb,of_decide_eq_false h,of_decide_eq_true h2]
 . simp[Cb,of_decide_eq_false h,of_decide_eq_false h2]
theorem AS (x:A5 Bl.args) (hw:awf Bl.args x) (hp:Bl.pre x):Sd x:=by
 obtain⟨p,_⟩:=x;change Iu at p;simp only[Sd];refine⟨hp, ?_⟩;rintro⟨r,_⟩ _ hr;simp only at hr⊢;refine⟨trivial, ?_⟩;rintro⟨s,_⟩ _ hs;simp only at hs⊢;rw[hs,hr];have h:=lD (neg:= !p.1) (m:=nv p.2);have e:iv (!p.1,nc (nv p.2))= -iv p:=by
  rw[lR];congr 1;unfold iv;simp only[E8]
 rw[<-e,h];have:decide (nc (nv p.2)≠ [])=decide (nv p.2≠0):=decide_eq_decide.2 (not_congr Qz);rw[this]
theorem KB {a b:Int} (ha: -2147483647<=a/\a<=2147483647) (hb: -2147483647<=b/\b<=2147483647): -4611686014132420609<=a*b/\a*b<=4611686014132420609:=by
 have h:(a*b).natAbs<=2147483647*2147483647:=by
  rw[Int.natAbs_mul];exact Nat.mul_le_mul (by omega) (by omega)
 omega
theorem Ym (x:A5 U2.args) (hw:awf U2.args x) (hp:U2.pre x):Ox x:=by
 obtain⟨p,q,_⟩:=x;have lp1:A7 p.1.2:=A4 hw.1.1.2.2;have lp2:A7 p.2:=A4 hw.1.2.2;have lq1:A7 q.1.2:=A4 hw.2.1.1.2.2;have lq2:A7 q.2:=A4 hw.2.1.2.2;change G3 at p q;obtain⟨hp3,hq3⟩:I9 p/\I9 q:=hp;obtain⟨hp1,hp2⟩:=hp3;obtain⟨hq1,hq2⟩:=hq3;simp only[Ox];refine⟨trivial, ?_⟩;rintro⟨an,ad,aok,_⟩ _ ⟨a1,a2⟩;refine⟨trivial, ?_⟩;rintro⟨bn,bd,bok,_⟩ _ ⟨b1,b2⟩;change Int at an ad bn bd;simp only at a1 a2 b1 b2⊢;refine⟨fun h=> ?_,fun _=>⟨trivial, ?_⟩⟩
 . rw[J1,Bool.and_eq_true]at h;have sp:K2 p:=Decidable.byContradiction fun hn=>by have:=a2 hn;rw[this]at h;exact absurd h.1 (by decide)
   have sq:K2 q:=Decidable.byContradiction fun hn=>by have:=b2 hn;rw[this]at h;exact absurd h.2 (by decide)
   obtain⟨ea,ed,_⟩:=a1 sp;obtain⟨eb,ee,_⟩:=b1 sq;obtain⟨x1,x2,x3,x4⟩:=Ug sp;obtain⟨y1,y2,y3,y4⟩:=Ug sq;have h1:=KB (a:=an) (b:=bn) (by omega) (by omega);have h2:=KB (a:=ad) (b:=bd) (by omega) (by omega);have h4:0<ad*bd:=Int.mul_pos (by omega) (by omega);rw[wr (a:=ad*bd) (by omega) (by omega),wr (a:=an*bn) (by omega) (by omega)];refine⟨h4, ?_⟩;rintro⟨r,_⟩ _ hr;simp only at hr⊢;rw[hr, <-Zs p, <-Zs q, <-ea, <-ed, <-eb, <-ee,Rat.mkRat_mul_mkRat,Int.toNat_mul (by omega) (by omega)]
 . rintro⟨n,d,_⟩ ⟨hwn,hwd,_⟩ h1;refine⟨trivial, ?_⟩;rintro⟨m,e,_⟩ ⟨hwm,hwe,_⟩ h2;have ln:A7 n.2:=A4 hwn.2.2;have ld:A7 d:=A4 hwd.2;have lm:A7 m.2:=A4 hwm.2.2;have le:A7 e:=A4 hwe.2;change Iu at n m;change List Int at d e;simp only at h1 h2⊢;obtain⟨d0,hP⟩:=Rn h1;obtain⟨e0,hQ⟩:=Rn h2;obtain⟨n1,d1⟩:=Lj (k:=2199023255552) h1 hp1 hp2 (by decide);obtain⟨m1,e1⟩:=Lj (k:=2199023255552) h2 hq1 hq2 (by decide);have x1:=Xc (x:=n) (y:=m) ln lm;have x2:=Xj ld le;rw[hP,hQ];refine⟨⟨by show n.2.length<= _;omega,by show m.2.length<= _;omega⟩, ?_⟩;rintro⟨u,_⟩ _ hu;refine⟨⟨by show d.length<= _;omega,by show e.length<= _;omega⟩, ?_⟩;rintro⟨v,_⟩ _ hv;simp only at hu hv⊢;refine⟨⟨by rw[hv,E8];exact Nat.mul_ne_zero d0 e0,by show u.2.length<= _;rw[hu];omega,by show v.length<= _;rw[hv];omega⟩, ?_⟩;rintro⟨r,_⟩ _ hr;simp only at hr⊢;rw[hr,hu,hv,U9,E8,Rat.mkRat_mul_mkRat]
theorem Yn (x:A5 Ae.args) (hw:awf Ae.args x) (hp:Ae.pre x):Oy x:=by
 obtain⟨p,_⟩:=x;have lp1:A7 p.1.2:=A4 hw.1.1.2.2;have lp2:A7 p.2:=A4 hw.1.2.2;change G3 at p;have hp3:I9 p:=hp;obtain⟨a1,a2⟩:=Nq (k:=2199023255552) lp1 lp2 hp3.1 hp3.2 (by decide);simp only[Oy];refine⟨hp3, ?_⟩;rintro⟨r,_⟩ _ hr;simp only at hr⊢;subst hr;refine⟨by show(ic (rv p).num).2.length<= _;omega, ?_⟩;rintro⟨s,_⟩ _ hs;simp only at hs⊢;rw[hs];show(ic (-iv (ic (rv p).num)),nc (rv p).den)=(ic (-(rv p)).num,nc (-(rv p)).den);rw[U9,Rat.neg_num,Rat.neg_den]
theorem A3m {q:Rat} (h:q≠0):(((ic q.num).1,nc q.den),(ic q.num).2)=rc q⁻¹:=by
 have hn:q.num≠0:=fun e=>h (Rat.num_eq_zero.1 e)
 unfold rc ic;rw[Rat.num_inv,Rat.den_inv,if_neg hn,Int.natAbs_mul,Int.natAbs_natCast,Int.natAbs_sign_of_ne_zero hn,Nat.one_mul];have hd:(0:Int)<(q.den:Int):=by have:=q.den_pos;omega
 have:(q.num.sign*(q.den:Int)<0)↔q.num<0:=by
  rcases Int.lt_trichotomy q.num 0 with h1|h1|h1
  . rw[Int.sign_eq_neg_one_of_neg h1];omega
  . exact absurd h1 hn
  . rw[Int.sign_eq_one_of_pos h1];omega
 simp only[this]
theorem Yl (x:A5 Ad.args) (hw:awf Ad.args x) (hp:Ad.pre x):Ow x:=by
 obtain⟨p,_⟩:=x;change G3 at p;have hp3:I9 p:=hp;simp only[Ow];refine⟨trivial, ?_⟩;rintro⟨s,_⟩ _ hs;simp only at hs⊢;refine⟨fun h=> ?_,fun h=>⟨hp3, ?_⟩⟩
 . have h0:=AJ (hs▸of_decide_eq_true h);exact⟨fun _=>by trivial,fun hn=>absurd h0 hn⟩
 . rintro⟨r,_⟩ _ hr;simp only at hr⊢;refine⟨fun h0=> ?_,fun h0=>⟨by rw[hr];exact A3m h0,by trivial⟩⟩;have h:=of_decide_eq_false h;rw[hs,h0]at h;exact absurd rfl h
theorem XI {a:Int} (h:IntKind.i64.min<=a/\a<=IntKind.i64.max):(ic a).2.length<=2:=by
 have h1: -9223372036854775808<=a/\a<=9223372036854775807:=h;exact Ct (by show a.natAbs<4294967296^2;omega)
theorem VD (x:A5 Ru.args) (hw:awf Ru.args x) (_:Ru.pre x):SC x:=by
 obtain⟨a,b,_⟩:=x;have ha:(ic a).2.length<=2:=XI hw.1;have hb:(ic b).2.length<=2:=XI hw.2.1;change Int at a b;simp only[SC];refine⟨trivial, ?_⟩;rintro⟨r,_⟩ _ hr;refine⟨trivial, ?_⟩;rintro⟨s,_⟩ _ hs;simp only at hr hs⊢;subst hr hs;refine⟨⟨by show(ic a).2.length<= _;omega,by show(ic b).2.length<= _;omega⟩, ?_⟩;rintro⟨t,_⟩ _ ht;simp only at ht⊢;rw[ht];unfold Cp;rw[U9,U9]
def Us:An:= {loop:= [(2,⟨[0],[],[(3,false,[.val (.int .i64)])],[],[]⟩)],plan:= [(4,[5,10],[],true, .done)]}
def GL:An:= {join:= [(13,⟨[2,7,9,10],[1],[(0,false,[.val (.sl tE)]),(1,false,[.val (.sl tE)]),(8,false,[.val (.int .i64)])],[(2,46,[.val .bool, .val (.sl (.int .u32)), .val (.sl (.int .u32))]),(3,46,[.val .bool, .val (.sl (.int .u32)), .val (.sl (.int .u32))])],[]⟩)],loop:= [(2,⟨[2],[],[(0,false,[.val (.sl tE)]),(1,false,[.val (.sl tE)]),(7,false,[.own tE 79])],[],[]⟩)],plan:= [(5,[11,15],[],true, .done),(6,[3,7],[9],true, .done),(11,[3,7],[9],true, .done)]}
def GK:An:= {loop:= [(4,⟨[1,10,11],[],[(12,false,[.val (.int .i64)])],[],[]⟩)]}
def NP:An:= {join:= [(7,⟨[1,4,5,9,10,11],[0],[],[(1,46,[.val .bool, .val (.sl (.int .u32)), .val (.sl (.int .u32))])],[]⟩)],loop:= [(3,⟨[1,4,5,9,10],[0],[(11,false,[.val (.int .i64)])],[(1,46,[.val .bool, .val (.sl (.int .u32)), .val (.sl (.int .u32))])],[]⟩)]}
def Ph:An:= {plan:= [(3,[0,1,2],[5],true, .done)]}
def Ur:An:= {}
def Gf:A5 P6.args->Prop:=fun(x:List EE×Unit)=>∃(I:Int×Unit->Prop),∃(μ:Int×Unit->Nat),I ((1:Int),())/\∀(p:Int×Unit),(Ty.int IntKind.i64).wf p.1/\True->I p->(decide (p.1<(x.1.length:Int))=true->((0:Int)<=IntKind.i64.wrap (p.1-1)/\IntKind.i64.wrap (p.1-1)<(x.1.length:Int))/\(0<=p.1/\p.1<(x.1.length:Int))/\(decide ((gx C8 x.1 p.1).1<=(gx C8 x.1 (IntKind.i64.wrap (p.1-1))).1)=true->false=decide (Ex x.1))/\(decide ((gx C8 x.1 p.1).1<=(gx C8 x.1 (IntKind.i64.wrap (p.1-1))).1)=false->I (IntKind.i64.wrap (p.1+1),())/\μ (IntKind.i64.wrap (p.1+1),())<μ p))/\(decide (p.1<(x.1.length:Int))=false->true=decide (Ex x.1))
def Pa:A5 Ag.args->Prop:=fun(x:List EE×List EE×((QQ×QQ×Unit->Prop)×(QQ×QQ×Unit->(Bool×List Int)×List Int))×Unit)=>((0:Int)<=(0:Int)/\(0:Int)<=Max.max (x.1.length:Int) (x.2.1.length:Int)/\(↑(64:Nat):Int)*Max.max (x.1.length:Int) (x.2.1.length:Int)<=(281474976710656:Int)/\Max.max (x.1.length:Int) (x.2.1.length:Int)<=(9223372036854775807:Int))/\∃(I:List EE×List EE×List EE×Unit->Prop),∃(μ:List EE×List EE×List EE×Unit->Nat),I (x.1,x.2.1,List.replicate (Int.toNat (0:Int)) C8,())/\∀(p:List EE×List EE×List EE×Unit),tE.sl.wf p.1/\tE.sl.wf p.2.1/\tE.sl.wf p.2.2.1/\True->I p->(E5 (decide ((0:Int)<(p.1.length:Int))) true (decide ((0:Int)<(p.2.1.length:Int)))=true->∃(J:List EE×List EE×Int×Bool×List Int×List Int×Bool×List Int×List Int×Unit->Prop),((decide ((0:Int)<(p.1.length:Int))=true/\decide ((p.2.1.length:Int)=(0:Int))=false->(0:Int)<=(0:Int)/\(0:Int)<(p.1.length:Int))/\(decide ((0:Int)<(p.1.length:Int))=true/\decide ((p.2.1.length:Int)=(0:Int))=false->(0:Int)<=(0:Int)/\(0:Int)<(p.2.1.length:Int))/\(E5 (decide ((p.2.1.length:Int)=(0:Int))) true (E5 (decide ((0:Int)<(p.1.length:Int))) (decide ((gx C8 p.1 (0:Int)).1<=(gx C8 p.2.1 (0:Int)).1)) false)=true->((0:Int)<=(0:Int)/\(0:Int)<(p.1.length:Int))/\((0:Int)<=(0:Int)/\(0:Int)<(p.1.length:Int))/\((0:Int)<=(1:Int)/\(1:Int)<=(p.1.length:Int)/\(p.1.length:Int)<=(p.1.length:Int))/\(decide ((0:Int)<(p.2.1.length:Int))=true->(0:Int)<=(0:Int)/\(0:Int)<(p.2.1.length:Int))/\(E5 (decide ((0:Int)<(p.2.1.length:Int))) (decide ((gx C8 p.2.1 (0:Int)).1=(gx C8 p.1 (0:Int)).1)) false=true->((0:Int)<=(0:Int)/\(0:Int)<(p.2.1.length:Int))/\((0:Int)<=(1:Int)/\(1:Int)<=(p.2.1.length:Int)/\(p.2.1.length:Int)<=(p.2.1.length:Int))/\J (List.drop (Int.toNat (1:Int)) (List.take (p.1.length:Int).toNat p.1),List.drop (Int.toNat (1:Int)) (List.take (p.2.1.length:Int).toNat p.2.1),(gx C8 p.1 (0:Int)).1,(gx C8 p.1 (0:Int)).2.1.1,(gx C8 p.1 (0:Int)).2.1.2,(gx C8 p.1 (0:Int)).2.2,(gx C8 p.2.1 (0:Int)).2.1.1,(gx C8 p.2.1 (0:Int)).2.1.2,(gx C8 p.2.1 (0:Int)).2.2,()))/\(E5 (decide ((0:Int)<(p.2.1.length:Int))) (decide ((gx C8 p.2.1 (0:Int)).1=(gx C8 p.1 (0:Int)).1)) false=false->J (List.drop (Int.toNat (1:Int)) (List.take (p.1.length:Int).toNat p.1),p.2.1,(gx C8 p.1 (0:Int)).1,(gx C8 p.1 (0:Int)).2.1.1,(gx C8 p.1 (0:Int)).2.1.2,(gx C8 p.1 (0:Int)).2.2,false,[],[],())))/\(E5 (decide ((p.2.1.length:Int)=(0:Int))) true (E5 (decide ((0:Int)<(p.1.length:Int))) (decide ((gx C8 p.1 (0:Int)).1<=(gx C8 p.2.1 (0:Int)).1)) false)=false->((0:Int)<=(0:Int)/\(0:Int)<(p.2.1.length:Int))/\((0:Int)<=(0:Int)/\(0:Int)<(p.2.1.length:Int))/\((0:Int)<=(1:Int)/\(1:Int)<=(p.2.1.length:Int)/\(p.2.1.length:Int)<=(p.2.1.length:Int))/\J (p.1,List.drop (Int.toNat (1:Int)) (List.take (p.2.1.length:Int).toNat p.2.1),(gx C8 p.2.1 (0:Int)).1,false,[],[],(gx C8 p.2.1 (0:Int)).2.1.1,(gx C8 p.2.1 (0:Int)).2.1.2,(gx C8 p.2.1 (0:Int)).2.2,())))/\∀(a:List EE×List EE×Int×Bool×List Int×List Int×Bool×List Int×List Int×Unit),tE.sl.wf a.1/\tE.sl.wf a.2.1/\(Ty.int IntKind.i64).wf a.2.2.1/\Ty.bool.wf a.2.2.2.1/\(Ty.int IntKind.u32).sl.wf a.2.2.2.2.1/\(Ty.int IntKind.u32).sl.wf a.2.2.2.2.2.1/\Ty.bool.wf a.2.2.2.2.2.2.1/\(Ty.int IntKind.u32).sl.wf a.2.2.2.2.2.2.2.1/\(Ty.int IntKind.u32).sl.wf a.2.2.2.2.2.2.2.2.1/\True->J a->Go.Proofs.Tryz.prog=Go.Proofs.Tryz.prog/\x.2.2.1.1 (((a.2.2.2.1,a.2.2.2.2.1),a.2.2.2.2.2.1),((a.2.2.2.2.2.2.1,a.2.2.2.2.2.2.2.1),a.2.2.2.2.2.2.2.2.1),())/\(tQ.wf (x.2.2.1.2 (((a.2.2.2.1,a.2.2.2.2.1),a.2.2.2.2.2.1),((a.2.2.2.2.2.2.1,a.2.2.2.2.2.2.2.1),a.2.2.2.2.2.2.2.2.1),()))->True/\∀(r:Int×Unit),L4 r.1/\True->r.1=(rv (x.2.2.1.2 (((a.2.2.2.1,a.2.2.2.2.1),a.2.2.2.2.2.1),((a.2.2.2.2.2.2.1,a.2.2.2.2.2.2.2.1),a.2.2.2.2.2.2.2.2.1),()))).num.sign->(decide (r.1≠0)=true->((p.2.2.1.length+ [(a.2.2.1,x.2.2.1.2 (((a.2.2.2.1,a.2.2.2.2.1),a.2.2.2.2.2.1),((a.2.2.2.2.2.2.1,a.2.2.2.2.2.2.2.1),a.2.2.2.2.2.2.2.2.1),()))].length)*(64:Nat)<=(140737488355328:Nat)/\p.2.2.1.length+ [(a.2.2.1,x.2.2.1.2 (((a.2.2.2.1,a.2.2.2.2.1),a.2.2.2.2.2.1),((a.2.2.2.2.2.2.1,a.2.2.2.2.2.2.2.1),a.2.2.2.2.2.2.2.2.1),()))].length<=9223372036854775807)/\I (a.1,a.2.1,p.2.2.1++ [(a.2.2.1,x.2.2.1.2 (((a.2.2.2.1,a.2.2.2.2.1),a.2.2.2.2.2.1),((a.2.2.2.2.2.2.1,a.2.2.2.2.2.2.2.1),a.2.2.2.2.2.2.2.2.1),()))],())/\μ (a.1,a.2.1,p.2.2.1++ [(a.2.2.1,x.2.2.1.2 (((a.2.2.2.1,a.2.2.2.2.1),a.2.2.2.2.2.1),((a.2.2.2.2.2.2.1,a.2.2.2.2.2.2.2.1),a.2.2.2.2.2.2.2.2.1),()))],())<μ p)/\(decide (r.1≠0)=false->I (a.1,a.2.1,p.2.2.1,())/\μ (a.1,a.2.1,p.2.2.1,())<μ p)))/\(E5 (decide ((0:Int)<(p.1.length:Int))) true (decide ((0:Int)<(p.2.1.length:Int)))=false->p.2.2.1=H6 x.2.2.1.2 x.1 x.2.1)
def Oz:A5 Af.args->Prop:=fun(x:List EE×Int×Unit)=>True/\∀(r:Bool×Unit),True/\True->r.1=decide (Ex x.1)->((!r.1)=true->false=decide (G7 x.1 x.2.1))/\((!r.1)=false->∃(I:Int×Unit->Prop),∃(μ:Int×Unit->Nat),I ((0:Int),())/\∀(p:Int×Unit),(Ty.int IntKind.i64).wf p.1/\True->I p->(decide (p.1<(x.1.length:Int))=true->(0<=p.1/\p.1<(x.1.length:Int))/\(E5 (decide ((gx C8 x.1 p.1).1<(0:Int))) true (decide (x.2.1<=(gx C8 x.1 p.1).1))=false->True)/\∀(r:Int×Unit),(E5 (decide ((gx C8 x.1 p.1).1<(0:Int))) true (decide (x.2.1<=(gx C8 x.1 p.1).1))=false->(L4 r.1/\True)/\r.1=(rv (gx C8 x.1 p.1).2).num.sign)->(E5 (E5 (decide ((gx C8 x.1 p.1).1<(0:Int))) true (decide (x.2.1<=(gx C8 x.1 p.1).1))) true (decide (r.1=0))=true->false=decide (G7 x.1 x.2.1))/\(E5 (E5 (decide ((gx C8 x.1 p.1).1<(0:Int))) true (decide (x.2.1<=(gx C8 x.1 p.1).1))) true (decide (r.1=0))=false->I (IntKind.i64.wrap (p.1+1),())/\μ (IntKind.i64.wrap (p.1+1),())<μ p))/\(decide (p.1<(x.1.length:Int))=false->true=decide (G7 x.1 x.2.1)))
def Wn:A5 Dm.args->Prop:=fun(x:List EE×Int×Unit)=>True/\∀(r:QQ×Unit),U7 r.1/\True->r.1=ri (0:Int)->∃(I:Int×Bool×List Int×List Int×Unit->Prop),∃(μ:Int×Bool×List Int×List Int×Unit->Nat),I ((0:Int),r.1.1.1,r.1.1.2,r.1.2,())/\∀(p:Int×Bool×List Int×List Int×Unit),(Ty.int IntKind.i64).wf p.1/\Ty.bool.wf p.2.1/\(Ty.int IntKind.u32).sl.wf p.2.2.1/\(Ty.int IntKind.u32).sl.wf p.2.2.2.1/\True->I p->(decide (p.1<(x.1.length:Int))=true->∃(J:Bool×List Int×List Int×Unit->Prop),((0<=p.1/\p.1<(x.1.length:Int))/\(decide ((gx C8 x.1 p.1).1=x.2.1)=true->(I9 ((p.2.1,p.2.2.1),p.2.2.2.1)/\I9 (gx C8 x.1 p.1).2)/\∀(r:QQ×Unit),U7 r.1/\True->r.1=rc (rv ((p.2.1,p.2.2.1),p.2.2.2.1)+rv (gx C8 x.1 p.1).2)->J (r.1.1.1,r.1.1.2,r.1.2,()))/\(decide ((gx C8 x.1 p.1).1=x.2.1)=false->J (p.2.1,p.2.2.1,p.2.2.2.1,())))/\∀(a:Bool×List Int×List Int×Unit),Ty.bool.wf a.1/\(Ty.int IntKind.u32).sl.wf a.2.1/\(Ty.int IntKind.u32).sl.wf a.2.2.1/\True->J a->I (IntKind.i64.wrap (p.1+1),a.1,a.2.1,a.2.2.1,())/\μ (IntKind.i64.wrap (p.1+1),a.1,a.2.1,a.2.2.1,())<μ p)/\(decide (p.1<(x.1.length:Int))=false->((p.2.1,p.2.2.1),p.2.2.2.1)=rc (C5 x.1 x.2.1))
def Ei:A5 M9.args->Prop:=fun(x:QQ×QQ×QQ×Unit)=>True/\∀(r:Int×Unit),L4 r.1/\True->r.1=(rv x.2.1).num.sign->(decide (r.1=0)=true->I9 x.1/\∀(r:QQ×Unit),U7 r.1/\True->r.1=rc (rv x.1)->r.1=rc (rv x.1+rv x.2.2.1*rv x.2.1))/\(decide (r.1=0)=false->(I9 x.2.2.1/\I9 x.2.1)/\∀(r:QQ×Unit),U7 r.1/\True->r.1=rc (rv x.2.2.1*rv x.2.1)->(I9 x.1/\I9 r.1)/\∀(a:QQ×Unit),U7 a.1/\True->a.1=rc (rv x.1+rv r.1)->a.1=rc (rv x.1+rv x.2.2.1*rv x.2.1))
def Ge:A5 P5.args->Prop:=fun(x:List EE×QQ×List EE×Unit)=>dF x.1/\∀(r:List EE×Unit),Mn r.1/\True->(Ex x.1->r.1=x.1)/\(¬Ex x.1->Ex r.1/\(∀(j:Int),C5 r.1 j=C5 x.1 j)/\r.1.length<=(20:Nat)/\EJ (16777216:Nat) r.1)->dF x.2.2.1/\∀(a:List EE×Unit),Mn a.1/\True->(Ex x.2.2.1->a.1=x.2.2.1)/\(¬Ex x.2.2.1->Ex a.1/\(∀(j:Int),C5 a.1 j=C5 x.2.2.1 j)/\a.1.length<=(20:Nat)/\EJ (16777216:Nat) a.1)->∃(ok:QQ×QQ×Unit->Prop),∃(φ:QQ×QQ×Unit->(Bool×List Int)×List Int),(∀(y:QQ×QQ×Unit),tQ.wf y.1/\tQ.wf y.2.1/\True->ok y->(sz K1 y.1/\sz K1 y.2.1/\sz K1 x.2.1)/\∀(z:QQ×Unit),U7 z.1/\True->z.1=rc (rv y.1+rv x.2.1*rv y.2.1)->true=true/\z.1=φ y)/\(List.length r.1<=100000/\List.length a.1<=100000/\∀(u v:G3),(u=zr\/∃(e:EE),e∈r.1/\e.2=u)->(v=zr\/∃(e:EE),e∈a.1/\e.2=v)->(ok,φ).1 (u,v,()))/\∀(b:List EE×Unit),Mn b.1/\True->b.1=H6 φ r.1 a.1->Ey b.1/\∀(i:Int),C5 b.1 i=C5 x.1 i+rv x.2.1*C5 x.2.2.1 i
theorem Nc {l:List F8} (h:∀x∈l,WfE x):Xe l:=fun e he=>⟨A4 (h e he).2.1.2.2,A4 (h e he).2.2.2⟩
theorem eE {q:G3} (h:U7 q):bL q:=⟨A4 h.1.2.2,A4 h.2.2⟩
theorem Oe (x:A5 P6.args) (hw:awf P6.args x) (_:P6.pre x):Gf x:=by
 obtain⟨l,_⟩:=x;have hl:l.length<=9223372036854775807:=hw.1.1;change List F8 at l;simp only[Gf];refine⟨fun p=>1<=p.1/\∀s t:Nat,s<t->t<p.1.toNat->t<l.length->(l.getD s C8).1<(l.getD t C8).1,fun p=>((l.length:Int)-p.1).toNat,⟨Int.le_refl _,fun s t h1 h2=>by simp at h2;omega⟩, ?_⟩;rintro⟨k,_⟩ _ ⟨h0,h1⟩;change Int at k;simp only at h0 h1⊢;refine⟨fun h=> ?_,fun h=> ?_⟩
 . have h:=of_decide_eq_true h;rw[wr (a:=k-1) (by omega) (by omega)];refine⟨⟨by omega,by omega⟩,⟨by omega,h⟩,fun hb=> ?_,fun hb=> ?_⟩
   . have hb:=of_decide_eq_true hb;refine(decide_eq_false fun hp=> ?_).symm;unfold Ex at hp;rw[List.pairwise_iff_getElem]at hp;have:=hp (k-1).toNat k.toNat (by omega) (by omega) (by omega);have e1:=H2 (d:=C8) (l:=l) (i:=k) (by omega) h;have e2:=H2 (d:=C8) (l:=l) (i:=k-1) (by omega) (by omega);rw[List.getElem?_eq_getElem (by omega)]at e1 e2;rw[Option.some.inj e1,Option.some.inj e2]at this;omega
   . have hb:=of_decide_eq_false hb;rw[wr (a:=k+1) (by omega) (by omega)];rw[P7 (by omega) h,P7 (by omega) (by omega)]at hb;refine⟨⟨by omega,fun s t h2 h3 h4=> ?_⟩,by omega⟩;by_cases ht:t=k.toNat
     . by_cases hs:s=(k-1).toNat
       . rw[ht,hs];omega
       . have:=h1 s (k-1).toNat (by omega) (by omega) (by omega);rw[ht];omega
     . exact h1 s t h2 (by omega) h4
 . have h:=of_decide_eq_false h;refine(decide_eq_true ?_).symm;unfold Ex;rw[List.pairwise_iff_getElem];intro i j hi hj hij;have:=h1 i j hij (by omega) hj;rw[List.getD_eq_getElem?_getD,List.getElem?_eq_getElem hi,List.getD_eq_getElem?_getD,List.getElem?_eq_getElem hj]at this;exact this
theorem kB {α:Type} (e:α) (a:List α):List.drop (Int.toNat 1) (List.take (((e::a).length:Int)).toNat (e::a))=a:=by
 rw[Int.toNat_natCast,List.take_length];rfl
theorem Yp (x:A5 Ag.args) (hw:awf Ag.args x) (hp:Ag.pre x):Pa x:=by
 obtain⟨A,B,⟨ok,φ⟩,_⟩:=x;change List F8 at A B;obtain⟨hA,hB,hok⟩:A.length<=100000/\B.length<=100000/\∀u v:G3,(u=zr\/∃e∈A,e.2=u)->(v=zr\/∃e∈B,e.2=v)->ok (u,v,()):=hp;simp only[Pa];have e0:List.replicate (Int.toNat 0) C8= []:=rfl;rw[e0];refine⟨⟨Int.le_refl _,by omega,by omega,by omega⟩, ?_⟩;refine⟨fun p=>(∀e∈p.1,e∈A)/\(∀e∈p.2.1,e∈B)/\p.2.2.1++H6 φ p.1 p.2.1=H6 φ A B/\p.2.2.1.length+(p.1.length+p.2.1.length)<=A.length+B.length,fun p=>p.1.length+p.2.1.length,⟨fun _ h=>h,fun _ h=>h,rfl,by simp⟩, ?_⟩;rintro⟨a,b,res,_⟩ _ ⟨ha,hb,hm,hl⟩;change List F8 at a b res;simp only at ha hb hm hl⊢;refine⟨fun hc=> ?_,fun hc=> ?_⟩
 . refine⟨fun q=>(q.1.length+q.2.1.length<a.length+b.length)/\(∀e∈q.1,e∈A)/\(∀e∈q.2.1,e∈B)/\(((q.2.2.2.1,q.2.2.2.2.1),q.2.2.2.2.2.1)=zr\/∃e∈A,e.2=((q.2.2.2.1,q.2.2.2.2.1),q.2.2.2.2.2.1))/\(((q.2.2.2.2.2.2.1,q.2.2.2.2.2.2.2.1),q.2.2.2.2.2.2.2.2.1)=zr\/∃e∈B,e.2=((q.2.2.2.2.2.2.1,q.2.2.2.2.2.2.2.1),q.2.2.2.2.2.2.2.2.1))/\H6 φ a b=put q.2.2.1 (φ (((q.2.2.2.1,q.2.2.2.2.1),q.2.2.2.2.2.1),((q.2.2.2.2.2.2.1,q.2.2.2.2.2.2.2.1),q.2.2.2.2.2.2.2.2.1),())) (H6 φ q.1 q.2.1),⟨fun h=>⟨Int.le_refl _,of_decide_eq_true h.1⟩,fun h=>⟨Int.le_refl _,by have:=of_decide_eq_false h.2;omega⟩,fun h=> ?_,fun h=> ?_⟩, ?_⟩
   . cases a with
     |nil=>
      cases b with
      |nil=>simp[E5]at hc
      |cons f b=>simp[E5]at h;omega
     |cons e a=>
      have hin:e∈A:=ha e (List.mem_cons_self ..);have ha':∀z∈a,z∈A:=fun z hz=>ha z (List.mem_cons_of_mem _ hz)
      have hl1:(0:Int)<((e::a).length:Int):=by simp only[List.length_cons];omega
      rw[kB];refine⟨⟨Int.le_refl _,hl1⟩,⟨Int.le_refl _,hl1⟩,⟨by omega,by simp only[List.length_cons];omega,Int.le_refl _⟩,fun h=>⟨Int.le_refl _,of_decide_eq_true h⟩,fun h2=> ?_,fun h2=> ?_⟩
      . cases b with
        |nil=>simp[E5]at h2
        |cons f b=>
         rw[kB];have hl2:(0:Int)<((f::b).length:Int):=by simp only[List.length_cons];omega
         refine⟨⟨Int.le_refl _,hl2⟩,⟨by omega,by simp only[List.length_cons];omega,Int.le_refl _⟩,by simp only[List.length_cons];omega,ha',fun z hz=>hb z (List.mem_cons_of_mem _ hz), .inr ⟨e,hin,rfl⟩, .inr ⟨f,hb f (List.mem_cons_self ..),rfl⟩, ?_⟩;rw[J1,Bool.and_eq_true,decide_eq_true_eq,decide_eq_true_eq]at h2;have h3:f.1=e.1:=h2.2;show H6 φ (e::a) (f::b)=put e.1 (φ (e.2,f.2,())) (H6 φ a b);rw[H6,if_neg (by omega),if_pos h3.symm]
      . refine⟨by simp only[List.length_cons];omega,ha',hb, .inr ⟨e,hin,rfl⟩, .inl rfl, ?_⟩;show H6 φ (e::a) b=put e.1 (φ (e.2,zr,())) (H6 φ a b);cases b with
        |nil=>rw[H6]
        |cons f b=>
         have h3:¬f.1=e.1:=by
          have:decide ((gx C8 (f::b) 0).1=(gx C8 (e::a) 0).1)=false:=by simpa[E5]using h2
          exact of_decide_eq_false this
         have h4:e.1<=f.1:=by
          have:decide ((gx C8 (e::a) 0).1<=(gx C8 (f::b) 0).1)=true:=by
           rw[L3,J1]at h;simp only[List.length_cons,Bool.or_eq_true,Bool.and_eq_true,decide_eq_true_eq]at h;rcases h with h|h
           . omega
           . exact decide_eq_true h.2
          exact of_decide_eq_true this
         rw[H6,if_pos (by omega)]
   . rw[L3,J1]at h;simp only[Bool.or_eq_false_iff,Bool.and_eq_false_iff,decide_eq_false_iff_not]at h;obtain⟨hb0,h⟩:=h;cases b with
     |nil=>simp at hb0
     |cons f b=>
      have hl2:(0:Int)<((f::b).length:Int):=by simp only[List.length_cons];omega
      rw[kB];refine⟨⟨Int.le_refl _,hl2⟩,⟨Int.le_refl _,hl2⟩,⟨by omega,by simp only[List.length_cons];omega,Int.le_refl _⟩,by simp only[List.length_cons];omega,ha,fun z hz=>hb z (List.mem_cons_of_mem _ hz), .inl rfl, .inr ⟨f,hb f (List.mem_cons_self ..),rfl⟩, ?_⟩;show H6 φ a (f::b)=put f.1 (φ (zr,f.2,())) (H6 φ a b);cases a with
      |nil=>rw[H6]
      |cons e a=>
       have h3:¬e.1<=f.1:=by
        rcases h with h|h
        . simp at h
        . exact h
       rw[H6,if_neg (by omega),if_neg (by omega)]
   . rintro⟨a',b',i,u1,u2,u3,v1,v2,v3,_⟩ _ ⟨j1,j2,j3,j4,j5,j6⟩;change Int at i;simp only at j1 j2 j3 j4 j5 j6⊢;refine⟨by trivial,hok _ _ j4 j5,fun _=>⟨trivial, ?_⟩⟩;rintro⟨s,_⟩ _ hs;simp only at hs⊢;generalize φ (((u1,u2),u3),((v1,v2),v3),())=z at*;have hlen:∀(α:Type) (l:List α) (y:α),(l++ [y]).length=l.length+1:=fun α l y=>by simp
     refine⟨fun h=>⟨⟨by simp only[List.length_singleton];omega,by simp only[List.length_singleton];omega⟩,⟨j2,j3, ?_, ?_⟩,j1⟩,fun h=>⟨⟨j2,j3, ?_,by omega⟩,j1⟩⟩
     . have h:=of_decide_eq_true h;have hz:¬rv z=0:=fun h0=>h (by rw[hs,h0];rfl)
       rw[<-hm,j6,put,if_neg hz,List.append_assoc];rfl
     . show(res++ [(i,z)]).length+ _ <= _;rw[hlen];omega
     . have h:=of_decide_eq_false h;have hz:rv z=0:=AJ (by rw[<-hs];exact Decidable.not_not.1 h);rw[<-hm,j6,put,if_pos hz]
 . rw[L3]at hc;simp only[Bool.or_eq_false_iff,decide_eq_false_iff_not]at hc;have h1:a= []:=List.eq_nil_of_length_eq_zero (by omega);have h2:b= []:=List.eq_nil_of_length_eq_zero (by omega);subst h1 h2;rw[H6,List.append_nil]at hm;exact hm
theorem Yo (x:A5 Af.args) (hw:awf Af.args x) (_:Af.pre x):Oz x:=by
 obtain⟨l,n,_⟩:=x;have hl:l.length<=9223372036854775807:=hw.1.1;change List F8 at l;change Int at n;simp only[Oz];refine⟨trivial, ?_⟩;rintro⟨r,_⟩ _ hr;simp only at hr⊢;refine⟨fun h=> ?_,fun h=> ?_⟩
 . have:¬Ex l:=by
    rw[hr]at h;simpa using h
   exact(decide_eq_false fun hv=>this hv.1).symm
 have ha:Ex l:=by
  rw[hr]at h;simpa using h
 refine⟨fun p=>0<=p.1/\∀e∈l.take p.1.toNat,0<=e.1/\e.1<n/\rv e.2≠0,fun p=>((l.length:Int)-p.1).toNat,⟨Int.le_refl _,by simp⟩, ?_⟩;rintro⟨i,_⟩ _ ⟨h0,h1⟩;change Int at i;simp only at h0 h1⊢;refine⟨fun hi=> ?_,fun hi=> ?_⟩
 . have hi:=of_decide_eq_true hi;refine⟨⟨h0,hi⟩,fun _=>trivial, ?_⟩;rintro⟨s,_⟩ hs;simp only at hs⊢;simp only[L3]at hs⊢;have hme:gx C8 l i∈l:=L6 h0 hi;refine⟨fun hb=> ?_,fun hb=> ?_⟩
   . refine(decide_eq_false fun hv=> ?_).symm;have:=hv.2 _ hme;simp only[Bool.or_eq_true,decide_eq_true_eq]at hb;rcases hb with(hb|hb) |hb
     . omega
     . omega
     . have h2:=(hs (by simp only[Bool.or_eq_false_iff,decide_eq_false_iff_not];omega)).2;exact this.2.2 (AJ (by rw[<-h2];exact hb))
   . simp only[Bool.or_eq_false_iff,decide_eq_false_iff_not]at hb;have h2:=(hs (by simp only[Bool.or_eq_false_iff,decide_eq_false_iff_not];exact hb.1)).2;rw[wr (by omega) (by omega)];refine⟨⟨by omega,Cf (d:=C8) (q:=fun e=>0<=e.1/\e.1<n/\rv e.2≠0) h0 hi h1 ⟨by omega,by omega,fun h3=>hb.2 (by rw[h2,h3];rfl)⟩⟩,by omega⟩
 . have hi:=of_decide_eq_false hi;rw[F6 (by omega)]at h1;exact(decide_eq_true ⟨ha,h1⟩).symm
theorem nJ {k:Nat} {v:List F8} (h:EJ k v) {u:G3} (hu:u=zr\/∃e∈v,e.2=u):sz k u:=by
 rcases hu with rfl| ⟨e,he,rfl⟩
 . exact⟨Nat.zero_le _,Nat.zero_le _⟩
 . exact h e he
theorem EV (x:A5 Dm.args) (hw:awf Dm.args x) (hp:Dm.pre x):Wn x:=by
 obtain⟨v,k,_⟩:=x;have hlv:Xe v:=Nc hw.1.2;have hll:v.length<=9223372036854775807:=hw.1.1;change List F8 at v;change Int at k;obtain⟨ha,hs,hl⟩:DT K1 v:=hp;simp only[Wn];refine⟨trivial, ?_⟩;rintro⟨z,_⟩ _ hz;simp only at hz⊢;have hz:z=rc 0:=by rw[hz, <-cG];rfl
 refine⟨fun p=>0<=p.1/\p.1<=(v.length:Int)/\((p.2.1,p.2.2.1),p.2.2.2.1)=rc (C5 (v.take p.1.toNat) k),fun p=>((v.length:Int)-p.1).toNat,⟨Int.le_refl _,Int.natCast_nonneg _,by rw[hz];rfl⟩, ?_⟩;rintro⟨i,b,m,d,_⟩ _ ⟨h0,h1,h2⟩;change Int at i;simp only at h0 h1 h2⊢;refine⟨fun h=> ?_,fun h=> ?_⟩
 . have h:=of_decide_eq_true h;have hme:gx C8 v i∈v:=L6 h0 h;have hts:v.take (i+1).toNat=v.take i.toNat++ [gx C8 v i]:=by
    rw[show(i+1).toNat=i.toNat+1 from by omega,List.take_add_one,H2 (d:=C8) h0 h];rfl
   have hq:=Tn (v:=v.take i.toNat) (k:=K1) (ha.take) (fun e he=>hlv e (List.mem_of_mem_take he)) (fun e he=>hs e (List.mem_of_mem_take he)) (by decide) k;have hse:=hs _ hme;have hct:C5 (v.take (i+1).toNat) k=C5 (v.take i.toNat) k+if(gx C8 v i).1=k then rv (gx C8 v i).2 else 0:=by
    rw[hts,M5];simp only[C5,Rat.add_zero]
   generalize gx C8 v i=e at*;refine⟨fun p=>((p.1,p.2.1),p.2.2.1)=rc (C5 (v.take (i+1).toNat) k),⟨⟨h0,h⟩,fun he=>⟨⟨?_,Er (k:=K1) hse (by decide)⟩, ?_⟩,fun he=> ?_⟩, ?_⟩
   . rw[h2];exact Nt hq (by decide)
   . have he:=of_decide_eq_true he;rintro⟨r,_⟩ _ hr;simp only at hr⊢;show r= _;rw[hr,h2,W5,hct,if_pos he]
   . have he:=of_decide_eq_false he;show((b,m),d)= _;rw[h2,hct,if_neg he,Rat.add_zero]
   . rintro⟨b',m',d',_⟩ _ hr;simp only at hr⊢;rw[wr (by omega) (by omega)];exact⟨⟨by omega,by omega,hr⟩,by omega⟩
 . have h:=of_decide_eq_false h;rw[F6 (by omega)]at h2;exact h2
theorem A4v {l:List G3} {i:Int} (h0:0<=i) (h1:i<(l.length:Int)):gx dQ l i=l.getD i.toNat zr:=P7 (d:=zr) h0 h1
theorem Kn (x:A5 M9.args) (hw:awf M9.args x) (hp:M9.pre x):Ei x:=by
 obtain⟨p,q,f,_⟩:=x;have lq:bL q:=eE hw.2.1;have lf:bL f:=eE hw.2.2.1;change G3 at p q f;obtain⟨hp',hq,hf⟩:sz K1 p/\sz K1 q/\sz K1 f:=hp;simp only[Ei];refine⟨trivial, ?_⟩;rintro⟨s,_⟩ _ hs;simp only at hs⊢;refine⟨fun h=>⟨Er hp' (by decide), ?_⟩,fun _=>⟨⟨Er hf (by decide),Er hq (by decide)⟩, ?_⟩⟩
 . rintro⟨r,_⟩ _ hr;simp only at hr⊢;have h:=of_decide_eq_true h;rw[hs]at h;rw[hr,AJ h,Rat.mul_zero,Rat.add_zero]
 . rintro⟨r,_⟩ _ hr;simp only at hr⊢;have hm:=EA (Vw lf hf (by decide)) (Vw lq hq (by decide));refine⟨⟨Er hp' (by decide),by rw[hr];exact Nt hm (by decide)⟩, ?_⟩;rintro⟨t,_⟩ _ ht;simp only at ht⊢;rw[ht,hr,W5]
theorem Od (x:A5 P5.args) (hw:awf P5.args x) (hp:P5.pre x):Ge x:=by
 obtain⟨a,f,b,_⟩:=x;change List F8 at a b;change G3 at f;obtain⟨⟨a1,a2,a3⟩,hf,b1,b2,b3⟩:DT K1 a/\sz K1 f/\DT K1 b:=hp;simp only[Ge];refine⟨.inl a1, ?_⟩;rintro⟨r,_⟩ _ ⟨hr,_⟩;have hr:r=a:=hr a1;simp only;subst hr;refine⟨.inl b1, ?_⟩;rintro⟨s,_⟩ _ ⟨hs,_⟩;have hs:s=b:=hs b1;simp only;subst hs;refine⟨fun y=>sz K1 y.1/\sz K1 y.2.1,fun y=>rc (rv y.1+rv f*rv y.2.1), ?_,⟨a3,b3,fun u v hu hv=>⟨nJ a2 hu,nJ b2 hv⟩⟩, ?_⟩
 . rintro⟨u,v,_⟩ _ ⟨hu,hv⟩;exact⟨⟨hu,hv,hf⟩,fun z _ hz=>⟨by trivial,hz⟩⟩
 . rintro⟨r,_⟩ _ hr;simp only at hr⊢;rw[hr];obtain⟨m1,_,m3⟩:=YB (fun y=>rc (rv y.1+rv f*rv y.2.1)) (fun p q=>p+rv f*q) (by rw[Rat.mul_zero,Rat.add_zero]) _ _ (fun _ _ _ _=>rfl) a1 b1;exact⟨m1,m3⟩
def aJ:An:= {join:= [(4,⟨[0,1,4,5,6],[0],[],[(1,46,[.val .bool, .val (.sl (.int .u32)), .val (.sl (.int .u32))])],[]⟩)],loop:= [(3,⟨[0,1,4,5],[0],[(6,false,[.val (.int .i64)])],[(1,46,[.val .bool, .val (.sl (.int .u32)), .val (.sl (.int .u32))])],[]⟩)],plan:= [(6,[0,5],[7],true, .done)]}
def IH:An:= {join:= [(7,⟨[5,6,9,10,11],[],[(3,false,[.own (.int .i64) 3])],[],[]⟩)],loop:= [(9,⟨[3,5,6,9,10,11],[1],[(7,false,[.val (.int .i64)])],[],[]⟩),(6,⟨[5,9,10,11],[],[(3,false,[.own (.int .i64) 3]),(6,false,[.val (.int .i64)])],[],[]⟩),(3,⟨[9,10],[],[(3,false,[.own (.int .i64) 3]),(11,false,[.val (.int .i64)])],[],[]⟩)],plan:= [(9,[8,13],[],true, .done),(11,[8,13],[],true, .done)]}
def VX:An:= {join:= [(8,⟨[0,9,10,11],[],[(3,false,[.own tE 79])],[],[]⟩)],loop:= [(3,⟨[0,9,10],[],[(3,false,[.own tE 79]),(11,false,[.val (.int .i64)])],[],[]⟩)]}
def BW:An:= {loop:= [(4,⟨[0,1],[],[(5,false,[.val (.int .i64)])],[],[]⟩)],plan:= [(6,[4,9,16,25,30],[],false, .done)]}
def SK:An:= {loop:= [(2,⟨[0,1],[],[(5,false,[.val (.int .i64)])],[],[]⟩)],plan:= [(4,[4,11,23,29,38],[],true, .done)]}
def BV:An:= {loop:= [(3,⟨[0],[],[(3,false,[.own tE 79]),(4,false,[.val (.int .i64)])],[],[]⟩)]}
def SJ:An:= {loop:= [(5,⟨[0,1,6],[],[(7,false,[.val (.int .i64)])],[],[(0, .row tQ 46)]⟩)]}
def MV:A5 Mc.args->Prop:=fun(x:List EE×Int×Unit)=>True/\∀(r:QQ×Unit),U7 r.1/\True->r.1=rc (0:Rat)->∃(I:Int×Bool×List Int×List Int×Unit->Prop),∃(μ:Int×Bool×List Int×List Int×Unit->Nat),I ((0:Int),r.1.1.1,r.1.1.2,r.1.2,())/\∀(p:Int×Bool×List Int×List Int×Unit),(Ty.int IntKind.i64).wf p.1/\Ty.bool.wf p.2.1/\(Ty.int IntKind.u32).sl.wf p.2.2.1/\(Ty.int IntKind.u32).sl.wf p.2.2.2.1/\True->I p->(decide (p.1<(x.1.length:Int))=true->∃(J:Bool×List Int×List Int×Unit->Prop),((0<=p.1/\p.1<(x.1.length:Int))/\(decide ((gx C8 x.1 p.1).1=x.2.1)=true->(0<=p.1/\p.1<(x.1.length:Int))/\(I9 ((p.2.1,p.2.2.1),p.2.2.2.1)/\I9 (gx C8 x.1 p.1).2)/\∀(r:QQ×Unit),U7 r.1/\True->r.1=rc (rv ((p.2.1,p.2.2.1),p.2.2.2.1)+rv (gx C8 x.1 p.1).2)->J (r.1.1.1,r.1.1.2,r.1.2,()))/\(decide ((gx C8 x.1 p.1).1=x.2.1)=false->J (p.2.1,p.2.2.1,p.2.2.2.1,())))/\∀(a:Bool×List Int×List Int×Unit),Ty.bool.wf a.1/\(Ty.int IntKind.u32).sl.wf a.2.1/\(Ty.int IntKind.u32).sl.wf a.2.2.1/\True->J a->I (IntKind.i64.wrap (p.1+1),a.1,a.2.1,a.2.2.1,())/\μ (IntKind.i64.wrap (p.1+1),a.1,a.2.1,a.2.2.1,())<μ p)/\(decide (p.1<(x.1.length:Int))=false->((p.2.1,p.2.2.1),p.2.2.2.1)=rc (C5 x.1 x.2.1))
def Sw:A5 Bu.args->Prop:=fun(x:List (List EE)×Unit)=>∃(I:List Int×Int×Unit->Prop),∃(μ:List Int×Int×Unit->Nat),I ([],(0:Int),())/\∀(p:List Int×Int×Unit),(Ty.int IntKind.i64).sl.wf p.1/\(Ty.int IntKind.i64).wf p.2.1/\True->I p->(decide (p.2.1<(x.1.length:Int))=true->(0<=p.2.1/\p.2.1<(x.1.length:Int))/\∃(I_1:List Int×Int×Unit->Prop),∃(μ_1:List Int×Int×Unit->Nat),I_1 (p.1,(0:Int),())/\∀(a:List Int×Int×Unit),(Ty.int IntKind.i64).sl.wf a.1/\(Ty.int IntKind.i64).wf a.2.1/\True->I_1 a->(decide (a.2.1<(↑(gx [] x.1 p.2.1).length:Int))=true->∃(J:List Int×Unit->Prop),(∃(I:Int×Unit->Prop),∃(μ:Int×Unit->Nat),I ((0:Int),())/\∀(b:Int×Unit),(Ty.int IntKind.i64).wf b.1/\True->I b->(decide (b.1<(↑a.1.length:Int))=true->0<=b.1/\b.1<(↑a.1.length:Int))/\(decide (b.1<(↑a.1.length:Int))=true->0<=a.2.1/\a.2.1<(↑(gx [] x.1 p.2.1).length:Int))/\(E5 (decide (b.1<(↑a.1.length:Int))) (decide (a.1.getD (Int.toNat b.1) (0:Int)<(gx C8 (gx [] x.1 p.2.1) a.2.1).1)) false=true->I (IntKind.i64.wrap (b.1+1),())/\μ (IntKind.i64.wrap (b.1+1),())<μ b)/\(E5 (decide (b.1<(↑a.1.length:Int))) (decide (a.1.getD (Int.toNat b.1) (0:Int)<(gx C8 (gx [] x.1 p.2.1) a.2.1).1)) false=false->(decide (b.1<(↑a.1.length:Int))=true->0<=b.1/\b.1<(↑a.1.length:Int))/\(decide (b.1<(↑a.1.length:Int))=true->0<=a.2.1/\a.2.1<(↑(gx [] x.1 p.2.1).length:Int))/\(E5 (decide (b.1<(↑a.1.length:Int))) (decide (a.1.getD (Int.toNat b.1) (0:Int)=(gx C8 (gx [] x.1 p.2.1) a.2.1).1)) false=true->J (a.1,()))/\(E5 (decide (b.1<(↑a.1.length:Int))) (decide (a.1.getD (Int.toNat b.1) (0:Int)=(gx C8 (gx [] x.1 p.2.1) a.2.1).1)) false=false->((0:Int)<=(0:Int)/\0<=b.1/\b.1<=(↑a.1.length:Int))/\(((0:Nat)+(List.drop (Int.toNat (0:Int)) (List.take (Int.toNat b.1) a.1)).length)*(8:Nat)<=(140737488355328:Nat)/\(0:Nat)+(List.drop (Int.toNat (0:Int)) (List.take (Int.toNat b.1) a.1)).length<=9223372036854775807)/\(0<=a.2.1/\a.2.1<(↑(gx [] x.1 p.2.1).length:Int))/\(((List.drop (Int.toNat (0:Int)) (List.take (Int.toNat b.1) a.1)).length+ [(gx C8 (gx [] x.1 p.2.1) a.2.1).1].length)*(8:Nat)<=(140737488355328:Nat)/\(List.drop (Int.toNat (0:Int)) (List.take (Int.toNat b.1) a.1)).length+ [(gx C8 (gx [] x.1 p.2.1) a.2.1).1].length<=9223372036854775807)/\(0<=b.1/\b.1<=(↑a.1.length:Int)/\(↑a.1.length:Int)<=(↑a.1.length:Int))/\(((List.drop (Int.toNat (0:Int)) (List.take (Int.toNat b.1) a.1)++ [(gx C8 (gx [] x.1 p.2.1) a.2.1).1]).length+(List.drop (Int.toNat b.1) (List.take (↑a.1.length:Int).toNat a.1)).length)*(8:Nat)<=(140737488355328:Nat)/\(List.drop (Int.toNat (0:Int)) (List.take (Int.toNat b.1) a.1)++ [(gx C8 (gx [] x.1 p.2.1) a.2.1).1]).length+(List.drop (Int.toNat b.1) (List.take (↑a.1.length:Int).toNat a.1)).length<=9223372036854775807)/\J (List.drop (Int.toNat (0:Int)) (List.take (Int.toNat b.1) a.1)++ [(gx C8 (gx [] x.1 p.2.1) a.2.1).1]++List.drop (Int.toNat b.1) (List.take (↑a.1.length:Int).toNat a.1),()))))/\∀(p:List Int×Unit),(Ty.int IntKind.i64).sl.wf p.1/\True->J p->I_1 (p.1,IntKind.i64.wrap (a.2.1+1),())/\μ_1 (p.1,IntKind.i64.wrap (a.2.1+1),())<μ_1 a)/\(decide (a.2.1<(↑(gx [] x.1 p.2.1).length:Int))=false->I (a.1,IntKind.i64.wrap (p.2.1+1),())/\μ (a.1,IntKind.i64.wrap (p.2.1+1),())<μ p))/\(decide (p.2.1<(x.1.length:Int))=false->List.Pairwise (fun(x1 x2:Int)=>x1<x2) p.1/\∀(i:Int),i∈p.1↔∃(v:List EE),v∈x.1/\∃(e:EE),e∈v/\e.1=i)
def FV:A5 Hz.args->Prop:=fun(x:List EE×Unit)=>([x.1].length<=(4:Nat)/\∀(v:List EE),v∈ [x.1]->v.length<=(100000:Nat))/\∀(r:List Int×Unit),WfI r.1/\True->(List.Pairwise (fun(x1 x2:Int)=>x1<x2) r.1/\∀(i:Int),i∈r.1↔∃(v:List EE),v∈ [x.1]/\∃(e:EE),e∈v/\e.1=i)->∃(I:List EE×Int×Unit->Prop),∃(μ:List EE×Int×Unit->Nat),I ([],(0:Int),())/\∀(p:List EE×Int×Unit),tE.sl.wf p.1/\(Ty.int IntKind.i64).wf p.2.1/\True->I p->(decide (p.2.1<(r.1.length:Int))=true->∃(J:List EE×Unit->Prop),((0<=p.2.1/\p.2.1<(r.1.length:Int))/\Rc x.1/\∀(a:QQ×Unit),U7 a.1/\True->a.1=rc (C5 x.1 (gx (0:Int) r.1 p.2.1))->I9 a.1/\∀(b:Int×Unit),L4 b.1/\True->b.1=(rv a.1).num.sign->(decide (b.1≠0)=true->((p.1.length+ [(gx (0:Int) r.1 p.2.1,a.1)].length)*(64:Nat)<=(140737488355328:Nat)/\p.1.length+ [(gx (0:Int) r.1 p.2.1,a.1)].length<=9223372036854775807)/\J (p.1++ [(gx (0:Int) r.1 p.2.1,a.1)],()))/\(decide (b.1≠0)=false->J (p.1,())))/\∀(c:List EE×Unit),tE.sl.wf c.1/\True->J c->I (c.1,IntKind.i64.wrap (p.2.1+1),())/\μ (c.1,IntKind.i64.wrap (p.2.1+1),())<μ p)/\(decide (p.2.1<(r.1.length:Int))=false->Ey p.1/\∀(i:Int),C5 p.1 i=C5 x.1 i)
def Mi:A5 X0.args->Prop:=fun(x:List EE×List EE×Unit)=>(decide ((x.1.length:Int)≠(x.2.1.length:Int))=true->false=decide (x.1=x.2.1/\∀(e:EE),e∈x.1->e.2=rc (rv e.2)))/\(decide ((x.1.length:Int)≠(x.2.1.length:Int))=false->∃(I:Int×Unit->Prop),∃(μ:Int×Unit->Nat),I ((0:Int),())/\∀(p:Int×Unit),(Ty.int IntKind.i64).wf p.1/\True->I p->(decide (p.1<(x.1.length:Int))=true->(0<=p.1/\p.1<(x.1.length:Int))/\(0<=p.1/\p.1<(x.2.1.length:Int))/\(decide ((gx C8 x.1 p.1).1≠(gx C8 x.2.1 p.1).1)=false->0<=p.1/\p.1<(x.1.length:Int))/\(decide ((gx C8 x.1 p.1).1≠(gx C8 x.2.1 p.1).1)=false->I9 (gx C8 x.1 p.1).2)/\∀(r:Bool×Unit),(decide ((gx C8 x.1 p.1).1≠(gx C8 x.2.1 p.1).1)=false->(True/\True)/\r.1=decide ((gx C8 x.1 p.1).2=rc (rv (gx C8 x.1 p.1).2)))->((E5 (decide ((gx C8 x.1 p.1).1≠(gx C8 x.2.1 p.1).1)) true !r.1)=false->0<=p.1/\p.1<(x.1.length:Int))/\((E5 (decide ((gx C8 x.1 p.1).1≠(gx C8 x.2.1 p.1).1)) true !r.1)=false->0<=p.1/\p.1<(x.2.1.length:Int))/\((E5 (decide ((gx C8 x.1 p.1).1≠(gx C8 x.2.1 p.1).1)) true !r.1)=false->True)/\∀(a:Bool×Unit),((E5 (decide ((gx C8 x.1 p.1).1≠(gx C8 x.2.1 p.1).1)) true !r.1)=false->(True/\True)/\a.1=decide ((gx C8 x.1 p.1).2=(gx C8 x.2.1 p.1).2))->((E5 (E5 (decide ((gx C8 x.1 p.1).1≠(gx C8 x.2.1 p.1).1)) true !r.1) true !a.1)=true->false=decide (x.1=x.2.1/\∀(e:EE),e∈x.1->e.2=rc (rv e.2)))/\((E5 (E5 (decide ((gx C8 x.1 p.1).1≠(gx C8 x.2.1 p.1).1)) true !r.1) true !a.1)=false->I (IntKind.i64.wrap (p.1+1),())/\μ (IntKind.i64.wrap (p.1+1),())<μ p))/\(decide (p.1<(x.1.length:Int))=false->true=decide (x.1=x.2.1/\∀(e:EE),e∈x.1->e.2=rc (rv e.2))))
def BH:A5 Fi.args->Prop:=fun(x:List EE×Int×Unit)=>∃(I:Int×Unit->Prop),∃(μ:Int×Unit->Nat),I ((0:Int),())/\∀(p:Int×Unit),(Ty.int IntKind.i64).wf p.1/\True->I p->(decide (p.1<(x.1.length:Int))=true->(0<=p.1/\p.1<(x.1.length:Int))/\(decide ((gx C8 x.1 p.1).1<(0:Int))=false->0<=p.1/\p.1<(x.1.length:Int))/\(decide (0<p.1)=true/\E5 (decide ((gx C8 x.1 p.1).1<(0:Int))) true (decide (x.2.1<=(gx C8 x.1 p.1).1))=false->0<=p.1/\p.1<(x.1.length:Int))/\(decide (0<p.1)=true/\E5 (decide ((gx C8 x.1 p.1).1<(0:Int))) true (decide (x.2.1<=(gx C8 x.1 p.1).1))=false->(0:Int)<=IntKind.i64.wrap (p.1-1)/\IntKind.i64.wrap (p.1-1)<(x.1.length:Int))/\(E5 (E5 (decide ((gx C8 x.1 p.1).1<(0:Int))) true (decide (x.2.1<=(gx C8 x.1 p.1).1))) true (E5 (decide (0<p.1)) (decide ((gx C8 x.1 p.1).1<=(gx C8 x.1 (IntKind.i64.wrap (p.1-1))).1)) false)=false->0<=p.1/\p.1<(x.1.length:Int))/\(E5 (E5 (decide ((gx C8 x.1 p.1).1<(0:Int))) true (decide (x.2.1<=(gx C8 x.1 p.1).1))) true (E5 (decide (0<p.1)) (decide ((gx C8 x.1 p.1).1<=(gx C8 x.1 (IntKind.i64.wrap (p.1-1))).1)) false)=false->I9 (gx C8 x.1 p.1).2)/\∀(r:Int×Unit),(E5 (E5 (decide ((gx C8 x.1 p.1).1<(0:Int))) true (decide (x.2.1<=(gx C8 x.1 p.1).1))) true (E5 (decide (0<p.1)) (decide ((gx C8 x.1 p.1).1<=(gx C8 x.1 (IntKind.i64.wrap (p.1-1))).1)) false)=false->(L4 r.1/\True)/\r.1=(rv (gx C8 x.1 p.1).2).num.sign)->(E5 (E5 (E5 (decide ((gx C8 x.1 p.1).1<(0:Int))) true (decide (x.2.1<=(gx C8 x.1 p.1).1))) true (E5 (decide (0<p.1)) (decide ((gx C8 x.1 p.1).1<=(gx C8 x.1 (IntKind.i64.wrap (p.1-1))).1)) false)) true (decide (r.1=0))=true->false=decide (G7 x.1 x.2.1))/\(E5 (E5 (E5 (decide ((gx C8 x.1 p.1).1<(0:Int))) true (decide (x.2.1<=(gx C8 x.1 p.1).1))) true (E5 (decide (0<p.1)) (decide ((gx C8 x.1 p.1).1<=(gx C8 x.1 (IntKind.i64.wrap (p.1-1))).1)) false)) true (decide (r.1=0))=false->I (IntKind.i64.wrap (p.1+1),())/\μ (IntKind.i64.wrap (p.1+1),())<μ p))/\(decide (p.1<(x.1.length:Int))=false->true=decide (G7 x.1 x.2.1))
def Mh:A5 W9.args->Prop:=fun(x:List QQ×Unit)=>∃(I:List EE×Int×Unit->Prop),∃(μ:List EE×Int×Unit->Nat),I ([],(0:Int),())/\∀(p:List EE×Int×Unit),tE.sl.wf p.1/\(Ty.int IntKind.i64).wf p.2.1/\True->I p->(decide (p.2.1<(x.1.length:Int))=true->(0<=p.2.1/\p.2.1<(x.1.length:Int))/\((p.1.length+ [(p.2.1,gx dQ x.1 p.2.1)].length)*(64:Nat)<=(140737488355328:Nat)/\p.1.length+ [(p.2.1,gx dQ x.1 p.2.1)].length<=9223372036854775807)/\I (p.1++ [(p.2.1,gx dQ x.1 p.2.1)],IntKind.i64.wrap (p.2.1+1),())/\μ (p.1++ [(p.2.1,gx dQ x.1 p.2.1)],IntKind.i64.wrap (p.2.1+1),())<μ p)/\(decide (p.2.1<(x.1.length:Int))=false->Rc p.1/\∀(r:List EE×Unit),Mn r.1/\True->lO (C5 p.1) r.1->Ey r.1/\(∀(e:F8),e∈r.1->0<=e.1/\e.1<(↑x.1.length:Int))/\∀(j:Nat),j<x.1.length->C5 r.1 (↑j:Int)=rv (x.1.getD j zr))
def BF:A5 Fh.args->Prop:=fun(x:List EE×Int×Unit)=>(E5 (decide (x.2.1<0)) true (decide (16384<x.2.1))=false->Rc x.1)/\∀(r:List EE×Unit),(E5 (decide (x.2.1<0)) true (decide (16384<x.2.1))=false->(Mn r.1/\True)/\lO (C5 x.1) r.1)->(E5 (decide (x.2.1<0)) true (decide (16384<x.2.1))=false->EJ K1 r.1)/\∀(a:Bool×Unit),(E5 (decide (x.2.1<0)) true (decide (16384<x.2.1))=false->(True/\True)/\a.1=decide (G7 r.1 x.2.1))->((E5 (E5 (decide (x.2.1<0)) true (decide (16384<x.2.1))) true !a.1)=true->Pj QQ=dl x.2.1 (C5 x.1)/\false=true)/\((E5 (E5 (decide (x.2.1<0)) true (decide (16384<x.2.1))) true !a.1)=false->(0<=x.2.1/\x.2.1<=x.2.1/\(↑(56:Nat):Int)*x.2.1<=281474976710656/\x.2.1<=9223372036854775807)/\∃(I:Int×List QQ×Unit->Prop),∃(μ:Int×List QQ×Unit->Nat),I ((0:Int),List.replicate (Int.toNat x.2.1) dQ,())/\∀(p:Int×List QQ×Unit),(Ty.int IntKind.i64).wf p.1/\WfL p.2.1/\True->I p->(decide (p.1<x.2.1)=true->Rc x.1/\∀(r:QQ×Unit),U7 r.1/\True->r.1=rc (C5 x.1 p.1)->(0<=p.1/\p.1<(p.2.1.length:Int))/\I (IntKind.i64.wrap (p.1+1),List.set p.2.1 (Int.toNat p.1) r.1,())/\μ (IntKind.i64.wrap (p.1+1),List.set p.2.1 (Int.toNat p.1) r.1,())<μ p)/\(decide (p.1<x.2.1)=false->p.2.1=dl x.2.1 (C5 x.1)/\true=true))
end Go.Proofs.YtdlnpbmmdnmkaaaGreat
