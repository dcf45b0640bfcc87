/- Part. -/
import Derived.Test.YtkdmjgcjpmcjjaaGreatK38E
namespace Go.Proofs.YtkdmjgcjpmcjjaaGreat
open Go.Vc Go.Gw
theorem B6i (x:A7 H9.args) (hw:awf H9.args x) (hp:H9.pre x):A3b x:=by
 obtain⟨a,b,_⟩:=x;have ha:A9 a:=A6 hw.1.2;have hb:A9 b:=A6 hw.2.1.2;change List Int at a b;have la:a.length<=17592186044416:=hp;have n1:=C5 ha;simp only[A3b];refine⟨trivial, ?_⟩;rintro⟨r,_⟩ _ hr;refine⟨trivial, ?_⟩;rintro⟨s,_⟩ _ hs;simp only at hr hs⊢;have hrv:nv r=nv a:=by rw[hr,H6]
 have hsv:nv s=nv b:=by rw[hs,H6]
 have hrl:r.length<=a.length:=by rw[hr];exact n1
 have hra:A9 r:=hr▸O4 _;have hsb:A9 s:=hs▸O4 _;refine⟨fun h=> ?_,fun h=> ?_⟩
 . have h:=of_decide_eq_true h;have h0:nv b=0:=by rw[<-hsv,List.eq_nil_of_length_eq_zero (l:=s) (by omega)];rfl
   exact⟨fun _=>⟨by trivial,by trivial,by trivial⟩,fun h1=>absurd h0 h1⟩
 have h:=of_decide_eq_false h;have hb0:nv b≠0:=fun h0=>h (by rw[hs,h0,T1];rfl)
 refine⟨trivial, ?_⟩;rintro⟨d,_⟩ _ hd;simp only at hd⊢;rw[hrv,hsv]at hd;refine⟨fun h=> ?_,fun h=> ?_⟩
 . have h:=of_decide_eq_true h;have hlt:nv a<nv b:=by
    rcases Nat.lt_or_ge (nv a) (nv b)with h1|h1
    . exact h1
    . unfold B9q at hd;rw[if_neg (by omega)]at hd;split at hd<;>omega
   refine⟨Nat.le_trans hrl (Nat.le_trans la (by decide)), ?_⟩;rintro⟨t,_⟩ _ ht;simp only at ht⊢;refine⟨fun h0=>absurd h0 hb0,fun _=>⟨?_, ?_,by trivial⟩⟩
   . rw[Nat.div_eq_of_lt hlt,T1]
   . rw[Nat.mod_eq_of_lt hlt,ht,hrv]
 have h:=of_decide_eq_false h;have hge:nv b<=nv a:=by
  rcases Nat.lt_or_ge (nv a) (nv b)with h1|h1
  . rw[B3e h1]at hd;omega
  . exact h1
 have hsr:s.length<=r.length:=by rw[hr,hs];exact O0 hge
 refine⟨fun h2=> ?_,fun h2=> ?_⟩
 . have h2:=of_decide_eq_true h2;refine⟨by omega, ?_⟩;rintro⟨x,_⟩ ⟨hx,_⟩ hxe;refine⟨by omega, ?_⟩;rintro⟨y,_⟩ ⟨hy,_⟩ hye;change Int at x y;simp only at hx hy hxe hye⊢;rw[hrv]at hxe;rw[hsv]at hye;have hxm:x<=18446744073709551615:=by have:=hx.2;rw[C5h]at this;exact this
   have e1:Int.tdiv x y=((nv a/nv b:Nat):Int):=by rw[hxe,hye];rfl
   have e2:Int.tmod x y=((nv a%nv b:Nat):Int):=by rw[hxe,hye];rfl
   have hq:nv a/nv b<=nv a:=Nat.div_le_self _ _;refine⟨by omega,by omega,trivial, ?_⟩;rintro⟨q,_⟩ _ hq';refine⟨trivial, ?_⟩;rintro⟨m,_⟩ _ hm;simp only at hq' hm⊢;refine⟨fun h0=>absurd h0 hb0,fun _=>⟨?_, ?_,by trivial⟩⟩
   . rw[hq',e1];generalize nv a/nv b=Q at*;rw[w64 (by omega) (by omega)];rfl
   . rw[hm,e2];rfl
 have h2:=of_decide_eq_false h2;refine⟨fun h3=> ?_,fun h3=> ?_⟩
 . have h3:=of_decide_eq_true h3;have e:(gx (0:Int) s (0:Int)).toNat=nv b:=by
    rw[<-hsv];obtain⟨z,rfl⟩:∃z,s= [z]:=List.length_eq_one_iff.1 (by omega);show z.toNat=z.toNat+4294967296*0;omega
   have hg:=B8j hsb (i:=0) (Int.le_refl _) (by omega);refine⟨⟨Int.le_refl _,by omega⟩,⟨Nat.le_trans hrl la,by omega⟩, ?_⟩;rintro⟨q,m,_⟩ _ hqm;simp only at hqm⊢;rw[e,hrv]at hqm;exact⟨fun h0=>absurd h0 hb0,fun _=>⟨hqm.1,hqm.2,by trivial⟩⟩
 have h3:=of_decide_eq_false h3;refine⟨⟨Nat.le_trans hrl la,by omega,hsr,by rw[hs];exact E8l hb0⟩, ?_⟩;rintro⟨q,m,_⟩ _ hqm;simp only at hqm⊢;rw[hrv,hsv]at hqm;exact⟨fun h0=>absurd h0 hb0,fun _=>⟨hqm.1,hqm.2,by trivial⟩⟩
structure F8q (A B A' B':Nat):Prop where
 g:Nat.gcd A' B'=Nat.gcd A B
 le:B'<=A'
 lt:A'+B'<A+B
 top:A'<=A
theorem F8k {A B:Nat} (h:B<=A) (hB:0<B):F8q A B B (A%B) where
 g:=by rw[Nat.gcd_comm A B,Nat.gcd_comm B];exact(Nat.gcd_rec B A).symm
 le:=Nat.le_of_lt (Nat.mod_lt _ hB)
 lt:=by have:=Nat.mod_lt A hB;omega
 top:=h
theorem F9u {A B:Nat} {u0 u1 v0 v1:Int} {ev:Bool} (hB:0<B) (h:H0k A B u0 u1 v0 v1 ev) (hv:v0≠0):
 (ev=true->B*v0.toNat<=A*u0.toNat/\A*u1.toNat<=B*v1.toNat/\F8q A B (A*u0.toNat-B*v0.toNat) (B*v1.toNat-A*u1.toNat))/\
 (ev=false->A*u0.toNat<=B*v0.toNat/\B*v1.toNat<=A*u1.toNat/\F8q A B (B*v0.toNat-A*u0.toNat) (A*u1.toNat-B*v1.toNat)):=by
 rcases h with h| ⟨A',B',eA,eB,h0,h1,iA,iB,p1,p2,p3,p4⟩
 . exact absurd h hv
 have hg:=G1v (A:=A) (B:=B) (A':=A') (B':=B') (u0:=u0) (u1:=u1) (v0:=v0) (v1:=v1) (s:=if ev then u0 else -u0) (t:=if ev then -v0 else v0) (p:=if ev then -u1 else u1) (q:=if ev then v1 else -v1) iA iB (by rw[eA];cases ev<;>simp<;>grind) (by rw[eB];cases ev<;>simp<;>grind);obtain⟨U0,rfl⟩:=Int.eq_ofNat_of_zero_le p3;obtain⟨U1,rfl⟩:=Int.eq_ofNat_of_zero_le p4;obtain⟨V0,rfl⟩:=Int.eq_ofNat_of_zero_le (show(0:Int)<=v0 by omega);obtain⟨V1,rfl⟩:=Int.eq_ofNat_of_zero_le (show(0:Int)<=v1 by omega);obtain⟨b,rfl⟩:=Int.eq_ofNat_of_zero_le h0;obtain⟨a,rfl⟩:=Int.eq_ofNat_of_zero_le (Int.le_trans h0 h1);simp only[Int.toNat_natCast];have k1:(1:Int)*(a:Int)<=(V1:Int)*a:=Int.mul_le_mul_of_nonneg_right p2 (by omega);have k2:(1:Int)*(b:Int)<=(V0:Int)*b:=Int.mul_le_mul_of_nonneg_right p1 (by omega);have m1:∀x y:Nat,((x*y:Nat):Int)=(y:Int)*(x:Int):=fun x y=>by rw[Int.natCast_mul,Int.mul_comm]
 have e1:=m1 A U0;have e2:=m1 B V0;have e3:=m1 A U1;have e4:=m1 B V1;have hst:F8q A B a b:=⟨hg.symm,by omega,by omega,by omega⟩;refine⟨fun he=> ?_,fun he=> ?_⟩
 . subst he;simp only[if_true]at eA eB;have z1:A*U0-B*V0=a:=by omega
   have z2:B*V1-A*U1=b:=by omega
   refine⟨by omega,by omega, ?_⟩;rw[z1,z2];exact hst
 . subst he;simp only[Bool.false_eq_true,if_false]at eA eB;have z1:B*V0-A*U0=a:=by omega
   have z2:A*U1-B*V1=b:=by omega
   refine⟨by omega,by omega, ?_⟩;rw[z1,z2];exact hst
theorem G1y {x y:Int} (hx:0<=x) (hy:0<y):Nat.gcd y.toNat (Int.tmod x y).toNat=Nat.gcd x.toNat y.toNat/\(Int.tmod x y).toNat<y.toNat:=by
 obtain⟨a,rfl⟩:=Int.eq_ofNat_of_zero_le hx;obtain⟨b,rfl⟩:=Int.eq_ofNat_of_zero_le (Int.le_of_lt hy);have e:Int.tmod (a:Int) (b:Int)=((a%b:Nat):Int):=rfl;simp only[e,Int.toNat_natCast];have hb:0<b:=by omega
 exact⟨by rw[Nat.gcd_comm a b,Nat.gcd_comm b];exact(Nat.gcd_rec b a).symm,Nat.mod_lt _ hb⟩
structure G9d (G:Nat) (a b:List Int):Prop where
 ea:a=nc (nv a)
 eb:b=nc (nv b)
 le:nv b<=nv a
 g:Nat.gcd (nv a) (nv b)=G
 len:a.length<=8796093022208
theorem G9d.step {G:Nat} {a b a' b':List Int} {A' B':Nat} (h:G9d G a b) (s:F8q (nv a) (nv b) A' B') (ha:a'=nc A') (hb:b'=nc B'):G9d G a' b'/\nv a'+nv b'<nv a+nv b:=by
 have e1:nv a'=A':=by rw[ha,H6]
 have e2:nv b'=B':=by rw[hb,H6]
 refine⟨⟨by rw[e1];exact ha,by rw[e2];exact hb,by rw[e1,e2];exact s.le,by rw[e1,e2,s.g];exact h.g, ?_⟩,by rw[e1,e2];exact s.lt⟩;have:=O0 s.top;rw[<-h.ea]at this;rw[ha];exact Nat.le_trans this h.len
theorem C8e (x:A7 R8.args) (hw:awf R8.args x) (hp:R8.pre x):A7g x:=by
 obtain⟨a,b,_⟩:=x;have ha:A9 a:=A6 hw.1.2;have hb:A9 b:=A6 hw.2.1.2;change List Int at a b;obtain⟨la,lb⟩:a.length<=8796093022208/\b.length<=8796093022208:=hp;have n1:=C5 ha;have n2:=C5 hb;simp only[A7g];refine⟨trivial, ?_⟩;rintro⟨r,_⟩ _ hr;refine⟨trivial, ?_⟩;rintro⟨s,_⟩ _ hs;simp only at hr hs⊢;have hrv:nv r=nv a:=by rw[hr,H6]
 have hsv:nv s=nv b:=by rw[hs,H6]
 refine⟨fun p=>G9d (Nat.gcd (nv a) (nv b)) p.1 p.2.1,⟨trivial, ?_⟩, ?_⟩
 . rintro⟨d,_⟩ _ hd;simp only at hd⊢;rw[hrv,hsv]at hd;refine⟨fun h=> ?_,fun h=> ?_⟩
   . have h:=of_decide_eq_true h;refine⟨by rw[hsv];exact hs,by rw[hrv];exact hr, ?_,by rw[hrv,hsv,Nat.gcd_comm],by rw[hs];omega⟩;rw[hrv,hsv];rcases Nat.lt_or_ge (nv a) (nv b)with h1|h1
     . omega
     . unfold B9q at hd;rw[if_neg (by omega)]at hd;split at hd<;>omega
   . have h:=of_decide_eq_false h;refine⟨by rw[hrv];exact hr,by rw[hsv];exact hs, ?_,by rw[hrv,hsv],by rw[hr];omega⟩;rw[hrv,hsv];rcases Nat.lt_or_ge (nv a) (nv b)with h1|h1
     . rw[B3e h1]at hd;omega
     . exact h1
 rintro⟨a0,b0,_⟩ _ h0;simp only at h0⊢;refine⟨fun p=>G9d (Nat.gcd (nv a) (nv b)) p.1 p.2.1,fun p=>nv p.1+nv p.2.1,h0, ?_⟩;rintro⟨a',b',_⟩ ⟨hwa,hwb,_⟩ hI;have ha':A9 a':=A6 hwa.2;have hb':A9 b':=A6 hwb.2;change List Int at a' b';simp only at hI⊢;have hlen:=hI.len;have hbl:b'.length<=a'.length:=by rw[hI.ea,hI.eb];exact O0 hI.le
 refine⟨fun hc=> ?_,fun hc=> ?_⟩
 . have hc:=of_decide_eq_true hc;have hB:0<nv b':=by
    rcases Nat.eq_zero_or_pos (nv b')with h1|h1
    . have:=hI.eb;rw[h1,T1]at this;rw[this]at hc;exact absurd hc (by simp)
    . exact h1
   have hA0:nv a'≠0:=by have:=hI.le;omega
   refine⟨fun h2=> ?_,fun h2=> ?_⟩
   . have h2:=of_decide_eq_true h2;refine⟨by omega, ?_⟩;rintro⟨x,_⟩ _ hx;refine⟨by omega, ?_⟩;rintro⟨y,_⟩ _ hy;simp only at hx hy⊢;refine⟨fun p=>0<=p.1/\0<=p.2.1/\Nat.gcd p.1.toNat p.2.1.toNat=Nat.gcd (nv a) (nv b),fun p=>p.2.1.toNat,⟨by show(0:Int)<=x;omega,by show(0:Int)<=y;omega, ?_⟩, ?_⟩
     . show Nat.gcd x.toNat y.toNat= _;rw[hx,hy,Int.toNat_natCast,Int.toNat_natCast];exact hI.g
     rintro⟨X,Y,_⟩ _ ⟨x0,y0,hg⟩;change Int at X Y;simp only at x0 y0 hg⊢;refine⟨fun h3=> ?_,fun h3=> ?_⟩
     . have h3:=of_decide_eq_true h3;obtain⟨g1,g2⟩:=G1y x0 (show 0<Y by omega);exact⟨h3,⟨y0,Int.tmod_nonneg _ x0,by rw[g1];exact hg⟩,g2⟩
     . have h3:Y=0:=Decidable.of_not_not (of_decide_eq_false h3);refine⟨trivial, ?_⟩;rintro⟨q,_⟩ _ hq;simp only at hq⊢;rw[h3]at hg;rw[hq, <-hg];exact congrArg nc (Nat.gcd_zero_right _).symm
   . have h2:=of_decide_eq_false h2;refine⟨⟨by omega,by omega,by rw[hI.ea];exact E8l hA0,hI.le,hbl⟩, ?_⟩;rintro⟨⟨u0,u1,v0,v1,ev⟩,_⟩ _ hL;change Int at u0 u1 v0 v1;change Bool at ev;simp only at hL⊢;refine⟨fun h4=> ?_,fun h4=> ?_⟩
     . refine⟨by omega, ?_⟩;rintro⟨q,m,ok,_⟩ _ hqm;simp only at hqm⊢;obtain⟨_,hm,_⟩:=hqm.2 (by omega);exact hI.step (F8k hI.le hB) hI.eb hm
     . have h4:=of_decide_eq_false h4;obtain⟨w1,w2⟩:=F9u hB hL h4;refine⟨fun he=> ?_,fun he=> ?_⟩
       . obtain⟨c1,c2,st⟩:=w1 he;refine⟨⟨by omega,by omega,c1⟩, ?_⟩;rintro⟨p,_⟩ _ hp;refine⟨⟨by omega,by omega,c2⟩, ?_⟩;rintro⟨q,_⟩ _ hq;simp only at hp hq⊢;exact hI.step st hp hq
       . obtain⟨c1,c2,st⟩:=w2 he;refine⟨⟨by omega,by omega,c1⟩, ?_⟩;rintro⟨p,_⟩ _ hp;refine⟨⟨by omega,by omega,c2⟩, ?_⟩;rintro⟨q,_⟩ _ hq;simp only at hp hq⊢;exact hI.step st hp hq
 . have hc:=of_decide_eq_false hc;refine⟨by show a'.length<=35184372088832;omega, ?_⟩;rintro⟨q,_⟩ _ hq;simp only at hq⊢;have hb0:nv b'=0:=by rw[List.eq_nil_of_length_eq_zero (l:=b') (by omega)];rfl
   have:=hI.g;rw[hb0,Nat.gcd_zero_right]at this;rw[hq,this]
def C5x:An:= {}
def A8k:B4:= []
def C3z:An:= {}
def A7c:B4:= [(179,E5),(180,C4)]
def D2e:An:= {}
def B4b:B4:= [(172,C8)]
def D5r:An:= {plan:= [(1,[1,3],[6],true,(.p 0 (.q 1 (.p 2 (.q 3 (.e 4 (.e 5 (.e 6 .done))))))))]}
def B4e:B4:= [(179,E5),(183,G6)]
def D6q:An:= {plan:= [(1,[1,4],[7],true,(.p 0 (.q 1 (.p 2 (.p 3 (.q 4 (.e 5 (.e 6 (.e 7 .done)))))))))]}
def B7p:B4:= [(179,E5),(183,G6)]
def D6j:An:= {plan:= [(2,[1,3,5],[8],true,(.p 0 (.q 1 (.p 2 (.q 3 (.p 4 (.q 5 (.e 6 (.e 7 (.e 8 .done))))))))))]}
def B7m:B4:= [(179,E5),(211,R0),(212,O9)]
def D8m:An:= {plan:= [(1,[1,3,6,8],[11],true,(.p 0 (.q 1 (.p 2 (.q 3 (.p 4 (.p 5 (.q 6 (.p 7 (.q 8 (.e 9 (.e 10 (.e 11 .done)))))))))))))]}
def B7k:B4:= [(142,K3),(179,E5)]
def A2z:A7 E5.args->Prop:=fun(x:Bool×List Int×Unit)=>(sel x.1 (decide ((0:Int)<(x.2.1.length:Int))) false,x.2.1)=(x.1&&decide (x.2.1≠ []),x.2.1)
theorem B6l (x:A7 E5.args):H4 Tryz.prog tys A8k C5x E5 Tryz.f179 x=A2z x:=by kernel_rfl
def A2j:A7 I9.args->Prop:=fun(x:Int×Unit)=>(decide (x.1<0)=true->True/\∀(r:List Int×Unit),WfU r.1/\True->r.1=nc (IntKind.u64.wrap (-IntKind.u64.wrap x.1)).toNat->True/\∀(a:(Bool×List Int)×Unit),WfZ a.1/\True->a.1=(true&&decide (r.1≠ []),r.1)->a.1=ic x.1)/\(decide (x.1<0)=false->True/\∀(r:List Int×Unit),WfU r.1/\True->r.1=nc (IntKind.u64.wrap x.1).toNat->True/\∀(a:(Bool×List Int)×Unit),WfZ a.1/\True->a.1=(false&&decide (r.1≠ []),r.1)->a.1=ic x.1)
theorem B3v (x:A7 I9.args):H4 Tryz.prog tys A7c C3z I9 Tryz.f136 x=A2j x:=by kernel_rfl
def A5g:A7 P4.args->Prop:=fun(x:(Bool×List Int)×Unit)=>True/\∀(r:Int×Unit),D5 r.1/\True->r.1=B9q (nv x.1.2) (nv [])->(decide (r.1=0)=true->(0:Int)=(iv x.1).sign)/\(decide (r.1=0)=false->(x.1.1=true->(-1:Int)=(iv x.1).sign)/\(x.1.1=false->(1:Int)=(iv x.1).sign))
theorem C0u (x:A7 P4.args):H4 Tryz.prog tys B4b D2e P4 Tryz.f198 x=A5g x:=by kernel_rfl
def A5u:A7 P3.args->Prop:=fun(x:(Bool×List Int)×Unit)=>sh0 x.1.2/\∀(r:List Int×Unit),WfU r.1/\True->r.1=nc (nv x.1.2)->True/\∀(a:(Bool×List Int)×Unit),WfZ a.1/\True->a.1=(x.1.1&&decide (r.1≠ []),r.1)->a.1=ic (iv x.1)
theorem C0r (x:A7 P3.args):H4 Tryz.prog tys B4e D5r P3 Tryz.f182 x=A5u x:=by kernel_rfl
def A7m:A7 S6.args->Prop:=fun(x:(Bool×List Int)×Unit)=>sh0 x.1.2/\∀(r:List Int×Unit),WfU r.1/\True->r.1=nc (nv x.1.2)->True/\∀(a:(Bool×List Int)×Unit),WfZ a.1/\True->a.1=(!x.1.1&&decide (r.1≠ []),r.1)->a.1=ic (-iv x.1)
theorem C6d (x:A7 S6.args):H4 Tryz.prog tys B7p D6q S6 Tryz.f143 x=A7m x:=by kernel_rfl
def A8a:A7 S0.args->Prop:=fun(x:(Bool×List Int)×(Bool×List Int)×Unit)=>((x.1.1==x.2.1.1)=true->(sh1 x.1.2/\sh1 x.2.1.2)/\∀(r:List Int×Unit),WfU r.1/\True->r.1=nc (nv x.1.2+nv x.2.1.2)->True/\∀(a:(Bool×List Int)×Unit),WfZ a.1/\True->a.1=(x.1.1&&decide (r.1≠ []),r.1)->a.1=ic (iv x.1+iv x.2.1))/\((x.1.1==x.2.1.1)=false->(sh1 x.1.2/\sh1 x.2.1.2)/\∀(r:List Int×Bool×Unit),WfU r.1/\True/\True->(nv x.1.2<nv x.2.1.2->r.1= []/\r.2.1=false)/\(nv x.2.1.2<=nv x.1.2->r.1=nc (nv x.1.2-nv x.2.1.2)/\r.2.1=true)->(r.2.1=true->True/\∀(a:(Bool×List Int)×Unit),WfZ a.1/\True->a.1=(x.1.1&&decide (r.1≠ []),r.1)->a.1=ic (iv x.1+iv x.2.1))/\(r.2.1=false->(sh1 x.2.1.2/\sh1 x.1.2)/\∀(r:List Int×Bool×Unit),WfU r.1/\True/\True->(nv x.2.1.2<nv x.1.2->r.1= []/\r.2.1=false)/\(nv x.1.2<=nv x.2.1.2->r.1=nc (nv x.2.1.2-nv x.1.2)/\r.2.1=true)->True/\∀(a:(Bool×List Int)×Unit),WfZ a.1/\True->a.1=(x.2.1.1&&decide (r.1≠ []),r.1)->a.1=ic (iv x.1+iv x.2.1)))
theorem C7s (x:A7 S0.args):H4 Tryz.prog tys B7m D6j S0 Tryz.f173 x=A8a x:=by kernel_rfl
def A7h:A7 O8.args->Prop:=fun(x:(Bool×List Int)×(Bool×List Int)×Unit)=>(sh1 x.1.2/\sh1 x.2.1.2)/\∀(r:List Int×Unit),WfU r.1/\True->r.1=nc (nv x.1.2*nv x.2.1.2)->True/\∀(a:(Bool×List Int)×Unit),WfZ a.1/\True->a.1=(x.1.1 !=x.2.1.1&&decide (r.1≠ []),r.1)->a.1=ic (iv x.1*iv x.2.1)
theorem C7b (x:A7 O8.args):H4 Tryz.prog tys B7k D8m O8 Tryz.f141 x=A7h x:=by kernel_rfl
theorem B6k (x:A7 E5.args) (hw:awf E5.args x) (_:E5.pre x):A2z x:=by
 obtain⟨b,l,_⟩:=x;change Bool at b;change List Int at l;simp only[A2z,S9];cases l<;>simp
theorem B2t (x:A7 I9.args) (hw:awf I9.args x) (_:I9.pre x):A2j x:=by
 obtain⟨v,_⟩:=x;change Int at v;have hv:IntKind.i64.min<=v/\v<=IntKind.i64.max:=hw.1;rw[B9z,C6r]at hv;simp only[A2j];refine⟨fun h=>⟨trivial, ?_⟩,fun h=>⟨trivial, ?_⟩⟩
 . rintro⟨r,_⟩ _ hr;refine⟨trivial, ?_⟩;rintro⟨s,_⟩ _ hs;simp only at hr hs⊢;have h:=of_decide_eq_true h;have e:(IntKind.u64.wrap (-IntKind.u64.wrap v)).toNat=v.natAbs:=by rw[A1o,A1o];omega
   rw[e]at hr;subst hs hr;unfold ic;rw[decide_eq_true h,Bool.true_and,decide_eq_true (by rw[ne_eq,C9j];omega)]
 . rintro⟨r,_⟩ _ hr;refine⟨trivial, ?_⟩;rintro⟨s,_⟩ _ hs;simp only at hr hs⊢;have h:=of_decide_eq_false h;have e:(IntKind.u64.wrap v).toNat=v.natAbs:=by rw[A1o];omega
   rw[e]at hr;subst hs hr;unfold ic;rw[decide_eq_false h,Bool.false_and]
theorem C1p (x:A7 P4.args) (hw:awf P4.args x) (_:P4.pre x):A5g x:=by
 obtain⟨⟨b,l⟩,_⟩:=x;change Bool at b;change List Int at l;simp only[A5g];refine⟨trivial, ?_⟩;rintro⟨r,_⟩ _ hr;simp only at hr⊢;rw[F2l]at hr;refine⟨fun h=> ?_,fun h=>⟨fun hb=> ?_,fun hb=> ?_⟩⟩
 . have h:=of_decide_eq_true h;have h0:nv l=0:=E1t.1 (hr▸h);unfold iv;simp only[h0];split<;>rfl
 . have h:=of_decide_eq_false h;have h0:nv l≠0:=fun e=>h (by rw[hr,e];rfl)
   unfold iv;simp only[hb,if_true];rw[Int.sign_neg,Int.sign_eq_one_of_pos (by omega)]
 . have h:=of_decide_eq_false h;have h0:nv l≠0:=fun e=>h (by rw[hr,e];rfl)
   unfold iv;simp only[hb];exact(Int.sign_eq_one_of_pos (by simp;omega)).symm
theorem E6z {neg:Bool} {m:Nat} {v:Int} (h:v=if neg=true then -(m:Int)else(m:Int)):(neg&&decide (nc m≠ []),nc m)=ic v:=by
 have e:ic (iv (neg,nc m))=(neg&&decide (m≠0),nc m):=G7i;have e2:iv (neg,nc m)=v:=by rw[h];unfold iv;simp only[H6]
 rw[e2]at e;rw[e];have:decide (nc m≠ [])=decide (m≠0):=decide_eq_decide.2 (not_congr C9j);rw[this]
theorem C3x (x:A7 P3.args) (hw:awf P3.args x) (hp:P3.pre x):A5u x:=by
 obtain⟨⟨b,l⟩,_⟩:=x;change Bool at b;change List Int at l;simp only[A5u];refine⟨hp, ?_⟩;rintro⟨r,_⟩ _ hr;refine⟨trivial, ?_⟩;rintro⟨z,_⟩ _ hz;simp only at hr hz⊢;subst hr;rw[hz];exact E6z rfl
theorem C5f (x:A7 S0.args) (hw:awf S0.args x) (hp:S0.pre x):A8a x:=by
 obtain⟨⟨b,l⟩,⟨c,k⟩,_⟩:=x;change Bool at b c;change List Int at l k;obtain⟨hl,hk⟩:sh1 l/\sh1 k:=hp;simp only[A8a];refine⟨fun h=> ?_,fun h=> ?_⟩
 . refine⟨⟨hl,hk⟩, ?_⟩;rintro⟨r,_⟩ _ hr;refine⟨trivial, ?_⟩;rintro⟨z,_⟩ _ hz;simp only at hr hz⊢;have h:b=c:=by simpa using h
   subst hr h;rw[hz];refine E6z ?_;unfold iv;cases b<;>simp<;>omega
 . have h:c= !b:=by cases b<;>cases c<;>simp_all
   subst h;refine⟨⟨hl,hk⟩, ?_⟩;rintro⟨r,ok,_⟩ _ hr;simp only at hr⊢;refine⟨fun h1=>⟨trivial, ?_⟩,fun h1=>⟨⟨hk,hl⟩, ?_⟩⟩
   . rintro⟨z,_⟩ _ hz;simp only at hz⊢;rcases Nat.lt_or_ge (nv l) (nv k)with h2|h2
     . rw[(hr.1 h2).2]at h1;exact absurd h1 (by decide)
     . rw[(hr.2 h2).1]at hz;rw[hz];refine E6z ?_;unfold iv;cases b<;>simp<;>omega
   . rintro⟨s,ok2,_⟩ _ hs;refine⟨trivial, ?_⟩;rintro⟨z,_⟩ _ hz;simp only at hs hz⊢;rcases Nat.lt_or_ge (nv l) (nv k)with h2|h2
     . rw[(hs.2 (by omega)).1]at hz;rw[hz];refine E6z ?_;unfold iv;cases b<;>simp<;>omega
     . rw[(hr.2 h2).2]at h1;exact absurd h1 (by decide)
theorem C6w (x:A7 O8.args) (hw:awf O8.args x) (hp:O8.pre x):A7h x:=by
 obtain⟨⟨b,l⟩,⟨c,k⟩,_⟩:=x;change Bool at b c;change List Int at l k;obtain⟨hl,hk⟩:sh1 l/\sh1 k:=hp;simp only[A7h];refine⟨⟨hl,hk⟩, ?_⟩;rintro⟨r,_⟩ _ hr;refine⟨trivial, ?_⟩;rintro⟨z,_⟩ _ hz;simp only at hr hz⊢;subst hr;rw[hz];refine E6z ?_;unfold iv;cases b<;>cases c<;>simp<;>grind
def B8h:An:= {}
def A5p:B4:= [(136,I9)]
def C6c:An:= {plan:= [(3,[1],[4],false,(.p 0 (.q 1 (.p 2 (.or 3 (.e 4 (.p 5 .done)) (.e 4 (.e 3 (.p 5 .done))))))))]}
def A8r:B4:= [(172,C8)]
def D0x:An:= {}
def B1u:B4:= [(139,F1),(198,P4)]
def C5d:An:= {}
def A8m:B4:= [(181,K9)]
def B6f:An:= {join:= [(4,⟨[0,1,4],[0],[(5,false,[.val (.int .u64)])],[],[]⟩)],loop:= [(5,⟨[0,1,4,5],[0],[(6,false,[.val (.int .u64)]),(7,false,[.val (.int .u64)])],[],[]⟩)],plan:= [(6,[],[],true,(.p 0 (.p 1 (.p 2 (.p 3 (.p 4 (.p 5 .done))))))),(7,[],[13],true,(.p 0 (.p 1 (.p 2 (.p 3 (.p 4 (.p 7 (.p 8 (.p 9 (.p 10 (.e 5 (.p 6 (.e 11 (.p 12 (.e 13 .done)))))))))))))))]}
def A4y:B4:= [(180,C4)]
def C2j:An:= {join:= [(8,⟨[2,4],[1],[(1,false,[.val (.sl (.int .u32))])],[(0,29,[.val .bool, .val (.sl (.int .u32))])],[]⟩)]}
def A6x:B4:= [(182,P3),(183,G6),(184,R8),(185,H9)]
def D1c:An:= {}
def B1q:B4:= [(137,G5),(138,D9),(139,F1),(140,F3)]
def A0z:A7 E8.args->Prop:=fun(x:Int×Unit)=>True/\∀(r:(Bool×List Int)×Unit),WfZ r.1/\True->r.1=ic x.1->(r.1,[(1:Int)])=ri x.1
theorem B2m (x:A7 E8.args):H4 Tryz.prog tys A5p B8h E8 Tryz.f70 x=A0z x:=by kernel_rfl
def A2v:A7 F1.args->Prop:=fun(x:QQ×Unit)=>True/\∀(r:Int×Unit),D5 r.1/\True->r.1=B9q (nv x.1.2) (nv [])->(decide (r.1=0)=true->(nv x.1.2=0->(false,[])=zi/\ [(1:Int)]= [(1:Int)])/\(nv x.1.2≠0->(false,[])=x.1.1/\ [(1:Int)]=x.1.2))/\(decide (r.1=0)=false->((nv x.1.2=0->x.1.1=zi/\x.1.2= [(1:Int)])/\(nv x.1.2≠0->x.1.1=x.1.1/\x.1.2=x.1.2))/\(nv x.1.2=0->x.1.1=zi/\x.1.2= [(1:Int)])/\(nv x.1.2≠0->x.1.1=x.1.1/\x.1.2=x.1.2))
theorem B6t (x:A7 F1.args):H4 Tryz.prog tys A8r C6c F1 Tryz.f139 x=A2v x:=by kernel_rfl
def A4o:A7 D8.args->Prop:=fun(x:QQ×Unit)=>True/\∀(r:(Bool×List Int)×List Int×Unit),WfZ r.1/\WfU r.2.1/\True->(nv x.1.2=0->r.1=zi/\r.2.1= [(1:Int)])/\(nv x.1.2≠0->r.1=x.1.1/\r.2.1=x.1.2)->True/\∀(a:Int×Unit),D5 a.1/\True->a.1=(iv r.1).sign->a.1=(rv x.1).num.sign
theorem B8b (x:A7 D8.args):H4 Tryz.prog tys B1u D0x D8 Tryz.f160 x=A4o x:=by kernel_rfl
def A3a:A7 G5.args->Prop:=fun(x:QQ×Unit)=>True/\∀(r:Int×Bool×Unit),N1 r.1/\True/\True->(nv x.1.1.2<18446744073709551616->r.1=(↑(nv x.1.1.2):Int)/\r.2.1=true)/\((18446744073709551616:Nat)<=nv x.1.1.2->r.2.1=false)->True/\∀(a:Int×Bool×Unit),N1 a.1/\True/\True->(nv x.1.2<18446744073709551616->a.1=(↑(nv x.1.2):Int)/\a.2.1=true)/\((18446744073709551616:Nat)<=nv x.1.2->a.2.1=false)->(sel (sel (sel (!r.2.1) true !a.2.1) true (decide (2147483648<=r.1))) true (decide (2147483648<=a.1))=true->(Q6 x.1->(0:Int)=E4t x.1/\(0:Int)=E0b x.1/\false=true)/\(¬Q6 x.1->false=false))/\(sel (sel (sel (!r.2.1) true !a.2.1) true (decide (2147483648<=r.1))) true (decide (2147483648<=a.1))=false->(decide (a.1=0)=true->(Q6 x.1->(0:Int)=E4t x.1/\(1:Int)=E0b x.1/\true=true)/\(¬Q6 x.1->true=false))/\(decide (a.1=0)=false->(x.1.1.1=true->(Q6 x.1->IntKind.i64.wrap (-IntKind.i64.wrap r.1)=E4t x.1/\IntKind.i64.wrap a.1=E0b x.1/\true=true)/\(¬Q6 x.1->true=false))/\(x.1.1.1=false->(Q6 x.1->IntKind.i64.wrap r.1=E4t x.1/\IntKind.i64.wrap a.1=E0b x.1/\true=true)/\(¬Q6 x.1->true=false))))
theorem B5v (x:A7 G5.args):H4 Tryz.prog tys A8m C5d G5 Tryz.f137 x=A3a x:=by kernel_rfl
def A0j:A7 D9.args->Prop:=fun(x:Int×Int×Unit)=>∃(J:Int×Unit->Prop),((decide (x.1<0)=true->J (IntKind.u64.wrap (-IntKind.u64.wrap x.1),()))/\(decide (x.1<0)=false->J (IntKind.u64.wrap x.1,())))/\∀(p:Int×Unit),N1 p.1/\True->J p->∃(I:Int×Int×Unit->Prop),∃(μ:Int×Int×Unit->Nat),I (IntKind.u64.wrap x.2.1,p)/\∀(a:Int×Int×Unit),N1 a.1/\N1 a.2.1/\True->I a->(decide (a.2.1≠0)=true->a.2.1≠0/\I (a.2.1,Int.tmod a.1 a.2.1,())/\μ (a.2.1,Int.tmod a.1 a.2.1,())<μ a)/\(decide (a.2.1≠0)=false->a.1≠0/\a.1≠0/\True/\∀(r:List Int×Unit),WfU r.1/\True->r.1=nc (IntKind.u64.wrap (Int.tdiv p.1 a.1)).toNat->True/\∀(b:List Int×Unit),WfU b.1/\True->b.1=nc (IntKind.u64.wrap ((IntKind.u64.wrap x.2.1).tdiv a.1)).toNat->((decide (x.1<0),r.1),b.1)=rc (mkRat x.1 x.2.1.toNat))
theorem A9s (x:A7 D9.args):H4 Tryz.prog tys A4y B6f D9 Tryz.f138 x=A0j x:=by kernel_rfl
def A1z:A7 F3.args->Prop:=fun(x:(Bool×List Int)×List Int×Unit)=>sh0 x.1.2/\∀(r:(Bool×List Int)×Unit),WfZ r.1/\True->r.1=ic (iv x.1)->sh0 x.2.1/\∀(d:List Int×Unit),WfU d.1/\True->d.1=nc (nv x.2.1)->(decide ((r.1.2.length:Int)=(0:Int))=true->((false,[]),[(1:Int)])=rc (mkRat (iv x.1) (nv x.2.1)))/\(decide ((r.1.2.length:Int)=(0:Int))=false->(sh2 r.1.2/\sh2 d.1)/\∀(a:List Int×Unit),WfU a.1/\True->a.1=nc ((nv r.1.2).gcd (nv d.1))->∃(J:List Int×Bool×List Int×Unit->Prop),((decide ((a.1.length:Int)≠(1:Int))=false->(0:Int)<=(0:Int)/\(0:Int)<(a.1.length:Int))/\(sel (decide ((a.1.length:Int)≠(1:Int))) true (decide (gx (0:Int) a.1 (0:Int)≠(1:Int)))=true->sh1 r.1.2/\∀(b:List Int×List Int×Bool×Unit),WfU b.1/\WfU b.2.1/\True/\True->(nv a.1=0->b.1= []/\b.2.1= []/\b.2.2.1=false)/\(nv a.1≠0->b.1=nc (nv r.1.2/nv a.1)/\b.2.1=nc (nv r.1.2%nv a.1)/\b.2.2.1=true)->sh1 d.1/\∀(c:List Int×List Int×Bool×Unit),WfU c.1/\WfU c.2.1/\True/\True->(nv a.1=0->c.1= []/\c.2.1= []/\c.2.2.1=false)/\(nv a.1≠0->c.1=nc (nv d.1/nv a.1)/\c.2.1=nc (nv d.1%nv a.1)/\c.2.2.1=true)->J (c.1,r.1.1,b.1,()))/\(sel (decide ((a.1.length:Int)≠(1:Int))) true (decide (gx (0:Int) a.1 (0:Int)≠(1:Int)))=false->J (d.1,r.1.1,r.1.2,())))/\∀(p:List Int×Bool×List Int×Unit),WfU p.1/\True/\WfU p.2.2.1/\True->J p->((p.2.1,p.2.2.1),p.1)=rc (mkRat (iv x.1) (nv x.2.1)))
theorem B4v (x:A7 F3.args):H4 Tryz.prog tys A6x C2j F3 Tryz.f140 x=A1z x:=by kernel_rfl
def A4m:A7 E6.args->Prop:=fun(x:QQ×Unit)=>True/\∀(r:Int×Int×Bool×Unit),D5 r.1/\D5 r.2.1/\True/\True->(Q6 x.1->r.1=E4t x.1/\r.2.1=E0b x.1/\r.2.2.1=true)/\(¬Q6 x.1->r.2.2.1=false)->(r.2.2.1=true->0<r.2.1/\∀(a:QQ×Unit),WfQ a.1/\True->a.1=rc (mkRat r.1 (Int.toNat r.2.1))->a.1=rc (rv x.1))/\(r.2.2.1=false->True/\∀(r:(Bool×List Int)×List Int×Unit),WfZ r.1/\WfU r.2.1/\True->(nv x.1.2=0->r.1=zi/\r.2.1= [(1:Int)])/\(nv x.1.2≠0->r.1=x.1.1/\r.2.1=x.1.2)->(nv r.2.1≠0/\sh2 r.1.2/\sh2 r.2.1)/\∀(a:QQ×Unit),WfQ a.1/\True->a.1=rc (mkRat (iv r.1) (nv r.2.1))->a.1=rc (rv x.1))
theorem B9j (x:A7 E6.args):H4 Tryz.prog tys B1q D1c E6 Tryz.f111 x=A4m x:=by kernel_rfl
theorem B2l (x:A7 E8.args) (hw:awf E8.args x) (_:E8.pre x):A0z x:=by
 obtain⟨v,_⟩:=x;simp only[A0z];refine⟨trivial, ?_⟩;rintro⟨r,_⟩ _ hr;simp only at hr⊢;rw[hr];rfl
theorem B5u (x:A7 F1.args) (hw:awf F1.args x) (_:F1.pre x):A2v x:=by
 obtain⟨⟨a,l⟩,_⟩:=x;change List Int at l;simp only[A2v];refine⟨trivial, ?_⟩;rintro⟨r,_⟩ _ hr;simp only at hr⊢;rw[F2l]at hr;refine⟨fun h=> ?_,fun h=> ?_⟩
 . have h0:nv l=0:=E1t.1 (hr▸of_decide_eq_true h);exact⟨fun _=>⟨rfl,by trivial⟩,fun h=>absurd h0 h⟩
 . have h0:nv l≠0:=fun e=>(of_decide_eq_false h) (by rw[hr,e];rfl)
   exact⟨⟨fun h=>absurd h h0,fun _=>⟨by trivial,by trivial⟩⟩,fun h=>absurd h h0,fun _=>⟨by trivial,by trivial⟩⟩
theorem B8w (x:A7 D8.args) (hw:awf D8.args x) (_:D8.pre x):A4o x:=by
 obtain⟨⟨a,l⟩,_⟩:=x;change List Int at l;simp only[A4o];refine⟨trivial, ?_⟩;rintro⟨r,d,_⟩ _ ⟨hr,hr2⟩;refine⟨trivial, ?_⟩;rintro⟨s,_⟩ _ hs;simp only at hr hr2 hs⊢;rw[hs, <-G5j];unfold H1b;split
 . rename_i h;rw[(hr h).1];rfl
 . rename_i h;rw[(hr2 h).1]
theorem B6q (x:A7 G5.args) (hw:awf G5.args x) (_:G5.pre x):A3a x:=by
 obtain⟨⟨⟨b,a⟩,l⟩,_⟩:=x;change Bool at b;change List Int at a l;simp only[A3a];refine⟨trivial, ?_⟩;rintro⟨u,ok,_⟩ _ ⟨h1,h2⟩;refine⟨trivial, ?_⟩;rintro⟨v,fits,_⟩ _ ⟨h3,h4⟩;change Int at u v;change Bool at ok fits;simp only at h1 h2 h3 h4⊢;have hs:sel (sel (sel (!ok) true !fits) true (decide (2147483648<=u))) true (decide (2147483648<=v))=(!ok|| !fits||decide (2147483648<=u) ||decide (2147483648<=v)):=by simp only[Q0]
 rw[hs];have key:(!ok|| !fits||decide (2147483648<=u) ||decide (2147483648<=v))=false->Q6 ((b,a),l)/\u=(nv a:Int)/\v=(nv l:Int):=fun h=>by
  simp only[Bool.or_eq_false_iff,Bool.not_eq_false',decide_eq_false_iff_not]at h;obtain⟨⟨⟨e1,e2⟩,e3⟩,e4⟩:=h;have ha:nv a<18446744073709551616:=by
   rcases Nat.lt_or_ge (nv a) 18446744073709551616 with h|h
   . exact h
   . rw[h2 h]at e1;cases e1
  have hl:nv l<18446744073709551616:=by
   rcases Nat.lt_or_ge (nv l) 18446744073709551616 with h|h
   . exact h
   . rw[h4 h]at e2;cases e2
  have q1:=(h1 ha).1;have q3:=(h3 hl).1;exact⟨⟨by show nv a< _;omega,by show nv l< _;omega⟩,q1,q3⟩
 have key2:Q6 ((b,a),l)->(!ok|| !fits||decide (2147483648<=u) ||decide (2147483648<=v))=false:=fun h=>by
  obtain⟨g1,g2⟩:=h;change nv a< _ at g1;change nv l< _ at g2;obtain⟨q1,q2⟩:=h1 (by omega);obtain⟨q3,q4⟩:=h3 (by omega);simp only[Bool.or_eq_false_iff,Bool.not_eq_false',decide_eq_false_iff_not];exact⟨⟨⟨q2,q4⟩,by omega⟩,by omega⟩
 refine⟨fun h=>⟨fun hs=> ?_,fun _=>trivial⟩,fun h=> ?_⟩
 . rw[key2 hs]at h;cases h
 . obtain⟨hsm,hu,hv⟩:=key h;have hsm':=hsm;obtain⟨g1,g2⟩:=hsm;change nv a< _ at g1;change nv l< _ at g2;refine⟨fun hz=> ?_,fun hz=>⟨fun hb=> ?_,fun hb=> ?_⟩⟩
   . have hz:=of_decide_eq_true hz;have h0:nv l=0:=by omega
     exact⟨fun _=>⟨by unfold E4t;rw[if_pos h0],by unfold E0b;rw[if_pos h0],trivial⟩,fun h=>absurd hsm' h⟩
   . have hz:=of_decide_eq_false hz;have h0:nv l≠0:=by omega
     refine⟨fun _=>⟨?_, ?_,trivial⟩,fun h=>absurd hsm' h⟩
     . unfold E4t;rw[if_neg h0,wr (a:=u) (by omega) (by omega),wr (by omega) (by omega)];unfold iv;simp only[hb,if_true];omega
     . unfold E0b;rw[if_neg h0,wr (by omega) (by omega)];exact hv
   . have hz:=of_decide_eq_false hz;have h0:nv l≠0:=by omega
     refine⟨fun _=>⟨?_, ?_,trivial⟩,fun h=>absurd hsm' h⟩
     . unfold E4t;rw[if_neg h0,wr (a:=u) (by omega) (by omega)];unfold iv;simp only[hb];simpa using hu
     . unfold E0b;rw[if_neg h0,wr (by omega) (by omega)];exact hv
theorem A9x (x:A7 D9.args) (hw:awf D9.args x) (hp:D9.pre x):A0j x:=by
 obtain⟨n,d,_⟩:=x;change Int at n d;have d0:0<d:=hp;have hn:=(show IntKind.i64.min<=n/\n<=IntKind.i64.max from hw.1);have hd1:=(show IntKind.i64.min<=d/\d<=IntKind.i64.max from hw.2.1);rw[B9z,C6r]at hn hd1;obtain⟨n0,n1⟩:=hn;have d1:=hd1.2;have i1:IntKind.i64.min= -9223372036854775808:=B9z;simp only[A0j];refine⟨fun p=>p.1=(n.natAbs:Int),⟨fun h=> ?_,fun h=> ?_⟩, ?_⟩
 . have h:=of_decide_eq_true h;show IntKind.u64.wrap (-IntKind.u64.wrap n)= _;rw[A1o,A1o];omega
 . have h:=of_decide_eq_false h;show IntKind.u64.wrap n= _;rw[A1o];omega
 rintro⟨s,_⟩ _ hs;simp only at hs⊢;subst hs;have hd:IntKind.u64.wrap d=d:=w64 (by omega) (by omega);refine⟨fun p=>0<=p.1/\0<=p.2.1/\(p.1≠0\/p.2.1≠0)/\p.1.toNat.gcd p.2.1.toNat=d.toNat.gcd n.natAbs,fun p=>p.2.1.toNat, ?_, ?_⟩
 . refine⟨by omega,by show(0:Int)<=(n.natAbs:Int);omega, .inl (by omega), ?_⟩;rw[hd];rfl
 rintro⟨g,t,_⟩ _ ⟨h0,h1,h2,h3⟩;change Int at g t;simp only at h0 h1 h2 h3⊢;refine⟨fun h=> ?_,fun h=> ?_⟩
 . have h:=of_decide_eq_true h;have e:Int.tmod g t=g%t:=Int.tmod_eq_emod_of_nonneg h0;have e2:=Int.emod_nonneg g h;have e3:=Int.emod_lt_of_pos g (b:=t) (by omega);rw[e];refine⟨h,⟨h1,e2, .inl h, ?_⟩,by omega⟩;rw[<-h3,Int.toNat_emod h0 h1,Nat.gcd_comm t.toNat, <-Nat.gcd_rec,Nat.gcd_comm]
 . have h:t=0:=by simpa using h
   subst h;have hg:g≠0:=by omega
   refine⟨hg,hg,trivial, ?_⟩;rintro⟨r,_⟩ _ hr;refine⟨trivial, ?_⟩;rintro⟨q,_⟩ _ hq;simp only at hr hq⊢;have hG:g.toNat=d.toNat.gcd n.natAbs:=by rw[<-h3];simp
   have hgp:0<g:=by omega
   have hge:g=((d.toNat.gcd n.natAbs:Nat):Int):=by omega
   obtain⟨hn,hdn⟩:=B0v (x:=n) (d:=d.toNat) (by omega);have e1:(IntKind.u64.wrap (Int.tdiv (n.natAbs:Int) g)).toNat=n.natAbs/d.toNat.gcd n.natAbs:=by
    rw[IntWalk.u64_quo _ _ ⟨by omega,by omega,by omega⟩,hge, <-Int.natCast_ediv,Int.toNat_natCast]
   have e2:(IntKind.u64.wrap (Int.tdiv d g)).toNat=d.toNat/d.toNat.gcd n.natAbs:=by
    rw[IntWalk.u64_quo _ _ ⟨by omega,by omega,by omega⟩,hge]
    conv=>lhs;rw[show d=((d.toNat:Nat):Int)from by omega]
    rw[<-Int.natCast_ediv,Int.toNat_natCast];simp only[Int.toNat_natCast]
   rw[hr,hq,hd,e1,e2];unfold rc;rw[hn,hdn];unfold ic;have hdvd:((d.toNat.gcd n.natAbs:Nat):Int)∣n:=Int.ofNat_dvd_left.2 (Nat.gcd_dvd_right ..);have hgN:0<d.toNat.gcd n.natAbs:=by omega
   generalize d.toNat.gcd n.natAbs=G at hdvd hgN;obtain⟨c,rfl⟩:=hdvd;rw[Int.mul_ediv_cancel_left _ (by omega)];have hsgn:(G:Int)*c<0↔c<0:=by
    constructor
    . intro h;rcases Int.lt_or_le c 0 with h1|h1
      . exact h1
      . have:=Int.mul_nonneg (Int.le_of_lt (Int.ofNat_lt.2 hgN)) h1;omega
    . intro h;exact Int.mul_neg_of_pos_of_neg (by omega) h
   rw[Int.natAbs_mul,Int.natAbs_natCast,Nat.mul_div_cancel_left _ hgN];simp only[hsgn]
theorem D5t (x:L5):mkRat (E4t x) (E0b x).toNat=rv x:=by
 unfold E4t E0b rv;split
 . rename_i h;rw[h,Rat.mkRat_zero];rfl
 . rename_i h;rw[Int.toNat_natCast]
theorem G3l (x:L5):0<E0b x:=by
 unfold E0b;split
 . decide
 . omega
theorem B4g (x:A7 F3.args) (hw:awf F3.args x) (hp:F3.pre x):A1z x:=by
 obtain⟨⟨b,l⟩,k,_⟩:=x;have hl:A9 l:=A6 hw.1.2.2;have hk:A9 k:=A6 hw.2.1.2;change Bool at b;change List Int at l k;obtain⟨hD,ll,lk⟩:nv k≠0/\l.length<=8796093022208/\k.length<=8796093022208:=hp;simp only[A1z];have nl:=C5 hl;have nk:=C5 hk;refine⟨by show l.length<=35184372088832;omega, ?_⟩;rintro⟨⟨s,r⟩,_⟩ _ hr;refine⟨by show k.length<=35184372088832;omega, ?_⟩;rintro⟨d,_⟩ _ hd;simp only at hr hd⊢;have hrs:s=decide (iv (b,l)<0):=congrArg (·.1) hr;have hr2:r=nc (iv (b,l)).natAbs:=congrArg (·.2) hr;have ea:(iv (b,l)).natAbs=nv l:=N7 _;have hrv:nv r=(iv (b,l)).natAbs:=by rw[hr2,H6]
 have hdv:nv d=nv k:=by rw[hd,H6]
 have hrl:r.length<=l.length:=by rw[hr2,ea];exact nl
 have hdl:d.length<=k.length:=by rw[hd];exact nk
 refine⟨fun h=> ?_,fun h=> ?_⟩
 . have h:=of_decide_eq_true h;have h0:r= []:=List.eq_nil_of_length_eq_zero (by omega);rw[h0,F2l]at hrv;have:iv (b,l)=0:=Int.natAbs_eq_zero.1 hrv.symm;rw[this,Rat.zero_mkRat,F8g]
 have h:=of_decide_eq_false h;refine⟨⟨by omega,by omega⟩, ?_⟩;rintro⟨g,_⟩ _ hg;simp only at hg⊢;rw[hrv,hdv]at hg;have hg0:Nat.gcd (iv (b,l)).natAbs (nv k)≠0:=Nat.ne_of_gt (Nat.gcd_pos_of_pos_right _ (Nat.pos_of_ne_zero hD));have hgv:nv g=Nat.gcd (iv (b,l)).natAbs (nv k):=by rw[hg,H6]
 refine⟨fun p=>((p.2.1,p.2.2.1),p.1)=rc (mkRat (iv (b,l)) (nv k)),⟨fun h1=> ?_,fun h1=> ?_,fun h1=> ?_⟩, ?_⟩
 . have h1:=of_decide_eq_false h1;exact⟨Int.le_refl _,by omega⟩
 . refine⟨by show r.length<= _;omega, ?_⟩;rintro⟨q,m,ok,_⟩ _ hq;refine⟨by show d.length<= _;omega, ?_⟩;rintro⟨q',m',ok',_⟩ _ hq';simp only at hq hq'⊢;rw[F1t hD,(hq.2 (by omega)).1,(hq'.2 (by omega)).1,hrv,hdv,hgv,hrs]
 . have h1:g.length=1/\gx 0 g 0=1:=by
    rw[Q0]at h1;simp only[Bool.or_eq_false_iff,decide_eq_false_iff_not]at h1;omega
   obtain⟨z,rfl⟩:∃z,g= [z]:=List.length_eq_one_iff.1 h1.1;have hz:z=1:=h1.2;subst hz;have h2:Nat.gcd (iv (b,l)).natAbs (nv k)=1:=by rw[<-hgv];rfl
   rw[G5c hD h2];show((s,r),d)= _;rw[hd, <-hr]
 . rintro⟨a,s',c,_⟩ _ hJ;exact hJ
theorem B9x (x:A7 E6.args) (hw:awf E6.args x) (hp:E6.pre x):A4m x:=by
 obtain⟨q,_⟩:=x;change L5 at q;obtain⟨h1,h2⟩:q.1.2.length<=2199023255552/\q.2.length<=2199023255552:=hp;simp only[A4m];refine⟨trivial, ?_⟩;rintro⟨n,d,ok,_⟩ _ ⟨s1,s2⟩;change Int at n d;simp only at s1 s2⊢;refine⟨fun h=> ?_,fun h=>⟨trivial, ?_⟩⟩
 . have hs:Q6 q:=Decidable.byContradiction fun hn=>by rw[s2 hn]at h;cases h
   obtain⟨rfl,rfl,_⟩:=s1 hs;refine⟨G3l q, ?_⟩;rintro⟨r,_⟩ _ hr;simp only at hr⊢;rw[hr,D5t]
 . rintro⟨n',d',_⟩ _ hpq;simp only at hpq⊢;obtain⟨hd0,hv⟩:=C0n hpq;obtain⟨l1,l2⟩:=B3n (k:=2199023255552) hpq h1 h2 (by decide);refine⟨⟨hd0,by show n'.2.length<= _;omega,by show d'.length<= _;omega⟩, ?_⟩;rintro⟨r,_⟩ _ hr;simp only at hr⊢;rw[hr,hv]
def D1p:An:= {plan:= [(13,[0,4],[10],true,(.q 0 (.p 1 (.p 2 (.q 4 (.p 5 (.p 6 (.or 3 (.or 7 (.or 8 (.e 9 (.e 10 .done)) (.e 9 (.e 8 (.e 10 .done)))) (.e 9 (.e 7 (.e 8 (.e 10 .done))))) (.e 9 (.e 3 (.e 7 (.e 8 (.e 10 .done))))))))))))),(14,[0],[5],true,(.q 0 (.p 1 (.p 2 (.e 3 (.e 4 (.e 5 .done)))))))]}
def B4p:B4:= [(111,E6),(137,G5),(138,D9),(139,F1),(140,F3),(141,O8),(142,K3),(160,D8),(172,C8),(173,S0)]
def D4e:An:= {}
def B5e:B4:= [(137,G5),(138,D9),(139,F1),(140,F3),(141,O8),(142,K3)]
def D4b:An:= {}
def B2w:B4:= [(111,E6),(143,S6)]
def D4w:An:= {}
def B4o:B4:= [(111,E6),(160,D8)]
def q7 (x:QQ×QQ×Unit) (r:(Bool×List Int)×List Int×Unit) (a:(Bool×List Int)×List Int×Unit) (e:(Bool×List Int)×Unit) (c:(Bool×List Int)×Unit):Prop:=∀(d:(Bool×List Int)×Unit),WfZ d.1/\True->d.1=ic (iv e.1+iv c.1)->(sh1 r.2.1/\sh1 a.2.1)/\∀(b:List Int×Unit),WfU b.1/\True->b.1=nc (nv r.2.1*nv a.2.1)->(nv b.1≠0/\sh2 d.1.2/\sh2 b.1)/\∀(r:QQ×Unit),WfQ r.1/\True->r.1=rc (mkRat (iv d.1) (nv b.1))->r.1=rc (rv x.1+rv x.2.1)
def A5j:A7 F4.args->Prop:=fun(x:QQ×QQ×Unit)=>True/\∀(r:Int×Unit),D5 r.1/\True->r.1=(rv x.1).num.sign->(decide (r.1=0)=true->sh3 x.2.1/\∀(r:QQ×Unit),WfQ r.1/\True->r.1=rc (rv x.2.1)->r.1=rc (rv x.1+rv x.2.1))/\(decide (r.1=0)=false->True/\∀(r:Int×Unit),D5 r.1/\True->r.1=(rv x.2.1).num.sign->(decide (r.1=0)=true->sh3 x.1/\∀(r:QQ×Unit),WfQ r.1/\True->r.1=rc (rv x.1)->r.1=rc (rv x.1+rv x.2.1))/\(decide (r.1=0)=false->True/\∀(r:Int×Int×Bool×Unit),D5 r.1/\D5 r.2.1/\True/\True->(Q6 x.1->r.1=E4t x.1/\r.2.1=E0b x.1/\r.2.2.1=true)/\(¬Q6 x.1->r.2.2.1=false)->True/\∀(f:Int×Int×Bool×Unit),D5 f.1/\D5 f.2.1/\True/\True->(Q6 x.2.1->f.1=E4t x.2.1/\f.2.1=E0b x.2.1/\f.2.2.1=true)/\(¬Q6 x.2.1->f.2.2.1=false)->(sel r.2.2.1 f.2.2.1 false=true->(0:Int)<IntKind.i64.wrap (r.2.1*f.2.1)/\∀(a:QQ×Unit),WfQ a.1/\True->a.1=rc (mkRat (IntKind.i64.wrap (IntKind.i64.wrap (r.1*f.2.1)+IntKind.i64.wrap (f.1*r.2.1))) (IntKind.i64.wrap (r.2.1*f.2.1)).toNat)->a.1=rc (rv x.1+rv x.2.1))/\(sel r.2.2.1 f.2.2.1 false=false->True/\∀(r:(Bool×List Int)×List Int×Unit),WfZ r.1/\WfU r.2.1/\True->(nv x.1.2=0->r.1=zi/\r.2.1= [(1:Int)])/\(nv x.1.2≠0->r.1=x.1.1/\r.2.1=x.1.2)->True/\∀(a:(Bool×List Int)×List Int×Unit),WfZ a.1/\WfU a.2.1/\True->(nv x.2.1.2=0->a.1=zi/\a.2.1= [(1:Int)])/\(nv x.2.1.2≠0->a.1=x.2.1.1/\a.2.1=x.2.1.2)->True/\∀(g:Int×Unit),D5 g.1/\True->g.1=B9q (nv r.2.1) (nv a.2.1)->(decide (g.1=0)=true->(sh1 r.1.2/\sh1 a.1.2)/\∀(e:(Bool×List Int)×Unit),WfZ e.1/\True->e.1=ic (iv r.1+iv a.1)->(nv r.2.1≠0/\sh2 e.1.2/\sh2 r.2.1)/\∀(c:QQ×Unit),WfQ c.1/\True->c.1=rc (mkRat (iv e.1) (nv r.2.1))->c.1=rc (rv x.1+rv x.2.1))/\(decide (g.1=0)=false->((sh1 r.1.2/\sh1 a.2.1)/\∀(e:(Bool×List Int)×Unit),WfZ e.1/\True->e.1=ic (iv r.1*iv (false,a.2.1))->((sh1 a.1.2/\sh1 r.2.1)/\∀(c:(Bool×List Int)×Unit),WfZ c.1/\True->c.1=ic (iv a.1*iv (false,r.2.1))->((sh1 e.1.2/\sh1 c.1.2)/\q7 x r a e c)/\(sh1 e.1.2/\sh1 c.1.2)/\q7 x r a e c)/\(sh1 a.1.2/\sh1 r.2.1)/\∀(c:(Bool×List Int)×Unit),WfZ c.1/\True->c.1=ic (iv a.1*iv (false,r.2.1))->(sh1 e.1.2/\sh1 c.1.2)/\q7 x r a e c)/\(sh1 r.1.2/\sh1 a.2.1)/\∀(e:(Bool×List Int)×Unit),WfZ e.1/\True->e.1=ic (iv r.1*iv (false,a.2.1))->(sh1 a.1.2/\sh1 r.2.1)/\∀(c:(Bool×List Int)×Unit),WfZ c.1/\True->c.1=ic (iv a.1*iv (false,r.2.1))->(sh1 e.1.2/\sh1 c.1.2)/\q7 x r a e c))))
theorem C1a (x:A7 F4.args):H4 Tryz.prog tys B4p D1p F4 Tryz.f122 x=A5j x:=by kernel_rfl
def A5h:A7 G2.args->Prop:=fun(x:QQ×QQ×Unit)=>True/\∀(r:Int×Int×Bool×Unit),D5 r.1/\D5 r.2.1/\True/\True->(Q6 x.1->r.1=E4t x.1/\r.2.1=E0b x.1/\r.2.2.1=true)/\(¬Q6 x.1->r.2.2.1=false)->True/\∀(b:Int×Int×Bool×Unit),D5 b.1/\D5 b.2.1/\True/\True->(Q6 x.2.1->b.1=E4t x.2.1/\b.2.1=E0b x.2.1/\b.2.2.1=true)/\(¬Q6 x.2.1->b.2.2.1=false)->(sel r.2.2.1 b.2.2.1 false=true->(0:Int)<IntKind.i64.wrap (r.2.1*b.2.1)/\∀(a:QQ×Unit),WfQ a.1/\True->a.1=rc (mkRat (IntKind.i64.wrap (r.1*b.1)) (IntKind.i64.wrap (r.2.1*b.2.1)).toNat)->a.1=rc (rv x.1*rv x.2.1))/\(sel r.2.2.1 b.2.2.1 false=false->True/\∀(r:(Bool×List Int)×List Int×Unit),WfZ r.1/\WfU r.2.1/\True->(nv x.1.2=0->r.1=zi/\r.2.1= [(1:Int)])/\(nv x.1.2≠0->r.1=x.1.1/\r.2.1=x.1.2)->True/\∀(a:(Bool×List Int)×List Int×Unit),WfZ a.1/\WfU a.2.1/\True->(nv x.2.1.2=0->a.1=zi/\a.2.1= [(1:Int)])/\(nv x.2.1.2≠0->a.1=x.2.1.1/\a.2.1=x.2.1.2)->(sh1 r.1.2/\sh1 a.1.2)/\∀(d:(Bool×List Int)×Unit),WfZ d.1/\True->d.1=ic (iv r.1*iv a.1)->(sh1 r.2.1/\sh1 a.2.1)/\∀(c:List Int×Unit),WfU c.1/\True->c.1=nc (nv r.2.1*nv a.2.1)->(nv c.1≠0/\sh2 d.1.2/\sh2 c.1)/\∀(r:QQ×Unit),WfQ r.1/\True->r.1=rc (mkRat (iv d.1) (nv c.1))->r.1=rc (rv x.1*rv x.2.1))
theorem C4h (x:A7 G2.args):H4 Tryz.prog tys B5e D4e G2 Tryz.f71 x=A5h x:=by kernel_rfl
def A5y:A7 P8.args->Prop:=fun(x:QQ×Unit)=>sh3 x.1/\∀(r:QQ×Unit),WfQ r.1/\True->r.1=rc (rv x.1)->sh0 r.1.1.2/\∀(a:(Bool×List Int)×Unit),WfZ a.1/\True->a.1=ic (-iv r.1.1)->(a.1,r.1.2)=rc (-rv x.1)
theorem C0v (x:A7 P8.args):H4 Tryz.prog tys B2w D4b P8 Tryz.f73 x=A5y x:=by kernel_rfl
def A5l:A7 Q3.args->Prop:=fun(x:QQ×Unit)=>True/\∀(r:Int×Unit),D5 r.1/\True->r.1=(rv x.1).num.sign->(decide (r.1=0)=true->(rv x.1=(0:Rat)->false=false)/\(rv x.1≠(0:Rat)->dQ=rc (rv x.1)⁻¹/\false=true))/\(decide (r.1=0)=false->sh3 x.1/\∀(r:QQ×Unit),WfQ r.1/\True->r.1=rc (rv x.1)->(rv x.1=(0:Rat)->true=false)/\(rv x.1≠(0:Rat)->((r.1.1.1,r.1.2),r.1.1.2)=rc (rv x.1)⁻¹/\true=true))
theorem C2o (x:A7 Q3.args):H4 Tryz.prog tys B4o D4w Q3 Tryz.f117 x=A5l x:=by kernel_rfl
theorem D1w {q:Rat} (h:q.num.sign=0):q=0:=Rat.num_eq_zero.1 (Int.sign_eq_zero_iff_zero.1 h)
theorem C2p {x:L5} (h:Q6 x): -2147483647<=E4t x/\E4t x<=2147483647/\0<E0b x/\E0b x<=2147483647:=by
 obtain⟨h1,h2⟩:=h;have:=N7 x.1;unfold E4t E0b;split
 . omega
 . omega
theorem D3f {a b M N:Int} (h1: -M<=a) (h2:a<=M) (h3:0<=b) (h4:b<=N): -(M*N)<=a*b/\a*b<=M*N:=by
 have hM:0<=M:=by omega
 have a1:M*b<=M*N:=Int.mul_le_mul_of_nonneg_left h4 hM;have a2:a*b<=M*b:=Int.mul_le_mul_of_nonneg_right h2 h3;have a3: -M*b<=a*b:=Int.mul_le_mul_of_nonneg_right h1 h3;rw[Int.neg_mul]at a3;omega
theorem F9n {a b c d:Int} (ha: -2147483647<=a/\a<=2147483647) (hb: -2147483647<=b/\b<=2147483647) (hc:0<c/\c<=2147483647) (hd:0<d/\d<=2147483647):
 IntKind.i64.wrap (c*d)=c*d/\0<c*d/\IntKind.i64.wrap (IntKind.i64.wrap (a*d)+IntKind.i64.wrap (b*c))=a*d+b*c:=by
 have h1:=D3f ha.1 ha.2 (Int.le_of_lt hd.1) hd.2;have h2:=D3f hb.1 hb.2 (Int.le_of_lt hc.1) hc.2;have h3:=D3f (a:=c) (b:=d) (M:=2147483647) (by omega) hc.2 (Int.le_of_lt hd.1) hd.2;have h4:0<c*d:=Int.mul_pos hc.1 hd.1;rw[wr (a:=c*d) (by omega) (by omega),wr (a:=a*d) (by omega) (by omega),wr (a:=b*c) (by omega) (by omega),wr (by omega) (by omega)];exact⟨rfl,h4,rfl⟩
theorem C4b (x:A7 F4.args) (hw:awf F4.args x) (hp:F4.pre x):A5j x:=by
 obtain⟨p,q,_⟩:=x;have lp1:A9 p.1.2:=A6 hw.1.1.2.2;have lp2:A9 p.2:=A6 hw.1.2.2;have lq1:A9 q.1.2:=A6 hw.2.1.1.2.2;have lq2:A9 q.2:=A6 hw.2.1.2.2;change L5 at p q;obtain⟨hp3,hq3⟩:sh3 p/\sh3 q:=hp;obtain⟨hp1,hp2⟩:=hp3;obtain⟨hq1,hq2⟩:=hq3;simp only[A5j,q7];refine⟨trivial, ?_⟩;rintro⟨s,_⟩ _ hs;simp only at hs⊢;refine⟨fun h=>⟨⟨hq1,hq2⟩, ?_⟩,fun h=>⟨trivial, ?_⟩⟩
 . rintro⟨r,_⟩ _ hr;simp only at hr⊢;rw[hs]at h;rw[hr,D1w (of_decide_eq_true h),Rat.zero_add]
 rintro⟨t,_⟩ _ ht;simp only at ht⊢;refine⟨fun h=>⟨⟨hp1,hp2⟩, ?_⟩,fun h=>⟨trivial, ?_⟩⟩
 . rintro⟨r,_⟩ _ hr;simp only at hr⊢;rw[ht]at h;rw[hr,D1w (of_decide_eq_true h),Rat.add_zero]
 rintro⟨an,ad,aok,_⟩ _ ⟨a1,a2⟩;refine⟨trivial, ?_⟩;rintro⟨bn,bd,bok,_⟩ _ ⟨b1,b2⟩;change Int at an ad bn bd;simp only at a1 a2 b1 b2⊢;refine⟨fun h=> ?_,fun _=>⟨trivial, ?_⟩⟩
 . rw[S9,Bool.and_eq_true]at h;have sp:Q6 p:=Decidable.byContradiction fun hn=>by have:=a2 hn;rw[this]at h;exact absurd h.1 (by decide)
   have sq:Q6 q:=Decidable.byContradiction fun hn=>by have:=b2 hn;rw[this]at h;exact absurd h.2 (by decide)
   obtain⟨ea,ed,_⟩:=a1 sp;obtain⟨eb,ee,_⟩:=b1 sq;obtain⟨x1,x2,x3,x4⟩:=C2p sp;obtain⟨y1,y2,y3,y4⟩:=C2p sq;obtain⟨w1,w2,w3⟩:=F9n (a:=an) (b:=bn) (c:=ad) (d:=bd) (by omega) (by omega) (by omega) (by omega);rw[w1,w3];refine⟨w2, ?_⟩;rintro⟨r,_⟩ _ hr;simp only at hr⊢;rw[hr, <-D5t p, <-D5t q, <-ea, <-ed, <-eb, <-ee,D3x (by omega) (by omega),Int.toNat_of_nonneg (by omega),Int.toNat_of_nonneg (by omega),Int.toNat_mul (by omega) (by omega)]
 . rintro⟨n,d,_⟩ ⟨hwn,hwd,_⟩ h1;refine⟨trivial, ?_⟩;rintro⟨m,e,_⟩ ⟨hwm,hwe,_⟩ h2;have ln:A9 n.2:=A6 hwn.2.2;have ld:A9 d:=A6 hwd.2;have lm:A9 m.2:=A6 hwm.2.2;have le:A9 e:=A6 hwe.2;refine⟨trivial, ?_⟩;rintro⟨c,_⟩ _ hc;change D5y at n m;change List Int at d e;simp only at h1 h2 hc⊢;obtain⟨d0,hP⟩:=C0n h1;obtain⟨e0,hQ⟩:=C0n h2;obtain⟨n1,d1⟩:=B3n (k:=2199023255552) h1 hp1 hp2 (by decide);obtain⟨m1,e1⟩:=B3n (k:=2199023255552) h2 hq1 hq2 (by decide);rw[hP,hQ];refine⟨fun h=> ?_,fun h=> ?_⟩
   . have h:=of_decide_eq_true h;have he:nv d=nv e:=E1t.1 (hc▸h);refine⟨⟨by show n.2.length<= _;omega,by show m.2.length<= _;omega⟩, ?_⟩;rintro⟨u,_⟩ _ hu;simp only at hu⊢;have l1:=D9a (x:=n) (y:=m) ln lm n1 m1;refine⟨⟨d0,by show u.2.length<= _;rw[hu];omega,by show d.length<= _;omega⟩, ?_⟩;rintro⟨r,_⟩ _ hr;simp only at hr⊢;rw[hr,hu,U6, <-he,F5b d0]
   . --the general case:the same four times
     have x1:=C5z (x:=n) (y:=(false,e)) ln le;have x2:=C5z (x:=m) (y:=(false,d)) lm ld;have g1:sh1 n.2/\sh1 e:=⟨by show n.2.length<= _;omega,by show e.length<= _;omega⟩;have g2:sh1 m.2/\sh1 d:=⟨by show m.2.length<= _;omega,by show d.length<= _;omega⟩;have fin:∀u v:D5y,u=ic (iv n*iv (false,e))->v=ic (iv m*iv (false,d))->(sh1 u.2/\sh1 v.2)/\∀(r_6:(Bool×List Int)×Unit),WfZ r_6.1/\True->r_6.1=ic (iv u+iv v)->(sh1 d/\sh1 e)/\∀(r_7:List Int×Unit),WfU r_7.1/\True->r_7.1=nc (nv d*nv e)->(nv r_7.1≠(0:Nat)/\sh2 r_6.1.2/\sh2 r_7.1)/\∀(r:QQ×Unit),WfQ r.1/\True->r.1=rc (mkRat (iv r_6.1) (nv r_7.1))->r.1=rc (mkRat (iv n) (nv d)+mkRat (iv m) (nv e)):=by
      intro u v hu hv;have lu:u.2.length<=4398046511104:=by
       rw[hu];refine Nat.le_trans x1 ?_;show n.2.length+e.length<= _;omega
      have lv:v.2.length<=4398046511104:=by
       rw[hv];refine Nat.le_trans x2 ?_;show m.2.length+d.length<= _;omega
      refine⟨⟨by show u.2.length<= _;omega,by show v.2.length<= _;omega⟩, ?_⟩;rintro⟨w,_⟩ _ hw';refine⟨⟨g2.2,g1.2⟩, ?_⟩;rintro⟨z,_⟩ _ hz;simp only at hw' hz⊢;have l1:=D9a (x:=u) (y:=v) (by rw[hu];exact F3k _) (by rw[hv];exact F3k _) lu lv;have l2:=C7r ld le;refine⟨⟨by rw[hz,H6];exact Nat.mul_ne_zero d0 e0,by show w.2.length<= _;rw[hw'];omega,by show z.length<= _;rw[hz];omega⟩, ?_⟩;rintro⟨r,_⟩ _ hr;simp only at hr⊢;rw[hr,hw',hz,H6,U6,hu,hv,U6,U6,B7q,B7q,D3x d0 e0]
     exact⟨⟨g1,fun u _ hu=>⟨⟨g2,fun v _ hv=>⟨fin _ _ hu hv,fin _ _ hu hv⟩⟩,g2,fun v _ hv=>fin _ _ hu hv⟩⟩,g1,fun u _ hu=>⟨g2,fun v _ hv=>fin _ _ hu hv⟩⟩
def F1g:An:= {loop:= [(2,⟨[0],[],[(3,false,[.val (.int .i64)])],[],[]⟩)]}
def D2w:B4:= []
def E7o:An:= {loop:= [(4,⟨[0,1],[],[(5,false,[.val (.int .i64)])],[],[]⟩)],plan:= [(6,[3,7],[],true,(.p 0 (.p 1 (.p 2 (.q 3 (.p 4 (.p 5 (.p 6 (.q 7 (.p 8 .done))))))))))]}
def C9b:B4:= []
def C8g:An:= {}
def A8y:B4:= [(191,I6)]
def F4s:An:= {join:= [(8,⟨[0,1,5,7],[0],[(6,false,[.val (.int .u64)])],[],[]⟩),(10,⟨[0,1,5,7],[0],[(6,false,[.val (.int .u64)])],[],[]⟩)],loop:= [(4,⟨[0,1,5],[],[(6,false,[.val (.int .u64)]),(7,false,[.val (.int .i64)])],[],[(0, .row (.int .u32) 153)]⟩)]}
def D9i:B4:= [(191,I6)]
def F4x:An:= {join:= [(12,⟨[0,1,6,8],[0],[(9,false,[.val (.int .u64)])],[],[]⟩),(17,⟨[0,1,6,8,9],[0],[(7,false,[.val (.int .u64)]),(10,false,[.val (.int .u64)])],[],[]⟩)],loop:= [(7,⟨[0,1,6],[],[(7,false,[.val (.int .u64)]),(8,false,[.val (.int .i64)])],[],[(0, .row (.int .u32) 153)]⟩)]}
def D9q:B4:= [(191,I6),(194,R7)]
def D7h:An:= {loop:= [(7,⟨[0,1],[],[(5,false,[.val (.int .i64)])],[],[]⟩)],plan:= [(9,[3,7],[],true,(.p 0 (.p 1 (.p 2 (.q 3 (.p 4 (.p 5 (.p 6 (.q 7 (.p 8 .done)))))))))),(11,[3,7],[],true,(.p 0 (.p 1 (.p 2 (.q 3 (.p 4 (.p 5 (.p 6 (.q 7 (.p 8 .done))))))))))]}
def B7w:B4:= [(191,I6)]
def F4r:An:= {loop:= [(7,⟨[0,1,5,6],[],[(7,false,[.val (.int .u64)]),(8,false,[.val (.int .i64)])],[],[(0, .row (.int .u32) 153)]⟩),(3,⟨[0,1,5],[],[(6,false,[.val (.int .i64)])],[],[(0, .row (.int .u32) 153)]⟩)],plan:= [(9,[6,11,16],[],true,(.p 0 (.p 1 (.p 2 (.p 3 (.p 4 (.p 5 (.q 6 (.p 7 (.p 8 (.p 9 (.p 10 (.q 11 (.p 12 (.p 13 (.p 14 (.p 15 (.q 16 (.p 17 (.p 18 (.p 19 (.p 20 (.p 21 .done)))))))))))))))))))))))]}
def E0j:B4:= [(191,I6)]
def E4d:An:= {loop:= [(6,⟨[0],[],[(4,false,[.val (.int .u64)]),(5,false,[.val (.int .i64)])],[],[]⟩)]}
def C3m:B4:= [(191,I6)]
def C0l:A7 I6.args->Prop:=fun(x:List Int×Unit)=>∃(I:Int×Unit->Prop),∃(μ:Int×Unit->Nat),I ((x.1.length:Int),())/\∀(p:Int×Unit),D5 p.1/\True->I p->(decide (0<p.1)=true->(0:Int)<=IntKind.i64.wrap (p.1-1)/\IntKind.i64.wrap (p.1-1)<(x.1.length:Int))/\(sel (decide (0<p.1)) (decide (gx (0:Int) x.1 (IntKind.i64.wrap (p.1-1))=(0:Int))) false=true->I (IntKind.i64.wrap (p.1-1),())/\μ (IntKind.i64.wrap (p.1-1),())<μ p)/\(sel (decide (0<p.1)) (decide (gx (0:Int) x.1 (IntKind.i64.wrap (p.1-1))=(0:Int))) false=false->((0:Int)<=(0:Int)/\0<=p.1/\p.1<=(x.1.length:Int))/\(((0:Nat)+(List.drop (Int.toNat (0:Int)) (List.take (Int.toNat p.1) x.1)).length)*(4:Nat)<=(140737488355328:Nat)/\(0:Nat)+(List.drop (Int.toNat (0:Int)) (List.take (Int.toNat p.1) x.1)).length<=9223372036854775807)/\List.drop (Int.toNat (0:Int)) (List.take (Int.toNat p.1) x.1)=nc (nv x.1))
theorem D7d (x:A7 I6.args):H4 Tryz.prog tys D2w F1g I6 Tryz.f191 x=C0l x:=by kernel_rfl
def B4f:A7 T2.args->Prop:=fun(x:List Int×List Int×Unit)=>(decide ((x.1.length:Int)≠(x.2.1.length:Int))=true->false=decide (x.1=x.2.1))/\(decide ((x.1.length:Int)≠(x.2.1.length:Int))=false->∃(I:Int×Unit->Prop),∃(μ:Int×Unit->Nat),I ((0:Int),())/\∀(p:Int×Unit),D5 p.1/\True->I p->(decide (p.1<(x.1.length:Int))=true->(0<=p.1/\p.1<(x.1.length:Int))/\(0<=p.1/\p.1<(x.2.1.length:Int))/\(decide (gx (0:Int) x.1 p.1≠gx (0:Int) x.2.1 p.1)=true->false=decide (x.1=x.2.1))/\(decide (gx (0:Int) x.1 p.1≠gx (0:Int) x.2.1 p.1)=false->I (IntKind.i64.wrap (p.1+1),())/\μ (IntKind.i64.wrap (p.1+1),())<μ p))/\(decide (p.1<(x.1.length:Int))=false->true=decide (x.1=x.2.1)))
theorem D2v (x:A7 T2.args):H4 Tryz.prog tys C9b E7o T2 Tryz.f77 x=B4f x:=by kernel_rfl
def A2u:A7 I5.args->Prop:=fun(x:Int×Unit)=>(0:(Ty.int IntKind.u64).den)<=(32:Int)/\sh0 [IntKind.u32.wrap x.1,IntKind.u32.wrap (Int.fdiv x.1 ((2:Int)^Min.min (Int.toNat (32:Int)) IntKind.u64.bits))]/\∀(r:List Int×Unit),WfU r.1/\True->r.1=nc (nv [IntKind.u32.wrap x.1,IntKind.u32.wrap (Int.fdiv x.1 ((2:Int)^Min.min (Int.toNat (32:Int)) IntKind.u64.bits))])->r.1=nc x.1.toNat
theorem B6g (x:A7 I5.args):H4 Tryz.prog tys A8y C8g I5 Tryz.f176 x=A2u x:=by kernel_rfl
def C7c:A7 A1v.args->Prop:=fun(x:List Int×List Int×Unit)=>((0:Int)<=IntKind.i64.wrap (Max.max (x.1.length:Int) (x.2.1.length:Int)+(1:Int))/\IntKind.i64.wrap (Max.max (x.1.length:Int) (x.2.1.length:Int)+(1:Int))<=IntKind.i64.wrap (Max.max (x.1.length:Int) (x.2.1.length:Int)+(1:Int))/\(↑(4:Nat):Int)*IntKind.i64.wrap (Max.max (x.1.length:Int) (x.2.1.length:Int)+(1:Int))<=(281474976710656:Int)/\IntKind.i64.wrap (Max.max (x.1.length:Int) (x.2.1.length:Int)+(1:Int))<=(9223372036854775807:Int))/\∃(I:Int×Int×List Int×Unit->Prop),∃(μ:Int×Int×List Int×Unit->Nat),I ((0:Int),(0:Int),List.replicate (IntKind.i64.wrap (Max.max (x.1.length:Int) (x.2.1.length:Int)+(1:Int))).toNat (0:Int),())/\∀(p:Int×Int×List Int×Unit),N1 p.1/\D5 p.2.1/\WfU p.2.2.1/\True->I p->(decide (p.2.1<(p.2.2.1.length:Int))=true->∃(J:Int×Unit->Prop),((decide (p.2.1<(x.1.length:Int))=true->(0<=p.2.1/\p.2.1<(x.1.length:Int))/\J (IntKind.u64.wrap (p.1+IntKind.u64.wrap (gx (0:Int) x.1 p.2.1)),()))/\(decide (p.2.1<(x.1.length:Int))=false->J (p.1,())))/\∀(b:Int×Unit),N1 b.1/\True->J b->∃(J:Int×Unit->Prop),((decide (p.2.1<(x.2.1.length:Int))=true->(0<=p.2.1/\p.2.1<(x.2.1.length:Int))/\J (IntKind.u64.wrap (b.1+IntKind.u64.wrap (gx (0:Int) x.2.1 p.2.1)),()))/\(decide (p.2.1<(x.2.1.length:Int))=false->J b))/\∀(a:Int×Unit),N1 a.1/\True->J a->(0<=p.2.1/\p.2.1<(p.2.2.1.length:Int))/\(0:(Ty.int IntKind.u64).den)<=(32:Int)/\I (Int.fdiv a.1 ((2:Int)^Min.min (Int.toNat (32:Int)) IntKind.u64.bits),IntKind.i64.wrap (p.2.1+1),List.set p.2.2.1 (Int.toNat p.2.1) (IntKind.u32.wrap a.1),())/\μ (Int.fdiv a.1 ((2:Int)^Min.min (Int.toNat (32:Int)) IntKind.u64.bits),IntKind.i64.wrap (p.2.1+1),List.set p.2.2.1 (Int.toNat p.2.1) (IntKind.u32.wrap a.1),())<μ p)/\(decide (p.2.1<(p.2.2.1.length:Int))=false->sh0 p.2.2.1/\∀(r:List Int×Unit),WfU r.1/\True->r.1=nc (nv p.2.2.1)->r.1=nc (nv x.1+nv x.2.1))
theorem E2v (x:A7 A1v.args):H4 Tryz.prog tys D9i F4s A1v Tryz.f157 x=C7c x:=by kernel_rfl
def C5b:A7 A2c.args->Prop:=fun(x:List Int×List Int×Unit)=>(sh1 x.1/\sh1 x.2.1)/\∀(r:Int×Unit),D5 r.1/\True->r.1=B9q (nv x.1) (nv x.2.1)->(decide (r.1<0)=true->(nv x.1<nv x.2.1->B0o Int= []/\false=false)/\(nv x.2.1<=nv x.1->B0o Int=nc (nv x.1-nv x.2.1)/\false=true))/\(decide (r.1<0)=false->sh0 x.1/\∀(r:List Int×Unit),WfU r.1/\True->r.1=nc (nv x.1)->sh0 x.2.1/\∀(b:List Int×Unit),WfU b.1/\True->b.1=nc (nv x.2.1)->((0:Int)<=(r.1.length:Int)/\(r.1.length:Int)<=(r.1.length:Int)/\(↑(4:Nat):Int)*(r.1.length:Int)<=(281474976710656:Int)/\(r.1.length:Int)<=(9223372036854775807:Int))/\∃(I:Int×Int×List Int×Unit->Prop),∃(μ:Int×Int×List Int×Unit->Nat),I ((0:Int),(0:Int),List.replicate (r.1.length:Int).toNat (0:Int),())/\∀(p:Int×Int×List Int×Unit),N1 p.1/\D5 p.2.1/\WfU p.2.2.1/\True->I p->(decide (p.2.1<(r.1.length:Int))=true->∃(J:Int×Unit->Prop),((decide (p.2.1<(b.1.length:Int))=true->(0<=p.2.1/\p.2.1<(b.1.length:Int))/\J (IntKind.u64.wrap (p.1+IntKind.u64.wrap (gx (0:Int) b.1 p.2.1)),()))/\(decide (p.2.1<(b.1.length:Int))=false->J (p.1,())))/\∀(c:Int×Unit),N1 c.1/\True->J c->(0<=p.2.1/\p.2.1<(r.1.length:Int))/\∃(J:Int×Int×Unit->Prop),((decide (IntKind.u64.wrap (gx (0:Int) r.1 p.2.1)<c.1)=true->J ((1:Int),IntKind.u64.wrap (IntKind.u64.wrap (gx (0:Int) r.1 p.2.1)+(4294967296:Int)),()))/\(decide (IntKind.u64.wrap (gx (0:Int) r.1 p.2.1)<c.1)=false->J ((0:Int),IntKind.u64.wrap (gx (0:Int) r.1 p.2.1),())))/\∀(a:Int×Int×Unit),N1 a.1/\N1 a.2.1/\True->J a->(0<=p.2.1/\p.2.1<(p.2.2.1.length:Int))/\I (a.1,IntKind.i64.wrap (p.2.1+1),List.set p.2.2.1 (Int.toNat p.2.1) (IntKind.u32.wrap (IntKind.u64.wrap (a.2.1-c.1))),())/\μ (a.1,IntKind.i64.wrap (p.2.1+1),List.set p.2.2.1 (Int.toNat p.2.1) (IntKind.u32.wrap (IntKind.u64.wrap (a.2.1-c.1))),())<μ p)/\(decide (p.2.1<(r.1.length:Int))=false->sh0 p.2.2.1/\∀(r:List Int×Unit),WfU r.1/\True->r.1=nc (nv p.2.2.1)->(nv x.1<nv x.2.1->r.1= []/\true=false)/\(nv x.2.1<=nv x.1->r.1=nc (nv x.1-nv x.2.1)/\true=true)))
theorem E4e (x:A7 A2c.args):H4 Tryz.prog tys D9q F4x A2c Tryz.f158 x=C5b x:=by kernel_rfl
def A7l:A7 R7.args->Prop:=fun(x:List Int×List Int×Unit)=>sh0 x.1/\∀(r:List Int×Unit),WfU r.1/\True->r.1=nc (nv x.1)->sh0 x.2.1/\∀(a:List Int×Unit),WfU a.1/\True->a.1=nc (nv x.2.1)->(decide ((r.1.length:Int)≠(a.1.length:Int))=true->(decide ((r.1.length:Int)<(a.1.length:Int))=true->(-1:Int)=B9q (nv x.1) (nv x.2.1))/\(decide ((r.1.length:Int)<(a.1.length:Int))=false->(1:Int)=B9q (nv x.1) (nv x.2.1)))/\(decide ((r.1.length:Int)≠(a.1.length:Int))=false->∃(I:Int×Unit->Prop),∃(μ:Int×Unit->Nat),I (IntKind.i64.wrap ((r.1.length:Int)-(1:Int)),())/\∀(p:Int×Unit),D5 p.1/\True->I p->(decide (0<=p.1)=true->(0<=p.1/\p.1<(r.1.length:Int))/\(0<=p.1/\p.1<(a.1.length:Int))/\(decide (gx (0:Int) r.1 p.1<gx (0:Int) a.1 p.1)=true->(-1:Int)=B9q (nv x.1) (nv x.2.1))/\(decide (gx (0:Int) r.1 p.1<gx (0:Int) a.1 p.1)=false->(0<=p.1/\p.1<(r.1.length:Int))/\(0<=p.1/\p.1<(a.1.length:Int))/\(decide (gx (0:Int) a.1 p.1<gx (0:Int) r.1 p.1)=true->(1:Int)=B9q (nv x.1) (nv x.2.1))/\(decide (gx (0:Int) a.1 p.1<gx (0:Int) r.1 p.1)=false->I (IntKind.i64.wrap (p.1-1),())/\μ (IntKind.i64.wrap (p.1-1),())<μ p)))/\(decide (0<=p.1)=false->(0:Int)=B9q (nv x.1) (nv x.2.1)))
theorem C5q (x:A7 R7.args):H4 Tryz.prog tys B7w D7h R7 Tryz.f194 x=A7l x:=by kernel_rfl
def C4l:A7 A3y.args->Prop:=fun(x:List Int×List Int×Unit)=>((0:Int)<=IntKind.i64.wrap ((x.1.length:Int)+(x.2.1.length:Int))/\IntKind.i64.wrap ((x.1.length:Int)+(x.2.1.length:Int))<=IntKind.i64.wrap ((x.1.length:Int)+(x.2.1.length:Int))/\(↑(4:Nat):Int)*IntKind.i64.wrap ((x.1.length:Int)+(x.2.1.length:Int))<=(281474976710656:Int)/\IntKind.i64.wrap ((x.1.length:Int)+(x.2.1.length:Int))<=(9223372036854775807:Int))/\∃(I:Int×List Int×Unit->Prop),∃(μ:Int×List Int×Unit->Nat),I ((0:Int),List.replicate (IntKind.i64.wrap ((x.1.length:Int)+(x.2.1.length:Int))).toNat (0:Int),())/\∀(p:Int×List Int×Unit),D5 p.1/\WfU p.2.1/\True->I p->(decide (p.1<(x.1.length:Int))=true->∃(I_1:Int×Int×List Int×Unit->Prop),∃(μ_1:Int×Int×List Int×Unit->Nat),I_1 ((0:Int),(0:Int),p.2.1,())/\∀(a:Int×Int×List Int×Unit),N1 a.1/\D5 a.2.1/\WfU a.2.2.1/\True->I_1 a->(decide (a.2.1<(x.2.1.length:Int))=true->((0:Int)<=IntKind.i64.wrap (p.1+a.2.1)/\IntKind.i64.wrap (p.1+a.2.1)<(a.2.2.1.length:Int))/\(0<=p.1/\p.1<(x.1.length:Int))/\(0<=a.2.1/\a.2.1<(x.2.1.length:Int))/\((0:Int)<=IntKind.i64.wrap (p.1+a.2.1)/\IntKind.i64.wrap (p.1+a.2.1)<(a.2.2.1.length:Int))/\(0:(Ty.int IntKind.u64).den)<=(32:Int)/\I_1 ((IntKind.u64.wrap (a.1+IntKind.u64.wrap (IntKind.u64.wrap (List.getD a.2.2.1 (IntKind.i64.wrap (p.1+a.2.1)).toNat (0:Int))+IntKind.u64.wrap (IntKind.u64.wrap (gx (0:Int) x.1 p.1)*IntKind.u64.wrap (gx (0:Int) x.2.1 a.2.1))))).fdiv ((2:Int)^Min.min (Int.toNat (32:Int)) IntKind.u64.bits),IntKind.i64.wrap (a.2.1+1),List.set a.2.2.1 (IntKind.i64.wrap (p.1+a.2.1)).toNat (IntKind.u32.wrap (IntKind.u64.wrap (a.1+IntKind.u64.wrap (IntKind.u64.wrap (List.getD a.2.2.1 (IntKind.i64.wrap (p.1+a.2.1)).toNat (0:Int))+IntKind.u64.wrap (IntKind.u64.wrap (gx (0:Int) x.1 p.1)*IntKind.u64.wrap (gx (0:Int) x.2.1 a.2.1)))))),())/\μ_1 ((IntKind.u64.wrap (a.1+IntKind.u64.wrap (IntKind.u64.wrap (List.getD a.2.2.1 (IntKind.i64.wrap (p.1+a.2.1)).toNat (0:Int))+IntKind.u64.wrap (IntKind.u64.wrap (gx (0:Int) x.1 p.1)*IntKind.u64.wrap (gx (0:Int) x.2.1 a.2.1))))).fdiv ((2:Int)^Min.min (Int.toNat (32:Int)) IntKind.u64.bits),IntKind.i64.wrap (a.2.1+1),List.set a.2.2.1 (IntKind.i64.wrap (p.1+a.2.1)).toNat (IntKind.u32.wrap (IntKind.u64.wrap (a.1+IntKind.u64.wrap (IntKind.u64.wrap (List.getD a.2.2.1 (IntKind.i64.wrap (p.1+a.2.1)).toNat (0:Int))+IntKind.u64.wrap (IntKind.u64.wrap (gx (0:Int) x.1 p.1)*IntKind.u64.wrap (gx (0:Int) x.2.1 a.2.1)))))),())<μ_1 a)/\(decide (a.2.1<(x.2.1.length:Int))=false->((0:Int)<=IntKind.i64.wrap (p.1+(x.2.1.length:Int))/\IntKind.i64.wrap (p.1+(x.2.1.length:Int))<(a.2.2.1.length:Int))/\I (IntKind.i64.wrap (p.1+1),List.set a.2.2.1 (IntKind.i64.wrap (p.1+(x.2.1.length:Int))).toNat (IntKind.u32.wrap a.1),())/\μ (IntKind.i64.wrap (p.1+1),List.set a.2.2.1 (IntKind.i64.wrap (p.1+(x.2.1.length:Int))).toNat (IntKind.u32.wrap a.1),())<μ p))/\(decide (p.1<(x.1.length:Int))=false->sh0 p.2.1/\∀(r:List Int×Unit),WfU r.1/\True->r.1=nc (nv p.2.1)->r.1=nc (nv x.1*nv x.2.1))
theorem E3h (x:A7 A3y.args):H4 Tryz.prog tys E0j F4r A3y Tryz.f150 x=C4l x:=by kernel_rfl
def B0s:A7 V6.args->Prop:=fun(x:List Int×Unit)=>sh0 x.1/\∀(r:List Int×Unit),WfU r.1/\True->r.1=nc (nv x.1)->(decide ((2:Int)<(r.1.length:Int))=true->(nv x.1<18446744073709551616->(0:Int)=(↑(nv x.1):Int)/\false=true)/\((18446744073709551616:Nat)<=nv x.1->false=false))/\(decide ((2:Int)<(r.1.length:Int))=false->∃(I:Int×Int×Unit->Prop),∃(μ:Int×Int×Unit->Nat),I ((0:Int),IntKind.i64.wrap ((r.1.length:Int)-(1:Int)),())/\∀(p:Int×Int×Unit),N1 p.1/\D5 p.2.1/\True->I p->(decide (0<=p.2.1)=true->(0:(Ty.int IntKind.u64).den)<=(32:Int)/\(0<=p.2.1/\p.2.1<(r.1.length:Int))/\I (IntKind.u64.wrap (↑(BitVec.ofInt IntKind.u64.bits (IntKind.u64.wrap (p.1*2^Min.min (Int.toNat (32:Int)) IntKind.u64.bits)) |||BitVec.ofInt IntKind.u64.bits (IntKind.u64.wrap (gx (0:Int) r.1 p.2.1))).toNat:Int),IntKind.i64.wrap (p.2.1-1),())/\μ (IntKind.u64.wrap (↑(BitVec.ofInt IntKind.u64.bits (IntKind.u64.wrap (p.1*2^Min.min (Int.toNat (32:Int)) IntKind.u64.bits)) |||BitVec.ofInt IntKind.u64.bits (IntKind.u64.wrap (gx (0:Int) r.1 p.2.1))).toNat:Int),IntKind.i64.wrap (p.2.1-1),())<μ p)/\(decide (0<=p.2.1)=false->(nv x.1<18446744073709551616->p.1=(↑(nv x.1):Int)/\true=true)/\((18446744073709551616:Nat)<=nv x.1->true=false)))
theorem C9r (x:A7 V6.args):H4 Tryz.prog tys C3m E4d V6 Tryz.f224 x=B0s x:=by kernel_rfl
theorem D6h (x:A7 I6.args) (hw:awf I6.args x) (hp:I6.pre x):C0l x:=by
 obtain⟨l,_⟩:=x;have hl:l.length<=35184372088832:=hp;have hb:A9 l:=A6 hw.1.2;change List Int at l;simp only[C0l];refine⟨fun p=>0<=p.1/\p.1<=(l.length:Int)/\∀i x,p.1.toNat<=i->l[i]? =some x->x=0,fun p=>p.1.toNat,⟨Int.natCast_nonneg _,Int.le_refl _,fun i x hi hx=> ?_⟩, ?_⟩
 . rw[List.getElem?_eq_none (by simpa using hi)]at hx;cases hx
 rintro⟨n,_⟩ _ ⟨h0,h1,h2⟩;change Int at n;simp only at h0 h1 h2⊢;refine⟨fun h=> ?_,fun h=> ?_,fun h=> ?_⟩
 . have h:=of_decide_eq_true h;rw[wr (by omega) (by omega)];exact⟨by omega,by omega⟩
 . rw[S9]at h;simp only[Bool.and_eq_true,decide_eq_true_eq]at h;obtain⟨h3,h4⟩:=h;rw[wr (by omega) (by omega)]at h4⊢;refine⟨⟨by omega,by omega,fun i x hi hx=> ?_⟩,by omega⟩;by_cases he:i=(n-1).toNat
   . subst he;rw[K5 (d:=(0:Int)) (by omega) (by omega)]at hx;cases hx;exact h4
   . exact h2 i x (by omega) hx
 . refine⟨⟨Int.le_refl _,h0,h1⟩, ?_⟩;have e:(l.take n.toNat).drop (Int.toNat 0)=l.take n.toNat:=rfl;rw[e];have hlen:(l.take n.toNat).length<=l.length:=by rw[List.length_take];omega
   refine⟨⟨by omega,by omega⟩,F8d hb (by omega) h2 ?_⟩;rw[S9]at h;simp only[Bool.and_eq_false_iff,decide_eq_false_iff_not]at h;rcases h with h|h
   . exact .inl (by omega)
   . by_cases hn:n=0
     . exact .inl (by omega)
     . rw[wr (by omega) (by omega)]at h;refine .inr ⟨gx 0 l (n-1), ?_,h⟩;have:=K5 (d:=(0:Int)) (l:=l) (i:=n-1) (by omega) (by omega);rw[<-this];congr 1;omega
theorem D5d (x:A7 T2.args) (hw:awf T2.args x) (_:T2.pre x):B4f x:=by
 obtain⟨a,b,_⟩:=x;have hl:a.length<=9223372036854775807:=hw.1.1;change List Int at a b;simp only[B4f];refine⟨fun h=> ?_,fun h=> ?_⟩
 . have h:=of_decide_eq_true h;exact(decide_eq_false fun e=>h (by rw[e])).symm
 . have hlen:a.length=b.length:=by have:=of_decide_eq_false h;omega
   refine⟨fun p=>0<=p.1/\p.1<=(a.length:Int)/\a.take p.1.toNat=b.take p.1.toNat,fun p=>((a.length:Int)-p.1).toNat,⟨Int.le_refl _,Int.natCast_nonneg _,by simp⟩, ?_⟩;rintro⟨i,_⟩ _ ⟨h0,h1,h2⟩;change Int at i;simp only at h0 h1 h2⊢;refine⟨fun h=> ?_,fun h=> ?_⟩
   . have h:=of_decide_eq_true h;refine⟨⟨h0,h⟩,⟨h0,by omega⟩,fun he=> ?_,fun he=> ?_⟩
     . have he:=of_decide_eq_true he;exact(decide_eq_false fun e=>he (by rw[e])).symm
     . have he:gx 0 a i=gx 0 b i:=by simpa using he
       rw[wr (by omega) (by omega)];refine⟨⟨by omega,by omega, ?_⟩,by omega⟩;rw[show(i+1).toNat=i.toNat+1 from by omega,List.take_add_one,List.take_add_one,K5 (d:=(0:Int)) h0 h,K5 (d:=(0:Int)) h0 (by omega),h2,he]
   . have h:=of_decide_eq_false h;rw[D7 (by omega),D7 (by omega)]at h2;exact(decide_eq_true h2).symm
theorem B6w (x:A7 I5.args) (hw:awf I5.args x) (_:I5.pre x):A2u x:=by
 obtain⟨v,_⟩:=x;change Int at v;have hv:IntKind.u64.min<=v/\v<=IntKind.u64.max:=hw.1;rw[E8s,C5h]at hv;simp only[A2u];refine⟨by decide,by simp, ?_⟩;rintro⟨r,_⟩ _ hr;simp only at hr⊢;rw[hr];congr 1;rw[show Min.min (Int.toNat 32) IntKind.u64.bits=32 from rfl];simp only[nv,A1p];rw[Int.fdiv_eq_ediv_of_nonneg _ (by decide),show(2:Int)^32=4294967296 from rfl];omega
theorem G9a (v:Int) (_:0<=v):Int.fdiv v (2^Min.min (Int.toNat 32) IntKind.u64.bits)=v/4294967296:=by
 rw[show Min.min (Int.toNat 32) IntKind.u64.bits=32 from rfl,Int.fdiv_eq_ediv_of_nonneg _ (by decide)];rfl
theorem E0u (x:A7 A1v.args) (hw:awf A1v.args x) (hp:A1v.pre x):C7c x:=by
 obtain⟨a,b,_⟩:=x;have ha:A9 a:=A6 hw.1.2;have hb:A9 b:=A6 hw.2.1.2;change List Int at a b;obtain⟨la,lb⟩:a.length<=17592186044416/\b.length<=17592186044416:=hp;simp only[C7c];have em:IntKind.i64.wrap (Max.max (a.length:Int) (b.length:Int)+1)=((max a.length b.length+1:Nat):Int):=by
  rw[wr (by omega) (by omega)];omega
 rw[em];have hml:max a.length b.length+1<=17592186044417:=by omega
 refine⟨⟨by omega,Int.le_refl _,by simp;omega,by omega⟩, ?_⟩;have hna:a.length<=max a.length b.length+1:=by omega
 have hnb:b.length<=max a.length b.length+1:=by omega
 have hlt2:=G0e ha hb;generalize max a.length b.length+1=n at hml hna hnb hlt2;refine⟨fun p=>0<=p.2.1/\p.2.1<=(n:Int)/\0<=p.1/\p.1<=1/\p.2.2.1.length=n/\nv (p.2.2.1.take p.2.1.toNat)+4294967296^p.2.1.toNat*p.1.toNat=nv (a.take p.2.1.toNat)+nv (b.take p.2.1.toNat),fun p=>((n:Int)-p.2.1).toNat,⟨Int.le_refl _,Int.natCast_nonneg _,Int.le_refl _,by show(0:Int)<=1;omega,by simp,by simp[nv]⟩, ?_⟩;rintro⟨c,i,out,_⟩ ⟨_,_,hwo,_⟩ ⟨h0,h1,h2,h3,h4,h5⟩;change Int at c i;change List Int at out;simp only at h0 h1 h2 h3 h4 h5⊢;have ho:A9 out:=A6 hwo.2;have da:=V2 ha i.toNat;have db:=V2 hb i.toNat;refine⟨fun h=> ?_,fun h=> ?_⟩
 . have h:=of_decide_eq_true h;refine⟨fun p=>p.1=c+(dg a i.toNat:Int),⟨fun hi=> ?_,fun hi=> ?_⟩, ?_⟩
   . have hi:=of_decide_eq_true hi;refine⟨⟨h0,hi⟩, ?_⟩;show IntKind.u64.wrap _= _;rw[A8t ha h0 hi,w64 (a:=(dg a i.toNat:Int)) (by omega) (by omega),w64 (by omega) (by omega)]
   . have hi:=of_decide_eq_false hi;show c= _;rw[B7x (by omega)];omega
   rintro⟨c1,_⟩ _ hc1;simp only at hc1⊢;refine⟨fun p=>p.1=c1+(dg b i.toNat:Int),⟨fun hi=> ?_,fun hi=> ?_⟩, ?_⟩
   . have hi:=of_decide_eq_true hi;refine⟨⟨h0,hi⟩, ?_⟩;show IntKind.u64.wrap _= _;rw[A8t hb h0 hi,w64 (a:=(dg b i.toNat:Int)) (by omega) (by omega),w64 (by omega) (by omega)]
   . have hi:=of_decide_eq_false hi;show c1= _;rw[B7x (by omega)];omega
   rintro⟨c2,_⟩ _ hc2;simp only at hc2⊢;subst hc1 hc2;refine⟨⟨h0,h⟩,by decide, ?_⟩;rw[G9a _ (by omega),wr (by omega) (by omega),A1p];refine⟨⟨by omega,by omega,by omega,by omega,by rw[List.length_set];exact h4, ?_⟩,by omega⟩;rw[show(i+1).toNat=i.toNat+1 from by omega,R1 (by omega),J9 a,J9 b,Nat.pow_succ];exact E5u h5 (by omega)
 . have h:=of_decide_eq_false h;refine⟨by omega, ?_⟩;rintro⟨r,_⟩ _ hr;simp only at hr⊢;rw[hr];congr 1;rw[show i.toNat=n from by omega,List.take_of_length_le (by omega),List.take_of_length_le hna,List.take_of_length_le hnb]at h5;have hc:c.toNat=0:=C6s (P:=4294967296^n) (x:=nv a+nv b) (by rw[<-h5];exact Nat.le_add_left ..) hlt2;rw[hc,Nat.mul_zero,Nat.add_zero]at h5;exact h5
theorem C8l (x:A7 R7.args) (hw:awf R7.args x) (hp:R7.pre x):A7l x:=by
 obtain⟨a,b,_⟩:=x;change List Int at a b;obtain⟨la,lb⟩:a.length<=17592186044416/\b.length<=17592186044416:=hp;simp only[A7l];refine⟨by omega, ?_⟩;rintro⟨r,_⟩ ⟨⟨hla,_⟩,_⟩ hr;simp only at hr hla⊢;subst hr;refine⟨by omega, ?_⟩;rintro⟨s,_⟩ ⟨⟨hlb,_⟩,_⟩ hs;simp only at hs hlb⊢;subst hs;have ha:=O4 (nv a);have hb:=O4 (nv b);refine⟨fun hne=>⟨fun h=> ?_,fun h=> ?_⟩,fun hne=> ?_⟩
 . have h:=of_decide_eq_true h;exact(B3e (C1s (by omega))).symm
 . have h:=of_decide_eq_false h;have hne:=of_decide_eq_true hne;exact(E2z (C1s (by omega))).symm
 . have hlen:(nc (nv a)).length=(nc (nv b)).length:=by have:=of_decide_eq_false hne;omega
   have ea:=H6 (nv a);have eb:=H6 (nv b);generalize nc (nv a)=r at*;generalize nc (nv b)=s at*;rw[<-ea, <-eb];refine⟨fun p=> -1<=p.1/\p.1<(r.length:Int)/\r.drop (p.1+1).toNat=s.drop (p.1+1).toNat,fun p=>(p.1+1).toNat, ?_, ?_⟩
   . rw[wr (by omega) (by omega)];refine⟨by omega,by omega, ?_⟩;rw[List.drop_of_length_le (by omega),List.drop_of_length_le (by omega)]
   rintro⟨i,_⟩ _ ⟨h0,h1,h2⟩;change Int at i;simp only at h0 h1 h2⊢;refine⟨fun h=> ?_,fun h=> ?_⟩
   . have h:=of_decide_eq_true h;refine⟨⟨h,h1⟩,⟨h,by omega⟩,fun hlt=> ?_,fun hlt=>⟨⟨h,h1⟩,⟨h,by omega⟩,fun hgt=> ?_,fun hgt=> ?_⟩⟩
     . exact(B3e (F2k ha hb hlen h h1 h2 (of_decide_eq_true hlt))).symm
     . exact(E2z (F2k hb ha hlen.symm h (by omega) h2.symm (of_decide_eq_true hgt))).symm
     . have hlt:=of_decide_eq_false hlt;have hgt:=of_decide_eq_false hgt;rw[wr (by omega) (by omega)];refine⟨⟨by omega,by omega, ?_⟩,by omega⟩;rw[show i-1+1=i from by omega,W1 h h1,W1 h (by omega),h2,show gx 0 r i=gx 0 s i from by omega]
   . have h:=of_decide_eq_false h;rw[show(i+1).toNat=0 from by omega,List.drop_zero,List.drop_zero]at h2;rw[h2,E6x]
theorem E4m (x:A7 A2c.args) (hw:awf A2c.args x) (hp:A2c.pre x):C5b x:=by
 obtain⟨a,b,_⟩:=x;change List Int at a b;have hla:A9 a:=A6 hw.1.2;have hlb:A9 b:=A6 hw.2.1.2;obtain⟨la,lb⟩:a.length<=17592186044416/\b.length<=17592186044416:=hp;simp only[C5b];refine⟨⟨la,lb⟩, ?_⟩;rintro⟨d,_⟩ _ hd;simp only at hd⊢;subst hd;refine⟨fun h=> ?_,fun h=> ?_⟩
 . have h:=of_decide_eq_true h;refine⟨fun _=>⟨by trivial,by trivial⟩,fun hge=> ?_⟩;unfold B9q at h;rw[if_neg (by omega)]at h;split at h<;>omega
 . have h:=of_decide_eq_false h;have hge:nv b<=nv a:=by
    rcases Nat.lt_or_ge (nv a) (nv b)with h1|h1
    . rw[B3e h1]at h;omega
    . exact h1
   refine⟨by omega, ?_⟩;rintro⟨r,_⟩ _ hr;simp only at hr⊢;refine⟨by omega, ?_⟩;rintro⟨s,_⟩ _ hs;simp only at hs⊢;have hra:A9 r:=hr▸O4 _;have hsb:A9 s:=hs▸O4 _;have hrv:nv r=nv a:=by rw[hr,H6]
   have hsv:nv s=nv b:=by rw[hs,H6]
   have hrl:r.length<=a.length:=by rw[hr];exact C5 hla
   have hsr:s.length<=r.length:=by rw[hr,hs];exact O0 hge
   rw[<-hrv, <-hsv]at hge⊢;clear hr hs hrv hsv;refine⟨⟨by omega,Int.le_refl _,by simp;omega,by omega⟩, ?_⟩;refine⟨fun p=>0<=p.2.1/\p.2.1<=(r.length:Int)/\0<=p.1/\p.1<=1/\p.2.2.1.length=r.length/\nv (r.take p.2.1.toNat)+4294967296^p.2.1.toNat*p.1.toNat=nv (p.2.2.1.take p.2.1.toNat)+nv (s.take p.2.1.toNat),fun p=>((r.length:Int)-p.2.1).toNat,⟨Int.le_refl _,Int.natCast_nonneg _,Int.le_refl _,by show(0:Int)<=1;omega,by simp,by simp[nv]⟩, ?_⟩;rintro⟨c,i,out,_⟩ ⟨_,_,hwo,_⟩ ⟨h0,h1,h2,h3,h4,h5⟩;change Int at c i;change List Int at out;simp only at h0 h1 h2 h3 h4 h5⊢;have ho:A9 out:=A6 hwo.2;have da:=V2 hra i.toNat;have db:=V2 hsb i.toNat;refine⟨fun h=> ?_,fun h=> ?_⟩
   . have h:=of_decide_eq_true h;refine⟨fun p=>p.1=c+(dg s i.toNat:Int),⟨fun hi=> ?_,fun hi=> ?_⟩, ?_⟩
     . have hi:=of_decide_eq_true hi;refine⟨⟨h0,hi⟩, ?_⟩;show IntKind.u64.wrap _= _;rw[A8t hsb h0 hi,w64 (a:=(dg s i.toNat:Int)) (by omega) (by omega),w64 (by omega) (by omega)]
     . have hi:=of_decide_eq_false hi;show c= _;rw[B7x (by omega)];omega
     rintro⟨c1,_⟩ _ hc1;change Int at c1;simp only at hc1⊢;refine⟨⟨h0,h⟩, ?_⟩;rw[A8t hra h0 h,w64 (a:=(dg r i.toNat:Int)) (by omega) (by omega)];refine⟨fun p=>0<=p.1/\p.1<=1/\p.2.1=(dg r i.toNat:Int)+4294967296*p.1/\c1<=p.2.1/\p.2.1-c1<=4294967295,⟨fun hi=> ?_,fun hi=> ?_⟩, ?_⟩
     . have hi:=of_decide_eq_true hi;show(0:Int)<=1/\(1:Int)<=1/\IntKind.u64.wrap _=(dg r i.toNat:Int)+4294967296*1/\c1<=IntKind.u64.wrap _ /\IntKind.u64.wrap _-c1<= _;rw[w64 (by omega) (by omega)];omega
     . have hi:=of_decide_eq_false hi;show(0:Int)<=0/\(0:Int)<=1/\(dg r i.toNat:Int)=(dg r i.toNat:Int)+4294967296*0/\c1<=(dg r i.toNat:Int)/\(dg r i.toNat:Int)-c1<= _;omega
     rintro⟨c2,x2,_⟩ _ ⟨k1,k2,k3,k4,k5⟩;change Int at c2 x2;simp only at k1 k2 k3 k4 k5⊢;refine⟨⟨h0,by omega⟩, ?_⟩;rw[wr (by omega) (by omega),w64 (a:=x2-c1) (by omega) (by omega),w32 (by omega) (by omega)];refine⟨⟨by omega,by omega,by omega,by omega,by rw[List.length_set];exact h4, ?_⟩,by omega⟩;rw[show(i+1).toNat=i.toNat+1 from by omega,R1 (by omega),J9 r,J9 s,Nat.pow_succ];exact D9u h5 (by omega)
   . have h:=of_decide_eq_false h;refine⟨by omega, ?_⟩;rintro⟨q,_⟩ _ hq;simp only at hq⊢;refine⟨fun hlt=>by omega,fun _=>⟨?_,by trivial⟩⟩;rw[hq];congr 1;rw[show i.toNat=r.length from by omega,List.take_of_length_le (Nat.le_refl _),List.take_of_length_le (by omega),List.take_of_length_le hsr]at h5;have hol:nv out<4294967296^out.length:=B0i ho;rw[h4]at hol;have hc:c.toNat=0:=C6s (P:=4294967296^r.length) (x:=nv out) (by omega) hol;rw[hc,Nat.mul_zero,Nat.add_zero]at h5;omega
theorem E0s (x:A7 A3y.args) (hw:awf A3y.args x) (hp:A3y.pre x):C4l x:=by
 obtain⟨a,b,_⟩:=x;have ha:A9 a:=A6 hw.1.2;have hb:A9 b:=A6 hw.2.1.2;change List Int at a b;obtain⟨la,lb⟩:a.length<=17592186044416/\b.length<=17592186044416:=hp;simp only[C4l];have em:IntKind.i64.wrap ((a.length:Int)+(b.length:Int))=((a.length+b.length:Nat):Int):=by
  rw[wr (by omega) (by omega)];omega
 rw[em];refine⟨⟨by omega,Int.le_refl _,by simp;omega,by omega⟩, ?_⟩;refine⟨fun p=>0<=p.1/\p.1<=(a.length:Int)/\p.2.1.length=a.length+b.length/\nv p.2.1=nv (a.take p.1.toNat)*nv b/\∀j,p.1.toNat+b.length<=j->dg p.2.1 j=0,fun p=>((a.length:Int)-p.1).toNat,⟨Int.le_refl _,Int.natCast_nonneg _,by rw[List.length_replicate,Int.toNat_natCast],by simp[nv,B5m],fun j _=>C9i _ _⟩, ?_⟩;rintro⟨i,out,_⟩ ⟨_,hwo,_⟩ ⟨h0,h1,h2,h3,h4⟩;change Int at i;change List Int at out;simp only at h0 h1 h2 h3 h4⊢;have ho:A9 out:=A6 hwo.2;refine⟨fun h=> ?_,fun h=> ?_⟩
 . have h:=of_decide_eq_true h;have da:=V2 ha i.toNat;refine⟨fun p=>0<=p.2.1/\p.2.1<=(b.length:Int)/\0<=p.1/\p.1<=4294967295/\p.2.2.1.length=a.length+b.length/\nv p.2.2.1+4294967296^(i.toNat+p.2.1.toNat)*p.1.toNat=nv out+4294967296^i.toNat*(dg a i.toNat*nv (b.take p.2.1.toNat))/\∀j,i.toNat+b.length<=j->dg p.2.2.1 j=0,fun p=>((b.length:Int)-p.2.1).toNat,⟨Int.le_refl _,Int.natCast_nonneg _,Int.le_refl _,by show(0:Int)<=4294967295;omega,h2,by simp[nv],h4⟩, ?_⟩;rintro⟨c,j,o,_⟩ ⟨_,_,hwo',_⟩ ⟨g0,g1,g2,g3,g4,g5,g6⟩;change Int at c j;change List Int at o;simp only at g0 g1 g2 g3 g4 g5 g6⊢;have hoo:A9 o:=A6 hwo'.2;refine⟨fun hj=> ?_,fun hj=> ?_⟩
   . have hj:=of_decide_eq_true hj;have db:=V2 hb j.toNat;rw[wr (a:=i+j) (by omega) (by omega)];refine⟨⟨by omega,by omega⟩,⟨h0,h⟩,⟨g0,hj⟩,⟨by omega,by omega⟩,by decide, ?_⟩;rw[A8t ha h0 h,A8t hb g0 hj,A0d hoo,show(i+j).toNat=i.toNat+j.toNat from by omega];have dk:=V2 hoo (i.toNat+j.toNat);have hm:dg a i.toNat*dg b j.toNat<=4294967295*4294967295:=Nat.mul_le_mul da db;have hme:(dg a i.toNat:Int)*(dg b j.toNat:Int)=((dg a i.toNat*dg b j.toNat:Nat):Int):=(Int.natCast_mul _ _).symm;rw[w64 (a:=(dg a i.toNat:Int)) (by omega) (by omega),w64 (a:=(dg b j.toNat:Int)) (by omega) (by omega),w64 (a:=(dg o (i.toNat+j.toNat):Int)) (by omega) (by omega),hme];have g5':=g5;generalize hMM:dg a i.toNat*dg b j.toNat=M at hm;rw[w64 (a:=(M:Int)) (by omega) (by omega),w64 (a:=(dg o (i.toNat+j.toNat):Int)+(M:Int)) (by omega) (by omega),w64 (by omega) (by omega),G9a _ (by omega),wr (by omega) (by omega),A1p];refine⟨⟨by omega,by omega,by omega,by omega,by rw[List.length_set];exact g4, ?_,fun q hq=> ?_⟩,by omega⟩
     . have hs:=B1v (l:=o) (k:=i.toNat+j.toNat) (v:=(c+((dg o (i.toNat+j.toNat):Int)+(M:Int)))%4294967296) (by omega);rw[show(j+1).toNat=j.toNat+1 from by omega,J9 b, <-Nat.add_assoc i.toNat,Nat.pow_succ,Nat.mul_add (dg a i.toNat)];have e1:dg a i.toNat*(4294967296^j.toNat*dg b j.toNat)=4294967296^j.toNat*M:=by rw[<-hMM,Nat.mul_left_comm]
       rw[e1,Nat.mul_add (4294967296^i.toNat), <-Nat.mul_assoc (4294967296^i.toNat) (4294967296^j.toNat), <-Nat.pow_add, <-Nat.add_assoc (nv out), <-g5];generalize 4294967296^(i.toNat+j.toNat)=P at*;have hd:((c+((dg o (i.toNat+j.toNat):Int)+(M:Int)))%4294967296).toNat+4294967296*((c+((dg o (i.toNat+j.toNat):Int)+(M:Int)))/4294967296).toNat=c.toNat+dg o (i.toNat+j.toNat)+M:=by omega
       have hd2:=congrArg (P* ·) hd;simp only[Nat.mul_add, <-Nat.mul_assoc]at hd2;omega
     . rw[C9d (by omega),if_neg (by omega)];exact g6 q hq
   . have hj:=of_decide_eq_false hj;rw[wr (a:=i+(b.length:Int)) (by omega) (by omega),wr (by omega) (by omega),w32 g2 g3];refine⟨⟨by omega,by omega⟩,⟨by omega,by omega,by rw[List.length_set];exact g4, ?_,fun q hq=> ?_⟩,by omega⟩
     . have hs:=B1v (l:=o) (k:=(i+(b.length:Int)).toNat) (v:=c) (by omega);rw[g6 _ (by omega),Nat.mul_zero,Nat.add_zero]at hs;rw[hs,show(i+(b.length:Int)).toNat=i.toNat+b.length from by omega];rw[show j.toNat=b.length from by omega,List.take_of_length_le (Nat.le_refl b.length)]at g5;rw[g5,show(i+1).toNat=i.toNat+1 from by omega,J9,Nat.add_mul,h3,Nat.mul_assoc]
     . rw[C9d (by omega),if_neg (by omega)];exact g6 q (by omega)
 . have h:=of_decide_eq_false h;refine⟨by omega, ?_⟩;rintro⟨r,_⟩ _ hr;simp only at hr⊢;rw[hr,h3,List.take_of_length_le (by omega)]
theorem C9q (x:A7 V6.args) (hw:awf V6.args x) (hp:V6.pre x):B0s x:=by
 obtain⟨a,_⟩:=x;have ha:A9 a:=A6 hw.1.2;change List Int at a;have la:a.length<=35184372088832:=hp;have n1:=C5 ha;simp only[B0s];refine⟨hp, ?_⟩;rintro⟨r,_⟩ _ hr;simp only at hr⊢;have hrv:nv r=nv a:=by rw[hr,H6]
 have hra:A9 r:=hr▸O4 _;refine⟨fun h=> ?_,fun h=> ?_⟩
 . have h:=of_decide_eq_true h;have h2:4294967296^2<=nv a:=G5g (by rw[<-hr];omega);exact⟨fun h3=>by omega,fun _=>by trivial⟩
 . have h:=of_decide_eq_false h;have hrl:r.length<=2:=by omega
   rw[wr (a:=(r.length:Int)-1) (by omega) (by omega)];refine⟨fun p=> -1<=p.2.1/\p.2.1<(r.length:Int)/\p.1=(nv (r.drop (p.2.1+1).toNat):Int),fun p=>(p.2.1+1).toNat,⟨by show(-1:Int)<=(r.length:Int)-1;omega,by show(r.length:Int)-1< _;omega, ?_⟩, ?_⟩
   . show(0:Int)= _;rw[List.drop_of_length_le (by show r.length<=((r.length:Int)-1+1).toNat;omega)];rfl
   rintro⟨v,i,_⟩ _ ⟨i0,i1,hv⟩;change Int at v i;simp only at i0 i1 hv⊢;refine⟨fun h2=> ?_,fun h2=> ?_⟩
   . have h2:=of_decide_eq_true h2;have hg:=B8j hra h2 i1;have hlt:nv (r.drop (i+1).toNat)<4294967296:=by
      have h3:=B0i (l:=r.drop (i+1).toNat) fun y hy=>hra y (List.mem_of_mem_drop hy)
      have h4:4294967296^(r.drop (i+1).toNat).length<=4294967296^1:=Nat.pow_le_pow_right (by decide) (by rw[List.length_drop];omega);omega
     rw[wr (a:=i-1) (by omega) (by omega),show Min.min (Int.toNat 32) IntKind.u64.bits=32 from rfl,w64 (a:=v*2^32) (by omega) (by omega),w64 (a:=gx 0 r i) (by omega) (by omega)];have hor:=D5n (v:=gx 0 r i) (b:=v) (k:=32) (by omega) (by omega) (by omega) (by omega) (by omega);rw[show IntKind.u64.bits=64 from rfl,hor,w64 (by omega) (by omega)];refine⟨by decide,⟨h2,i1⟩,⟨by omega,by omega, ?_⟩,by omega⟩;rw[show i-1+1=i from by omega,W1 h2 i1];show _=(((gx 0 r i).toNat+4294967296*nv (r.drop (i+1).toNat):Nat):Int);omega
   . have h2:=of_decide_eq_false h2;rw[show(i+1).toNat=0 from by omega,List.drop_zero,hrv]at hv;refine⟨fun _=>⟨hv,by trivial⟩,fun h3=> ?_⟩;have h4:=B0i hra;have h5:4294967296^r.length<=4294967296^2:=Nat.pow_le_pow_right (by decide) hrl;omega
def F0e:An:= {loop:= [(6,⟨[],[],[(3,false,[.val (.int .i64)]),(4,false,[.val (.int .u32)])],[],[]⟩)]}
def D1u:B4:= [(191,I6)]
def F5l:An:= {}
def E0p:B4:= []
def E3p:An:= {join:= [(15,⟨[0,1,4,11],[0],[(5,false,[.val (.sl (.int .u32))])],[],[]⟩),(11,⟨[0,1,4,11],[],[(5,false,[.val (.sl (.int .u32))])],[],[(0, .row (.int .u32) 153)]⟩)],loop:= [(10,⟨[0,1,4],[],[(5,false,[.val (.sl (.int .u32))]),(11,false,[.val (.int .i64)])],[],[(0, .row (.int .u32) 153)]⟩)],plan:= [(7,[],[],true,(.p 0 (.p 1 (.p 2 (.p 4 (.p 5 (.p 6 (.e 3 (.e 7 (.p 8 (.p 9 (.p 10 .done))))))))))))]}
def C1u:B4:= [(157,A1v),(158,A2c),(176,I5),(191,I6),(224,V6),(225,A1j),(226,A4a)]
def F5k:An:= {loop:= [(2,⟨[],[],[(0,false,[.val (.sl (.int .u32))]),(1,false,[.val (.sl (.int .u32))])],[],[]⟩)]}
def D9f:B4:= [(188,R9),(191,I6)]
def B9r:A7 A1j.args->Prop:=fun(x:List Int×Unit)=>sh0 x.1/\∀(r:List Int×Unit),WfU r.1/\True->r.1=nc (nv x.1)->(decide ((r.1.length:Int)=(0:Int))=true->(0:Int)=(↑(A0k (nv x.1)):Int))/\(decide ((r.1.length:Int)=(0:Int))=false->((0:Int)<=IntKind.i64.wrap ((r.1.length:Int)-(1:Int))/\IntKind.i64.wrap ((r.1.length:Int)-(1:Int))<(r.1.length:Int))/\∃(I:Int×Int×Unit->Prop),∃(μ:Int×Int×Unit->Nat),I (IntKind.i64.wrap ((32:Int)*IntKind.i64.wrap ((r.1.length:Int)-(1:Int))),gx (0:Int) r.1 (IntKind.i64.wrap ((r.1.length:Int)-(1:Int))),())/\∀(p:Int×Int×Unit),D5 p.1/\(IntKind.u32.min<=p.2.1/\p.2.1<=IntKind.u32.max)/\True->I p->(decide (0<p.2.1)=true->(0:(Ty.int IntKind.u64).den)<=(1:Int)/\I (IntKind.i64.wrap (p.1+1),Int.fdiv p.2.1 ((2:Int)^Min.min (Int.toNat (1:Int)) IntKind.u32.bits),())/\μ (IntKind.i64.wrap (p.1+1),Int.fdiv p.2.1 ((2:Int)^Min.min (Int.toNat (1:Int)) IntKind.u32.bits),())<μ p)/\(decide (0<p.2.1)=false->p.1=(↑(A0k (nv x.1)):Int)))
theorem D7g (x:A7 A1j.args):H4 Tryz.prog tys D1u F0e A1j Tryz.f225 x=B9r x:=by kernel_rfl
def C6v:A7 A4a.args->Prop:=fun(x:List Int×Int×Unit)=>(32:Int)≠(0:Int)/\(decide ((x.1.length:Int)<=IntKind.i64.wrap (Int.tdiv x.2.1 (32:Int)))=true->(0:Int)=(↑(nv x.1/(2:Nat)^x.2.1.toNat%(2:Nat)):Int))/\(decide ((x.1.length:Int)<=IntKind.i64.wrap (Int.tdiv x.2.1 (32:Int)))=false->(32:Int)≠(0:Int)/\((0:Int)<=IntKind.i64.wrap (Int.tdiv x.2.1 (32:Int))/\IntKind.i64.wrap (Int.tdiv x.2.1 (32:Int))<(x.1.length:Int))/\(32:Int)≠(0:Int)/\(0:(Ty.int IntKind.u64).den)<=IntKind.u64.wrap (Int.tmod x.2.1 (32:Int))/\IntKind.u32.wrap (↑(BitVec.ofInt IntKind.u32.bits ((gx (0:Int) x.1 (IntKind.i64.wrap (Int.tdiv x.2.1 (32:Int)))).fdiv ((2:Int)^Min.min (IntKind.u64.wrap (Int.tmod x.2.1 (32:Int))).toNat IntKind.u32.bits))&&&BitVec.ofInt IntKind.u32.bits (1:Int)).toNat:Int)=(↑(nv x.1/(2:Nat)^x.2.1.toNat%(2:Nat)):Int))
theorem E3d (x:A7 A4a.args):H4 Tryz.prog tys E0p F5l A4a Tryz.f226 x=C6v x:=by kernel_rfl
def A9t:A7 R9.args->Prop:=fun(x:List Int×List Int×Unit)=>sh0 x.2.1/\∀(r:List Int×Unit),WfU r.1/\True->r.1=nc (nv x.2.1)->(decide ((r.1.length:Int)=(0:Int))=true->(nv x.2.1=0->false=false)/\(nv x.2.1≠0->B0o Int=nc (nv x.1/nv x.2.1)/\B0o Int=nc (nv x.1%nv x.2.1)/\false=true))/\(decide ((r.1.length:Int)=(0:Int))=false->sh0 x.1/\∀(d:Int×Bool×Unit),N1 d.1/\True/\True->(nv x.1<18446744073709551616->d.1=(↑(nv x.1):Int)/\d.2.1=true)/\((18446744073709551616:Nat)<=nv x.1->d.2.1=false)->sh0 r.1/\∀(b:Int×Bool×Unit),N1 b.1/\True/\True->(nv r.1<18446744073709551616->b.1=(↑(nv r.1):Int)/\b.2.1=true)/\((18446744073709551616:Nat)<=nv r.1->b.2.1=false)->(sel d.2.1 b.2.1 false=true->b.1≠0/\b.1≠0/\True/\∀(r:List Int×Unit),WfU r.1/\True->r.1=nc (IntKind.u64.wrap (Int.tdiv d.1 b.1)).toNat->True/\∀(f:List Int×Unit),WfU f.1/\True->f.1=nc (Int.tmod d.1 b.1).toNat->(nv x.2.1=0->true=false)/\(nv x.2.1≠0->r.1=nc (nv x.1/nv x.2.1)/\f.1=nc (nv x.1%nv x.2.1)/\true=true))/\(sel d.2.1 b.2.1 false=false->((0:Int)<=(x.1.length:Int)/\(x.1.length:Int)<=(x.1.length:Int)/\(↑(4:Nat):Int)*(x.1.length:Int)<=(281474976710656:Int)/\(x.1.length:Int)<=(9223372036854775807:Int))/\sh1 x.1/\∀(f:Int×Unit),D5 f.1/\True->f.1=(↑(A0k (nv x.1)):Int)->∃(I:List Int×Int×List Int×Unit->Prop),∃(μ:List Int×Int×List Int×Unit->Nat),I ([],IntKind.i64.wrap (f.1-1),List.replicate (x.1.length:Int).toNat (0:Int),())/\∀(p:List Int×Int×List Int×Unit),WfU p.1/\D5 p.2.1/\WfU p.2.2.1/\True->I p->(decide (0<=p.2.1)=true->∃(J:List Int×List Int×Unit->Prop),((sh1 p.1/\sh1 p.1)/\∀(c:List Int×Unit),WfU c.1/\True->c.1=nc (nv p.1+nv p.1)->∃(J_1:List Int×Unit->Prop),(0<=p.2.1/\∀(r:Int×Unit),(IntKind.u32.min<=r.1/\r.1<=IntKind.u32.max)/\True->r.1=(↑(nv x.1/(2:Nat)^Int.toNat p.2.1%(2:Nat)):Int)->(decide (r.1=1)=true->(sh1 c.1/\sh1 [(1:Int)])/\∀(r:List Int×Unit),WfU r.1/\True->r.1=nc (nv c.1+nv [(1:Int)])->J_1 r)/\(decide (r.1=1)=false->J_1 c))/\∀(a:List Int×Unit),WfU a.1/\True->J_1 a->(sh1 a.1/\sh1 r.1)/\∀(e:List Int×Bool×Unit),WfU e.1/\True/\True->(nv a.1<nv r.1->e.1= []/\e.2.1=false)/\(nv r.1<=nv a.1->e.1=nc (nv a.1-nv r.1)/\e.2.1=true)->(e.2.1=true->(32:Int)≠(0:Int)/\((0:Int)<=IntKind.i64.wrap (Int.tdiv p.2.1 (32:Int))/\IntKind.i64.wrap (Int.tdiv p.2.1 (32:Int))<(p.2.2.1.length:Int))/\(32:Int)≠(0:Int)/\(0:(Ty.int IntKind.u64).den)<=IntKind.u64.wrap (Int.tmod p.2.1 (32:Int))/\((0:Int)<=IntKind.i64.wrap (Int.tdiv p.2.1 (32:Int))/\IntKind.i64.wrap (Int.tdiv p.2.1 (32:Int))<(p.2.2.1.length:Int))/\J (e.1,List.set p.2.2.1 (IntKind.i64.wrap (Int.tdiv p.2.1 (32:Int))).toNat (IntKind.u32.wrap (↑(BitVec.ofInt IntKind.u32.bits (List.getD p.2.2.1 (IntKind.i64.wrap (Int.tdiv p.2.1 (32:Int))).toNat (0:Int)) |||BitVec.ofInt IntKind.u32.bits (IntKind.u32.wrap ((1:Int)*(2:Int)^Min.min (IntKind.u64.wrap (Int.tmod p.2.1 (32:Int))).toNat IntKind.u32.bits))).toNat:Int)),()))/\(e.2.1=false->J (a.1,p.2.2.1,())))/\∀(a:List Int×List Int×Unit),WfU a.1/\WfU a.2.1/\True->J a->I (a.1,IntKind.i64.wrap (p.2.1-1),a.2.1,())/\μ (a.1,IntKind.i64.wrap (p.2.1-1),a.2.1,())<μ p)/\(decide (0<=p.2.1)=false->sh0 p.2.2.1/\∀(r:List Int×Unit),WfU r.1/\True->r.1=nc (nv p.2.2.1)->sh0 p.1/\∀(c:List Int×Unit),WfU c.1/\True->c.1=nc (nv p.1)->(nv x.2.1=0->true=false)/\(nv x.2.1≠0->r.1=nc (nv x.1/nv x.2.1)/\c.1=nc (nv x.1%nv x.2.1)/\true=true))))
theorem D0l (x:A7 R9.args):H4 Tryz.prog tys C1u E3p R9 Tryz.f188 x=A9t x:=by kernel_rfl
def C6i:A7 A4c.args->Prop:=fun(x:List Int×List Int×Unit)=>sh0 x.1/\∀(r:List Int×Unit),WfU r.1/\True->r.1=nc (nv x.1)->sh0 x.2.1/\∀(a:List Int×Unit),WfU a.1/\True->a.1=nc (nv x.2.1)->∃(I:List Int×List Int×Unit->Prop),∃(μ:List Int×List Int×Unit->Nat),I (r.1,a)/\∀(p:List Int×List Int×Unit),WfU p.1/\WfU p.2.1/\True->I p->(decide ((0:Int)<(p.2.1.length:Int))=true->(sh2 p.1/\sh2 p.2.1)/\∀(r:List Int×List Int×Bool×Unit),WfU r.1/\WfU r.2.1/\True/\True->(nv p.2.1=0->r.2.2.1=false)/\(nv p.2.1≠0->r.1=nc (nv p.1/nv p.2.1)/\r.2.1=nc (nv p.1%nv p.2.1)/\r.2.2.1=true)->I (p.2.1,r.2.1,())/\μ (p.2.1,r.2.1,())<μ p)/\(decide ((0:Int)<(p.2.1.length:Int))=false->p.1=nc ((nv x.1).gcd (nv x.2.1)))
theorem E3l (x:A7 A4c.args):H4 Tryz.prog tys D9f F5k A4c Tryz.f187 x=C6i x:=by kernel_rfl
theorem D7s (x:A7 A1j.args) (hw:awf A1j.args x) (hp:A1j.pre x):B9r x:=by
 obtain⟨a,_⟩:=x;have ha:A9 a:=A6 hw.1.2;change List Int at a;have la:a.length<=17592186044416:=hp;have n1:=C5 ha;have hbl:=F9p ha;simp only[B9r];refine⟨by show a.length<=35184372088832;omega, ?_⟩;rintro⟨r,_⟩ _ hr;simp only at hr⊢;have hrv:nv r=nv a:=by rw[hr,H6]
 have hra:A9 r:=hr▸O4 _;refine⟨fun h=> ?_,fun h=> ?_⟩
 . have h:=of_decide_eq_true h;have h0:nv a=0:=by rw[<-hrv,List.eq_nil_of_length_eq_zero (l:=r) (by omega)];rfl
   rw[h0];rfl
 . have h:=of_decide_eq_false h;have hrl:r.length<=a.length:=by rw[hr];exact n1
   have h0:nv a≠0:=fun e=>h (by rw[hr,e,T1];rfl)
   have ht:=G1m h0;rw[<-hr]at ht;rw[wr (a:=(r.length:Int)-1) (by omega) (by omega),wr (a:=32*((r.length:Int)-1)) (by omega) (by omega),A8t hra (by omega) (by omega),show((r.length:Int)-1).toNat=r.length-1 from by omega];have hd:=V2 hra (r.length-1);refine⟨⟨by omega,by omega⟩,fun p=>0<=p.1/\0<=p.2.1/\p.1+(A0k p.2.1.toNat:Int)=(A0k (nv a):Int),fun p=>p.2.1.toNat,⟨by show(0:Int)<=32*((r.length:Int)-1);omega,Int.natCast_nonneg _, ?_⟩, ?_⟩
   . show 32*((r.length:Int)-1)+(A0k ((dg r (r.length-1):Nat):Int).toNat:Int)= _;rw[Int.toNat_natCast,ht];omega
   rintro⟨n,v,_⟩ _ ⟨h1,h2,h3⟩;change Int at n v;simp only at h1 h2 h3⊢;refine⟨fun h4=> ?_,fun h4=> ?_⟩
   . have h4:=of_decide_eq_true h4;have hh:=F7y (n:=v.toNat) (by omega);have e:Int.fdiv v (2^Min.min (Int.toNat 1) IntKind.u32.bits)=v/2:=by
      show Int.fdiv v (2^1)= _;rw[Int.fdiv_eq_ediv_of_nonneg _ (by decide)];rfl
     rw[e,wr (a:=n+1) (by omega) (by omega)];refine⟨by decide,⟨by omega,by omega, ?_⟩,by omega⟩;rw[show(v/2).toNat=v.toNat/2 from by omega];omega
   . have h4:=of_decide_eq_false h4;rw[show v.toNat=0 from by omega,C1e]at h3;omega
theorem E4b (x:A7 A4a.args) (hw:awf A4a.args x) (hp:A4a.pre x):C6v x:=by
 obtain⟨a,n,_⟩:=x;have ha:A9 a:=A6 hw.1.2;have hn:=(show IntKind.i64.min<=n/\n<=IntKind.i64.max from hw.2.1);rw[B9z,C6r]at hn;change List Int at a;change Int at n;have hn': -9223372036854775808<=n/\n<=9223372036854775807:=hn;have n0:0<=n:=hp;simp only[C6v];have e1:IntKind.i64.wrap (Int.tdiv n 32)=((n.toNat/32:Nat):Int):=by
  rw[Int.tdiv_eq_ediv_of_nonneg n0,wr (by omega) (by omega)];omega
 have e2:IntKind.u64.wrap (Int.tmod n 32)=((n.toNat%32:Nat):Int):=by
  rw[Int.tmod_eq_emod_of_nonneg n0,w64 (by omega) (by omega)];omega
 rw[e1,e2];have hb:=G5y ha n.toNat;refine⟨by decide,fun h=> ?_,fun h=> ?_⟩
 . have h:=of_decide_eq_true h;rw[B7x (by omega),Nat.zero_div]at hb;rw[<-hb];rfl
 . have h:=of_decide_eq_false h;have h5:n.toNat%32<=31:=by omega
   refine⟨by decide,⟨by omega,by omega⟩,by decide,Int.natCast_nonneg _, ?_⟩;rw[Int.toNat_natCast,show Min.min (n.toNat%32) IntKind.u32.bits=n.toNat%32 from by show Min.min (n.toNat%32) 32= _;omega];rw[A8t ha (by omega) (by omega),Int.toNat_natCast, <-hb];have hd:=V2 ha (n.toNat/32);have e3:Int.fdiv (dg a (n.toNat/32):Int) (2^(n.toNat%32))=((dg a (n.toNat/32)/2^(n.toNat%32):Nat):Int):=by
    rw[show((2:Int)^(n.toNat%32))=((2^(n.toNat%32):Nat):Int)from by rw[Int.natCast_pow];rfl,Int.fdiv_eq_ediv_of_nonneg _ (Int.natCast_nonneg _)];rfl
   have hle:dg a (n.toNat/32)/2^(n.toNat%32)<=dg a (n.toNat/32):=Nat.div_le_self _ _;rw[e3];generalize dg a (n.toNat/32)/2^(n.toNat%32)=Z at*;rw[show IntKind.u32.bits=32 from rfl,F7r (Int.natCast_nonneg _) (by omega),w32 (by omega) (by omega),Int.toNat_natCast]
theorem C9p (x:A7 R9.args) (hw:awf R9.args x) (hp:R9.pre x):A9t x:=by
 obtain⟨a,b,_⟩:=x;have ha:A9 a:=A6 hw.1.2;have hb:A9 b:=A6 hw.2.1.2;change List Int at a b;obtain⟨la,lb⟩:a.length<=8796093022208/\b.length<=8796093022208:=hp;have n2:=C5 hb;simp only[A9t];refine⟨by show b.length<=35184372088832;omega, ?_⟩;rintro⟨d,_⟩ _ hd;simp only at hd⊢;have hdv:nv d=nv b:=by rw[hd,H6]
 have hdl:d.length<=b.length:=by rw[hd];exact n2
 refine⟨fun h=> ?_,fun h=> ?_⟩
 . have h:=of_decide_eq_true h;have h0:nv b=0:=by rw[<-hdv,List.eq_nil_of_length_eq_zero (l:=d) (by omega)];rfl
   exact⟨fun _=>by trivial,fun h1=>absurd h0 h1⟩
 have h:=of_decide_eq_false h;have hb0:nv b≠0:=fun e=>h (by rw[hd,e,T1];rfl)
 refine⟨by show a.length<=35184372088832;omega, ?_⟩;rintro⟨u,su,_⟩ ⟨hu64,_⟩ ⟨u1,u2⟩;refine⟨by show d.length<=35184372088832;omega, ?_⟩;rintro⟨v,sv,_⟩ _ ⟨v1,v2⟩;change Int at u v;change Bool at su sv;simp only at u1 u2 v1 v2 hu64⊢;rw[hdv]at v1 v2;refine⟨fun hs=> ?_,fun _=> ?_⟩
 . rw[S9,Bool.and_eq_true]at hs;have a1:nv a<18446744073709551616:=by
    rcases Nat.lt_or_ge (nv a) 18446744073709551616 with h1|h1
    . exact h1
    . rw[u2 h1]at hs;exact absurd hs.1 (by decide)
   have a2:nv b<18446744073709551616:=by
    rcases Nat.lt_or_ge (nv b) 18446744073709551616 with h1|h1
    . exact h1
    . rw[v2 h1]at hs;exact absurd hs.2 (by decide)
   have hu:=(u1 a1).1;have hv:=(v1 a2).1;have e1:Int.tdiv u v=((nv a/nv b:Nat):Int):=by rw[hu,hv];rfl
   have e2:Int.tmod u v=((nv a%nv b:Nat):Int):=by rw[hu,hv];rfl
   have hq:nv a/nv b<=nv a:=Nat.div_le_self _ _;refine⟨by omega,by omega,trivial, ?_⟩;rintro⟨q,_⟩ _ hq';refine⟨trivial, ?_⟩;rintro⟨m,_⟩ _ hm;simp only at hq' hm⊢;refine⟨fun h0=>absurd h0 hb0,fun _=>⟨?_, ?_,by trivial⟩⟩
   . rw[hq',e1];generalize nv a/nv b=Q at*;rw[w64 (by omega) (by omega)];rfl
   . rw[hm,e2];rfl
 . refine⟨⟨by omega,Int.le_refl _,by omega,by omega⟩,by show a.length<=17592186044416;omega, ?_⟩;rintro⟨n,_⟩ _ hn;change Int at n;simp only at hn⊢;have hbl:=F9p ha;have hNlt:=E9r (nv a);rw[hn,wr (a:=(A0k (nv a):Int)-1) (by omega) (by omega)];clear hn u1 u2 v1 v2 hu64;refine⟨fun p=> -1<=p.2.1/\p.2.1<=(A0k (nv a):Int)-1/\p.1=nc (nv a/2^(p.2.1+1).toNat%nv b)/\nv p.2.2.1=nv a/2^(p.2.1+1).toNat/nv b*2^(p.2.1+1).toNat/\p.2.2.1.length=a.length,fun p=>(p.2.1+1).toNat,⟨by show(-1:Int)<=(A0k (nv a):Int)-1;omega,Int.le_refl _, ?_, ?_, ?_⟩, ?_⟩
   . show []= _;rw[show(((A0k (nv a):Int)-1)+1).toNat=A0k (nv a)from by omega,Nat.div_eq_of_lt hNlt,Nat.zero_mod,T1]
   . show nv (List.replicate _ 0)= _;rw[B5m,show(((A0k (nv a):Int)-1)+1).toNat=A0k (nv a)from by omega,Nat.div_eq_of_lt hNlt,Nat.zero_div,Nat.zero_mul]
   . show(List.replicate _ 0).length= _;simp
   rintro⟨r,i,q,_⟩ ⟨_,_,hwq,_⟩ ⟨i0,i1,hr,hq,hql⟩;change List Int at r q;change Int at i;have hqL:A9 q:=A6 hwq.2;simp only at i0 i1 hr hq hql⊢;refine⟨fun hi=> ?_,fun hi=> ?_⟩
   . have hi:=of_decide_eq_true hi;obtain⟨b0,b1,b2⟩:=G1l (a:=nv a) (b:=nv b) (i:=i.toNat) hb0;rw[show(i+1).toNat=i.toNat+1 from by omega]at hr hq;have hrlt:nv a/2^(i.toNat+1)%nv b<nv b:=Nat.mod_lt _ (Nat.pos_of_ne_zero hb0);have hbit:nv a/2^i.toNat%2<2:=Nat.mod_lt _ (by decide);have hrv:nv r=nv a/2^(i.toNat+1)%nv b:=by rw[hr,H6]
     rw[<-hrv]at b1 b2 hrlt;have hrl:r.length<=8796093022208:=by
      have:=O0 (Nat.le_of_lt hrlt);rw[hrv, <-hr]at this;omega
     have hrr:r=nc (nv r):=by rw[hrv];exact hr
     clear hr hrv;generalize hM:nv a/2^(i.toNat+1)/nv b=M at*;generalize hbt:nv a/2^i.toNat%2=bt at*;have e1:IntKind.i64.wrap (Int.tdiv i 32)=((i.toNat/32:Nat):Int):=by
      rw[Int.tdiv_eq_ediv_of_nonneg hi,wr (by omega) (by omega)];omega
     have e2:IntKind.u64.wrap (Int.tmod i 32)=((i.toNat%32:Nat):Int):=by
      rw[Int.tmod_eq_emod_of_nonneg hi,w64 (by omega) (by omega)];omega
     have h5:i.toNat%32<=31:=by omega
     have hil:i.toNat/32<q.length:=by omega
     rw[e1,e2,wr (a:=i-1) (by omega) (by omega)];refine⟨fun p=>p.1=nc (nv a/2^i.toNat%nv b)/\nv p.2.1=nv a/2^i.toNat/nv b*2^i.toNat/\p.2.1.length=a.length,⟨⟨by show r.length<= _;omega,by show r.length<= _;omega⟩, ?_⟩, ?_⟩
     . rintro⟨r2,_⟩ _ hr2;simp only at hr2⊢;have l2:r2.length<=8796093022209:=by
        have:=D9p (nv r) (nv r);rw[hr2];rw[<-hrr]at this;omega
       refine⟨fun p=>p.1=nc (2*nv r+bt),⟨hi, ?_⟩, ?_⟩
       . rintro⟨z,_⟩ _ hz;simp only at hz⊢;refine⟨fun h1=> ?_,fun h1=> ?_⟩
         . have h1:=of_decide_eq_true h1;refine⟨⟨by show r2.length<= _;omega,by show([1]:List Int).length<= _;decide⟩, ?_⟩;rintro⟨r3,_⟩ _ hr3;simp only at hr3⊢;rw[hr3,hr2,H6,G8w];congr 1;omega
         . have h1:=of_decide_eq_false h1;show r2= _;rw[hr2];congr 1;omega
       rintro⟨r3,_⟩ _ hr3;simp only at hr3⊢;have hr3v:nv r3=2*nv r+bt:=by rw[hr3,H6]
       have l3:r3.length<=8796093022210:=by
        have e:2*nv r+bt<=(nv r+nv r)+(nv r+nv r)\/nv r=0:=by omega
        rw[hr3];rcases e with e|e
        . have a1:=O0 e;have a2:=D9p (nv r+nv r) (nv r+nv r);rw[<-hr2]at a2;omega
        . have a1:=O0 (m:=2*nv r+bt) (n:=1) (by omega);rw[C8w]at a1;have:([1]:List Int).length=1:=rfl;omega
       refine⟨⟨by show r3.length<= _;omega,by show d.length<= _;omega⟩, ?_⟩;rintro⟨r5,ok,_⟩ _ hr5;change Bool at ok;simp only at hr5⊢;rw[hr3v,hdv]at hr5;refine⟨fun hok=> ?_,fun hok=> ?_⟩
       . have hge:nv b<=2*nv r+bt:=by
          rcases Nat.lt_or_ge (2*nv r+bt) (nv b)with h1|h1
          . rw[(hr5.1 h1).2]at hok;exact absurd hok (by decide)
          . exact h1
         rw[if_pos hge]at b1 b2;obtain⟨bb,s1,s2⟩:=G6x (q:=q) hqL (M:=M) (i:=i.toNat) hq hil;have hd32:=V2 hqL (i.toNat/32);obtain⟨o1,o2⟩:=G0y (d:=dg q (i.toNat/32)) (b:=bb) (s:=i.toNat%32) s1 (by omega) h5;refine⟨by decide,⟨by omega,by omega⟩,by decide,Int.natCast_nonneg _,⟨by omega,by omega⟩, ?_, ?_, ?_⟩
         . show r5= _;rw[(hr5.2 hge).1,b2]
         . show nv (q.set _ _)= _;rw[Int.toNat_natCast,Int.toNat_natCast,show Min.min (i.toNat%32) IntKind.u32.bits=i.toNat%32 from by show Min.min (i.toNat%32) 32= _;omega];rw[A0d hqL,Int.one_mul,show((2:Int)^(i.toNat%32))=((2^(i.toNat%32):Nat):Int)from by rw[Int.natCast_pow];rfl];have hp2:2^(i.toNat%32)<=2^31:=Nat.pow_le_pow_right (by decide) h5;have hp0:(0:Int)<=((2^(i.toNat%32):Nat):Int):=Int.natCast_nonneg _;rw[w32 (a:=((2^(i.toNat%32):Nat):Int)) (by omega) (by omega),show IntKind.u32.bits=32 from rfl,o1,w32 (by omega) (by omega),s2,b1]
         . show(q.set _ _).length= _;rw[List.length_set];exact hql
       . have hlt:2*nv r+bt<nv b:=by
          rcases Nat.lt_or_ge (2*nv r+bt) (nv b)with h1|h1
          . exact h1
          . rw[(hr5.2 h1).2]at hok;exact absurd hok (by decide)
         rw[if_neg (by omega)]at b1 b2;refine⟨?_, ?_,hql⟩
         . show r3= _;rw[hr3,b2,Nat.sub_zero]
         . show nv q= _;rw[hq,b1,Nat.add_zero,Nat.pow_succ];grind
     . rintro⟨r',q',_⟩ _ ⟨j1,j2,j3⟩;simp only at j1 j2 j3⊢;refine⟨⟨by omega,by omega, ?_, ?_,j3⟩,by omega⟩
       . rw[show i-1+1=i from by omega];exact j1
       . rw[show i-1+1=i from by omega];exact j2
   . have hi:=of_decide_eq_false hi;rw[show(i+1).toNat=0 from by omega,Nat.pow_zero,Nat.div_one]at hr hq;rw[Nat.mul_one]at hq;have hrl:r.length<=8796093022208:=by
      have:=O0 (Nat.le_of_lt (Nat.mod_lt (nv a) (Nat.pos_of_ne_zero hb0)));rw[<-hr]at this;omega
     refine⟨by show q.length<= _;omega, ?_⟩;rintro⟨q',_⟩ _ hq';refine⟨by show r.length<= _;omega, ?_⟩;rintro⟨r',_⟩ _ hr';simp only at hq' hr'⊢;refine⟨fun h=>absurd h hb0,fun _=>⟨by rw[hq',hq],by rw[hr',hr,H6],by trivial⟩⟩
theorem E2e (x:A7 A4c.args) (hw:awf A4c.args x) (hp:A4c.pre x):C6i x:=by
 obtain⟨a,b,_⟩:=x;have ha:A9 a:=A6 hw.1.2;have hb:A9 b:=A6 hw.2.1.2;change List Int at a b;obtain⟨la,lb⟩:a.length<=8796093022208/\b.length<=8796093022208:=hp;have n1:=C5 ha;have n2:=C5 hb;simp only[C6i];refine⟨by show a.length<=35184372088832;omega, ?_⟩;rintro⟨r,_⟩ _ hr;refine⟨by show b.length<=35184372088832;omega, ?_⟩;rintro⟨s,_⟩ _ hs;simp only at hr hs⊢;refine⟨fun p=>p.1=nc (nv p.1)/\p.2.1=nc (nv p.2.1)/\Nat.gcd (nv p.1) (nv p.2.1)=Nat.gcd (nv a) (nv b)/\p.1.length<=8796093022208/\p.2.1.length<=8796093022208,fun p=>nv p.2.1,⟨by show r=nc (nv r);rw[hr,H6],by show s=nc (nv s);rw[hs,H6],by show Nat.gcd (nv r) (nv s)= _;rw[hr,hs,H6,H6],by show r.length<= _;rw[hr];omega,by show s.length<= _;rw[hs];omega⟩, ?_⟩;rintro⟨u,v,_⟩ _ ⟨e1,e2,hg,l1,l2⟩;change List Int at u v;simp only at e1 e2 hg l1 l2⊢;refine⟨fun h=> ?_,fun h=> ?_⟩
 . have h:=of_decide_eq_true h;have hv0:0<nv v:=by
    rcases Nat.eq_zero_or_pos (nv v)with h1|h1
    . rw[h1,T1]at e2;rw[e2]at h;exact absurd h (by simp)
    . exact h1
   refine⟨⟨l1,l2⟩, ?_⟩;rintro⟨q,m,ok,_⟩ _ hqm;simp only at hqm⊢;obtain⟨_,hm,_⟩:=hqm.2 (by omega);have hmv:nv m=nv u%nv v:=by rw[hm,H6]
   have hml:=Nat.mod_lt (nv u) hv0;refine⟨⟨e2,by rw[hmv];exact hm, ?_,l2, ?_⟩,by rw[hmv];exact hml⟩
   . rw[hmv, <-hg,Nat.gcd_comm (nv u),Nat.gcd_comm (nv v)];exact(Nat.gcd_rec (nv v) (nv u)).symm
   . have:=O0 (Nat.le_of_lt hml);rw[<-hm, <-e2]at this;omega
 . have h:=of_decide_eq_false h;have h0:nv v=0:=by rw[List.eq_nil_of_length_eq_zero (l:=v) (by omega)];rfl
   rw[h0,Nat.gcd_zero_right]at hg;rw[e1,hg]
def E9c:An:= {}
def D1v:B4:= [(191,I6)]
def F0r:An:= {}
def D4s:B4:= [(149,M5)]
def E5j:An:= {}
def C8q:B4:= [(77,T2)]
def D8n:An:= {}
def B7f:B4:= [(149,M5),(176,I5)]
def E8t:An:= {}
def D1y:B4:= [(145,Y9)]
def F4l:An:= {}
def D9r:B4:= [(149,M5)]
def F3m:An:= {}
def D9n:B4:= [(149,M5)]
def F5m:An:= {plan:= [(2,[1,3,5],[8],true,(.p 0 (.q 1 (.p 2 (.q 3 (.p 4 (.q 5 (.e 6 (.e 7 (.e 8 .done))))))))))]}
def E0q:B4:= [(149,M5),(157,A1v),(158,A2c)]
def F5p:An:= {plan:= [(1,[0,1],[4],true,(.q 0 (.q 1 (.e 2 (.e 3 (.e 4 .done))))))]}
def D9k:B4:= [(93,A0o),(148,A0l)]
def F4h:An:= {plan:= [(1,[1,3,6,8],[11],true,(.p 0 (.q 1 (.p 2 (.q 3 (.p 4 (.p 5 (.q 6 (.p 7 (.q 8 (.e 9 (.e 10 (.e 11 .done)))))))))))))]}
def E0r:B4:= [(149,M5),(150,A3y)]
def F4d:An:= {}
def D9d:B4:= [(149,M5),(187,A4c)]
def E0t:An:= {join:= [(10,⟨[4,5],[],[],[(2,29,[.val .bool, .val (.sl (.int .u32))]),(3,29,[.val .bool, .val (.sl (.int .u32))])],[]⟩)],plan:= [(4,[1,3,8],[11,12],true,(.p 0 (.q 1 (.p 2 (.q 3 (.p 4 (.p 5 (.p 7 (.q 8 (.p 9 (.e 6 (.e 10 (.e 11 (.e 12 .done)))))))))))))),(6,[0,1],[4],true,(.q 0 (.q 1 (.e 2 (.e 3 (.e 4 .done)))))),(8,[0],[3],true,(.q 0 (.e 1 (.e 2 (.e 3 .done))))),(9,[0],[3],true,(.q 0 (.e 1 (.e 2 (.e 3 .done))))),(10,[0],[2,3],false,(.q 0 (.or 1 (.e 2 (.e 3 (.p 4 .done))) (.e 2 (.e 1 (.e 3 (.p 4 .done)))))))]}
def C0x:B4:= [(93,A0o),(132,N0),(149,M5),(188,R9),(189,A3p),(190,A3u)]
def B9o:A7 M5.args->Prop:=fun(x:Bool×List Int×Unit)=>sh0 x.2.1/\∀(r:List Int×Unit),WfU r.1/\True->r.1=nc (nv x.2.1)->(sel x.1 (decide ((0:Int)<(r.1.length:Int))) false,r.1)=ic (iv (x.1,x.2.1))
theorem D7j (x:A7 M5.args):H4 Tryz.prog tys D1v E9c M5 Tryz.f149 x=B9o x:=by kernel_rfl
def B9t:A7 Y9.args->Prop:=fun(x:(Bool×List Int)×Unit)=>sh0 x.1.2/\∀(r:(Bool×List Int)×Unit),WfZ r.1/\True->r.1=ic (iv x.1)->r.1=ic (iv x.1)
theorem D7l (x:A7 Y9.args):H4 Tryz.prog tys D4s F0r Y9 Tryz.f145 x=B9t x:=by kernel_rfl
def B4c:A7 X5.args->Prop:=fun(x:(Bool×List Int)×(Bool×List Int)×Unit)=>((x.1.1==x.2.1.1)=true->True)/\∀(r:Bool×Unit),((x.1.1==x.2.1.1)=true->(True/\True)/\r.1=decide (x.1.2=x.2.1.2))->sel (x.1.1==x.2.1.1) r.1 false=decide (x.1=x.2.1)
theorem D5k (x:A7 X5.args):H4 Tryz.prog tys C8q E5j X5 Tryz.f76 x=B4c x:=by kernel_rfl
def A7s:A7 N0.args->Prop:=fun(x:Int×Unit)=>(decide (x.1<0)=true->True/\∀(r:List Int×Unit),WfU r.1/\True->r.1=nc (IntKind.u64.wrap (IntKind.u64.wrap (IntKind.i64.wrap (-IntKind.i64.wrap (x.1+1)))+(1:Int))).toNat->sh0 r.1/\∀(a:(Bool×List Int)×Unit),WfZ a.1/\True->a.1=ic (iv (true,r.1))->a.1=ic x.1)/\(decide (x.1<0)=false->True/\∀(r:List Int×Unit),WfU r.1/\True->r.1=nc (IntKind.u64.wrap x.1).toNat->sh0 r.1/\∀(a:(Bool×List Int)×Unit),WfZ a.1/\True->a.1=ic (iv (false,r.1))->a.1=ic x.1)
theorem C6l (x:A7 N0.args):H4 Tryz.prog tys B7f D8n N0 Tryz.f132 x=A7s x:=by kernel_rfl
def B9f:A7 A0b.args->Prop:=fun(x:(Bool×List Int)×Unit)=>sh0 x.1.2/\∀(r:(Bool×List Int)×Unit),WfZ r.1/\True->r.1=ic (iv x.1)->(r.1.1=true->(-1:Int)=(iv x.1).sign)/\(r.1.1=false->(decide ((r.1.2.length:Int)=(0:Int))=true->(0:Int)=(iv x.1).sign)/\(decide ((r.1.2.length:Int)=(0:Int))=false->(1:Int)=(iv x.1).sign))
theorem D7c (x:A7 A0b.args):H4 Tryz.prog tys D1y E8t A0b Tryz.f88 x=B9f x:=by kernel_rfl
def C6a:A7 A0l.args->Prop:=fun(x:(Bool×List Int)×Unit)=>sh0 x.1.2/\∀(r:(Bool×List Int)×Unit),WfZ r.1/\True->r.1=ic (iv (!x.1.1,x.1.2))->r.1=ic (-iv x.1)
theorem E2j (x:A7 A0l.args):H4 Tryz.prog tys D9r F4l A0l Tryz.f148 x=C6a x:=by kernel_rfl
def C6p:A7 A3p.args->Prop:=fun(x:(Bool×List Int)×Unit)=>sh0 x.1.2/\∀(r:(Bool×List Int)×Unit),WfZ r.1/\True->r.1=ic (iv (false,x.1.2))->r.1=ic (↑(iv x.1).natAbs:Int)
theorem E3k (x:A7 A3p.args):H4 Tryz.prog tys D9n F3m A3p Tryz.f189 x=C6p x:=by kernel_rfl
def C4u:A7 A0o.args->Prop:=fun(x:(Bool×List Int)×(Bool×List Int)×Unit)=>((x.1.1==x.2.1.1)=true->(sh1 x.1.2/\sh1 x.2.1.2)/\∀(r:List Int×Unit),WfU r.1/\True->r.1=nc (nv x.1.2+nv x.2.1.2)->sh0 r.1/\∀(a:(Bool×List Int)×Unit),WfZ a.1/\True->a.1=ic (iv (x.1.1,r.1))->a.1=ic (iv x.1+iv x.2.1))/\((x.1.1==x.2.1.1)=false->(sh1 x.1.2/\sh1 x.2.1.2)/\∀(r:List Int×Bool×Unit),WfU r.1/\True/\True->(nv x.1.2<nv x.2.1.2->r.1= []/\r.2.1=false)/\(nv x.2.1.2<=nv x.1.2->r.1=nc (nv x.1.2-nv x.2.1.2)/\r.2.1=true)->(r.2.1=true->sh0 r.1/\∀(a:(Bool×List Int)×Unit),WfZ a.1/\True->a.1=ic (iv (x.1.1,r.1))->a.1=ic (iv x.1+iv x.2.1))/\(r.2.1=false->(sh1 x.2.1.2/\sh1 x.1.2)/\∀(r:List Int×Bool×Unit),WfU r.1/\True/\True->(nv x.2.1.2<nv x.1.2->r.1= []/\r.2.1=false)/\(nv x.1.2<=nv x.2.1.2->r.1=nc (nv x.2.1.2-nv x.1.2)/\r.2.1=true)->sh0 r.1/\∀(a:(Bool×List Int)×Unit),WfZ a.1/\True->a.1=ic (iv (x.2.1.1,r.1))->a.1=ic (iv x.1+iv x.2.1)))
theorem E1m (x:A7 A0o.args):H4 Tryz.prog tys E0q F5m A0o Tryz.f93 x=C4u x:=by kernel_rfl
def C7o:A7 A3u.args->Prop:=fun(x:(Bool×List Int)×(Bool×List Int)×Unit)=>sh0 x.2.1.2/\∀(r:(Bool×List Int)×Unit),WfZ r.1/\True->r.1=ic (-iv x.2.1)->(sh1 x.1.2/\sh1 r.1.2)/\∀(a:(Bool×List Int)×Unit),WfZ a.1/\True->a.1=ic (iv x.1+iv r.1)->a.1=ic (iv x.1-iv x.2.1)
theorem E3v (x:A7 A3u.args):H4 Tryz.prog tys D9k F5p A3u Tryz.f190 x=C7o x:=by kernel_rfl
def C4z:A7 A0n.args->Prop:=fun(x:(Bool×List Int)×(Bool×List Int)×Unit)=>(sh1 x.1.2/\sh1 x.2.1.2)/\∀(r:List Int×Unit),WfU r.1/\True->r.1=nc (nv x.1.2*nv x.2.1.2)->sh0 r.1/\∀(a:(Bool×List Int)×Unit),WfZ a.1/\True->a.1=ic (iv (x.1.1 !=x.2.1.1,r.1))->a.1=ic (iv x.1*iv x.2.1)
theorem E2r (x:A7 A0n.args):H4 Tryz.prog tys E0r F4h A0n Tryz.f82 x=C4z x:=by kernel_rfl
def C8d:A7 A3x.args->Prop:=fun(x:(Bool×List Int)×(Bool×List Int)×Unit)=>(sh2 x.1.2/\sh2 x.2.1.2)/\∀(r:List Int×Unit),WfU r.1/\True->r.1=nc ((nv x.1.2).gcd (nv x.2.1.2))->sh0 r.1/\∀(a:(Bool×List Int)×Unit),WfZ a.1/\True->a.1=ic (iv (false,r.1))->a.1=ic (↑((nv x.1.2).gcd (nv x.2.1.2)):Int)
theorem E1o (x:A7 A3x.args):H4 Tryz.prog tys D9d F4d A3x Tryz.f146 x=C8d x:=by kernel_rfl
def B0t:A7 W2.args->Prop:=fun(x:(Bool×List Int)×(Bool×List Int)×Unit)=>(sh2 x.1.2/\sh2 x.2.1.2)/\∀(r:List Int×List Int×Bool×Unit),WfU r.1/\WfU r.2.1/\True/\True->(nv x.2.1.2=0->r.2.2.1=false)/\(nv x.2.1.2≠0->r.1=nc (nv x.1.2/nv x.2.1.2)/\r.2.1=nc (nv x.1.2%nv x.2.1.2)/\r.2.2.1=true)->((!r.2.2.1)=true->iv x.2.1≠0->(false,[])=ic (iv x.1/iv x.2.1)/\(false,[])=ic (iv x.1%iv x.2.1)/\false=true)/\((!r.2.2.1)=false->sh0 r.1/\∀(b:(Bool×List Int)×Unit),WfZ b.1/\True->b.1=ic (iv (x.1.1 !=x.2.1.1,r.1))->sh0 r.2.1/\∀(c:(Bool×List Int)×Unit),WfZ c.1/\True->c.1=ic (iv (x.1.1,r.2.1))->∃(J:Bool×List Int×Bool×List Int×Unit->Prop),((c.1.1=true->sh0 x.2.1.2/\∀(r:(Bool×List Int)×Unit),WfZ r.1/\True->r.1=ic (↑(iv x.2.1).natAbs:Int)->(sh1 c.1.2/\sh1 r.1.2)/\∀(d:(Bool×List Int)×Unit),WfZ d.1/\True->d.1=ic (iv c.1+iv r.1)->(x.2.1.1=true->True/\∀(r:(Bool×List Int)×Unit),WfZ r.1/\True->r.1=ic (1:Int)->(sh1 b.1.2/\sh1 r.1.2)/\∀(a:(Bool×List Int)×Unit),WfZ a.1/\True->a.1=ic (iv b.1+iv r.1)->J (a.1.1,a.1.2,d.1.1,d.1.2,()))/\(x.2.1.1=false->True/\∀(r:(Bool×List Int)×Unit),WfZ r.1/\True->r.1=ic (1:Int)->(sh1 b.1.2/\sh1 r.1.2)/\∀(a:(Bool×List Int)×Unit),WfZ a.1/\True->a.1=ic (iv b.1-iv r.1)->J (a.1.1,a.1.2,d.1.1,d.1.2,())))/\(c.1.1=false->J (b.1.1,b.1.2,c.1.1,c.1.2,())))/\∀(p:Bool×List Int×Bool×List Int×Unit),True/\WfU p.2.1/\True/\WfU p.2.2.2.1/\True->J p->(iv x.2.1≠0->(p.1,p.2.1)=ic (iv x.1/iv x.2.1)/\(p.2.2.1,p.2.2.2.1)=ic (iv x.1%iv x.2.1)/\true=true)/\(iv x.2.1≠0->(p.1,p.2.1)=ic (iv x.1/iv x.2.1)/\(p.2.2.1,p.2.2.2.1)=ic (iv x.1%iv x.2.1)/\true=true))
theorem D0m (x:A7 W2.args):H4 Tryz.prog tys C0x E0t W2 Tryz.f147 x=B0t x:=by kernel_rfl
theorem D6n (x:A7 M5.args) (hw:awf M5.args x) (hp:M5.pre x):B9o x:=by
 obtain⟨b,l,_⟩:=x;change Bool at b;change List Int at l;have hl:l.length<=35184372088832:=hp;simp only[B9o];refine⟨by omega, ?_⟩;rintro⟨r,_⟩ _ hr;simp only at hr⊢;rw[H1m,hr,S9];have e:decide ((0:Int)<((nc (nv l)).length:Int))=decide (nv l≠0):=by
  rw[decide_eq_decide];constructor
  . intro h h0;rw[h0,T1]at h;simp at h
  . intro h;have:(nc (nv l)).length≠0:=fun h1=>h (C9j.1 (List.eq_nil_of_length_eq_zero h1))
    omega
 rw[e]
theorem D6r (x:A7 Y9.args) (hw:awf Y9.args x) (hp:Y9.pre x):B9t x:=by
 simp only[B9t];exact⟨hp,fun r _ h=>h⟩
theorem D3v (x:A7 X5.args) (hw:awf X5.args x) (hp:X5.pre x):B4c x:=by
 obtain⟨⟨a,l⟩,⟨b,m⟩,_⟩:=x;change Bool at a b;change List Int at l m;simp only[B4c];refine⟨fun _=>trivial, ?_⟩;rintro⟨r,_⟩ hr;simp only at hr⊢;by_cases h:a=b
 . subst h;have:=(hr (by simp)).2;rw[this];simp[sel]
 . have:(a==b)=false:=by simpa using h
   rw[this];simp[sel,h]
theorem C6y (x:A7 N0.args) (hw:awf N0.args x) (_:N0.pre x):A7s x:=by
 obtain⟨v,_⟩:=x;change Int at v;have hv:IntKind.i64.min<=v/\v<=IntKind.i64.max:=hw.1;rw[B9z,C6r]at hv;have hs:∀n:Nat,n<=9223372036854775808->sh0 (nc n):=fun n hn=>by
  have:(nc n).length<=2:=A6v (by omega);show _ <=35184372088832;omega
 simp only[A7s];refine⟨fun h=>⟨trivial, ?_⟩,fun h=>⟨trivial, ?_⟩⟩
 . have h:=of_decide_eq_true h;rintro⟨r,_⟩ _ hr;simp only at hr⊢;have e:(IntKind.u64.wrap (IntKind.u64.wrap (IntKind.i64.wrap (-IntKind.i64.wrap (v+1)))+1)).toNat=v.natAbs:=by
    rw[wr (a:=v+1) (by omega) (by omega),wr (by omega) (by omega),w64 (a:= -(v+1)) (by omega) (by omega),w64 (by omega) (by omega)];omega
   rw[e]at hr;subst hr;refine⟨hs _ (by omega), ?_⟩;rintro⟨s,_⟩ _ hs;simp only at hs⊢;rw[hs,E7x,H6];congr 1;omega
 . have h:=of_decide_eq_false h;rintro⟨r,_⟩ _ hr;simp only at hr⊢;have e:(IntKind.u64.wrap v).toNat=v.natAbs:=by rw[A1o];omega
   rw[e]at hr;subst hr;refine⟨hs _ (by omega), ?_⟩;rintro⟨s,_⟩ _ hs;simp only at hs⊢;rw[hs,B7q,H6];congr 1;omega
theorem D7q (x:A7 A0b.args) (hw:awf A0b.args x) (hp:A0b.pre x):B9f x:=by
 obtain⟨a,_⟩:=x;simp only[B9f];refine⟨hp, ?_⟩;rintro⟨r,_⟩ _ hr;simp only at hr⊢;subst hr;generalize iv a=v;refine⟨fun h=> ?_,fun h=>⟨fun h2=> ?_,fun h2=> ?_⟩⟩
 . have h:v<0:=of_decide_eq_true h;exact(Int.sign_eq_neg_one_of_neg h).symm
 . have h2:=of_decide_eq_true h2;have:nc v.natAbs= []:=List.eq_nil_of_length_eq_zero (by show(ic v).2.length=0;omega);rw[C9j]at this;rw[show v=0 from by omega];rfl
 . have h:¬v<0:=of_decide_eq_false h;have h2:=of_decide_eq_false h2;have:v≠0:=fun h0=>h2 (by rw[h0,F0g];rfl)
   exact(Int.sign_eq_one_of_pos (by omega)).symm
theorem E2m (x:A7 A0l.args) (hw:awf A0l.args x) (hp:A0l.pre x):C6a x:=by
 obtain⟨⟨b,l⟩,_⟩:=x;simp only[C6a];refine⟨hp, ?_⟩;rintro⟨r,_⟩ _ hr;simp only at hr⊢;rw[hr,G4r]
theorem E4l (x:A7 A0o.args) (hw:awf A0o.args x) (hp:A0o.pre x):C4u x:=by
 obtain⟨⟨a,l⟩,⟨b,m⟩,_⟩:=x;have hl:A9 l:=A6 hw.1.2.2;have hm:A9 m:=A6 hw.2.1.2.2;change Bool at a b;change List Int at l m;obtain⟨p1,p2⟩:l.length<=17592186044416/\m.length<=17592186044416:=hp;have q1:sh1 l:=by omega
 have q2:sh1 m:=by omega
 have n1:=C5 hl;have n2:=C5 hm;have n3:=D9p (nv l) (nv m);simp only[C4u];refine⟨fun h=>⟨⟨q1,q2⟩, ?_⟩,fun h=>⟨⟨q1,q2⟩, ?_⟩⟩
 . have h:a=b:=by simpa using h
   subst h;rintro⟨r,_⟩ _ hr;simp only at hr⊢;subst hr;refine⟨by omega, ?_⟩;rintro⟨s,_⟩ _ hs;simp only at hs⊢;rw[hs];congr 1;cases a
   . simp only[B7q,H6];omega
   . simp only[E7x,H6];omega
 . have h:a≠b:=by simpa using h
   rintro⟨r,ok,_⟩ _ ⟨h1,h2⟩;change Bool at ok;simp only at h1 h2⊢;refine⟨fun hok=> ?_,fun hok=>⟨⟨q2,q1⟩, ?_⟩⟩
   . have hge:nv m<=nv l:=by
      rcases Nat.lt_or_ge (nv l) (nv m)with h3|h3
      . rw[(h1 h3).2]at hok;cases hok
      . exact h3
     rw[(h2 hge).1];have:=O0 (show nv l-nv m<=nv l by omega);refine⟨by omega, ?_⟩;rintro⟨s,_⟩ _ hs;simp only at hs⊢;rw[hs];congr 1;cases a<;>cases b<;>simp only[E7x,B7q,H6]<;>first|omega|exact absurd rfl h
   . have hlt:nv l<nv m:=by
      rcases Nat.lt_or_ge (nv l) (nv m)with h3|h3
      . exact h3
      . rw[(h2 h3).2]at hok;cases hok
     rintro⟨r2,ok2,_⟩ _ ⟨_,h4⟩;simp only at h4⊢;rw[(h4 (by omega)).1];have:=O0 (show nv m-nv l<=nv m by omega);refine⟨by omega, ?_⟩;rintro⟨s,_⟩ _ hs;simp only at hs⊢;rw[hs];congr 1;cases a<;>cases b<;>simp only[E7x,B7q,H6]<;>first|omega|exact absurd rfl h
theorem E3x (x:A7 A0n.args) (hw:awf A0n.args x) (hp:A0n.pre x):C4z x:=by
 obtain⟨⟨a,l⟩,⟨b,m⟩,_⟩:=x;have hl:A9 l:=A6 hw.1.2.2;have hm:A9 m:=A6 hw.2.1.2.2;change Bool at a b;change List Int at l m;obtain⟨p1,p2⟩:l.length<=17592186044416/\m.length<=17592186044416:=hp;have n1:=C5 hl;have n2:=C5 hm;have n3:=B7g (nv l) (nv m);simp only[C4z];refine⟨⟨by omega,by omega⟩, ?_⟩;rintro⟨r,_⟩ _ hr;simp only at hr⊢;subst hr;refine⟨by omega, ?_⟩;rintro⟨s,_⟩ _ hs;simp only at hs⊢;rw[hs];congr 1;cases a<;>cases b<;>simp[E7x,B7q,H6,Int.natCast_mul,Int.neg_mul,Int.mul_neg]
theorem E1j (x:A7 A3p.args) (hw:awf A3p.args x) (hp:A3p.pre x):C6p x:=by
 obtain⟨⟨b,l⟩,_⟩:=x;simp only[C6p];refine⟨hp, ?_⟩;rintro⟨r,_⟩ _ hr;simp only at hr⊢;rw[hr,N7,B7q]
theorem E2x (x:A7 A3u.args) (hw:awf A3u.args x) (hp:A3u.pre x):C7o x:=by
 obtain⟨a,b,_⟩:=x;have hb:A9 b.2:=A6 hw.2.1.2.2;change D5y at a b;obtain⟨p1,p2⟩:a.2.length<=17592186044416/\b.2.length<=17592186044416:=hp;have n2:=C5 hb;simp only[C7o];refine⟨by show b.2.length<=35184372088832;omega, ?_⟩;rintro⟨r,_⟩ _ hr;simp only at hr⊢;refine⟨⟨p1,by show r.2.length<= _;rw[hr,A1g,Int.natAbs_neg,N7];omega⟩, ?_⟩;rintro⟨s,_⟩ _ hs;simp only at hs⊢;rw[hs,hr,U6, <-Int.sub_eq_add_neg]
theorem E4i (x:A7 A3x.args) (hw:awf A3x.args x) (hp:A3x.pre x):C8d x:=by
 obtain⟨a,b,_⟩:=x;have ha:A9 a.2:=A6 hw.1.2.2;have hb:A9 b.2:=A6 hw.2.1.2.2;change D5y at a b;obtain⟨p1,p2⟩:a.2.length<=8796093022208/\b.2.length<=8796093022208:=hp;have n1:=C5 ha;have n2:=C5 hb;simp only[C8d];refine⟨⟨p1,p2⟩, ?_⟩;rintro⟨r,_⟩ _ hr;simp only at hr⊢;have hl:r.length<=8796093022209:=by
  rw[hr];rcases Nat.eq_zero_or_pos (nv a.2)with h|h
  . rw[h,Nat.gcd_zero_left];omega
  . have:=O0 (Nat.le_of_dvd h (Nat.gcd_dvd_left (nv a.2) (nv b.2)));omega
 refine⟨by show r.length<=35184372088832;omega, ?_⟩;rintro⟨s,_⟩ _ hs;simp only at hs⊢;rw[hs,B7q,hr,H6]
theorem C9z (x:A7 W2.args) (hw:awf W2.args x) (hp:W2.pre x):B0t x:=by
 obtain⟨⟨sa,a⟩,⟨sb,b⟩,_⟩:=x;have ha:A9 a:=A6 hw.1.2.2;have hb:A9 b:=A6 hw.2.1.2.2;change Bool at sa sb;change List Int at a b;obtain⟨p1,p2⟩:a.length<=8796093022208/\b.length<=8796093022208:=hp;have n1:=C5 ha;have n2:=C5 hb;simp only[B0t];refine⟨⟨p1,p2⟩, ?_⟩;rintro⟨q,m,ok,_⟩ _ ⟨z1,z2⟩;change Bool at ok;simp only at z1 z2⊢;refine⟨fun h hne=> ?_,fun h=> ?_⟩
 . have hb0:nv b≠0:=fun e=>hne (by unfold iv;simp[e])
   rw[(z2 hb0).2.2]at h;exact absurd h (by decide)
 have hb0:nv b≠0:=fun e=>by rw[z1 e]at h;exact absurd h (by decide)
 obtain⟨hq,hm,_⟩:=z2 hb0;have lq:q.length<=8796093022208:=by
  have:=O0 (Nat.div_le_self (nv a) (nv b));rw[hq];omega
 have lm:m.length<=8796093022208:=by
  have:=O0 (Nat.le_of_lt (Nat.mod_lt (nv a) (Nat.pos_of_ne_zero hb0)));rw[hm];omega
 have vq:nv q=nv a/nv b:=by rw[hq,H6]
 have vm:nv m=nv a%nv b:=by rw[hm,H6]
 obtain⟨c1,c2⟩:=G8y (sa:=sa) (sb:=sb) (A:=nv a) (B:=nv b) hb0 (a:=iv (sa,a)) (b:=iv (sb,b)) (q:=iv (sa !=sb,q)) (m:=iv (sa,m)) rfl rfl (by rw[<-vq];rfl) (by rw[<-vm];rfl);refine⟨by show q.length<=35184372088832;omega, ?_⟩;rintro⟨Q,_⟩ _ hQ;refine⟨by show m.length<=35184372088832;omega, ?_⟩;rintro⟨M,_⟩ _ hM;simp only at hQ hM⊢;have lQ:Q.2.length<=8796093022208:=by
  have:(nc (nv q)).length=q.length:=by rw[vq, <-hq]
  rw[hQ,A1g,N7];show(nc (nv q)).length<= _;omega
 have lM:M.2.length<=8796093022208:=by
  have:(nc (nv m)).length=m.length:=by rw[vm, <-hm]
  rw[hM,A1g,N7];show(nc (nv m)).length<= _;omega
 refine⟨fun p=>(p.1,p.2.1)=ic (iv (sa,a)/iv (sb,b))/\(p.2.2.1,p.2.2.2.1)=ic (iv (sa,a)%iv (sb,b)),⟨fun h1=> ?_,fun h1=> ?_⟩, ?_⟩
 . have h1:iv (sa,m)<0:=by rw[hM]at h1;exact of_decide_eq_true h1
   obtain⟨d1,d2,d3⟩:=c1 h1;refine⟨by show b.length<=35184372088832;omega, ?_⟩;rintro⟨B,_⟩ _ hB;simp only at hB⊢;rw[N7]at hB;have lB:B.2.length<=8796093022208:=by
    rw[hB,A1g,Int.natAbs_natCast];show(nc (nv b)).length<= _;omega
   refine⟨⟨by show M.2.length<= _;omega,by show B.2.length<= _;omega⟩, ?_⟩;rintro⟨R,_⟩ _ hR;simp only at hR⊢;have eR:R=ic (iv (sa,a)%iv (sb,b)):=by rw[hR,hM,hB,U6,U6,d1]
   refine⟨fun h2=>⟨trivial, ?_⟩,fun h2=>⟨trivial, ?_⟩⟩
   . rintro⟨o,_⟩ _ ho;simp only at ho⊢;refine⟨⟨by show Q.2.length<= _;omega,by show o.2.length<= _;rw[ho,F8n];show 1<= _;decide⟩, ?_⟩;rintro⟨T,_⟩ _ hT;simp only at hT⊢;exact⟨by show T= _;rw[hT,hQ,ho,U6,U6,d2 h2],eR⟩
   . rintro⟨o,_⟩ _ ho;simp only at ho⊢;refine⟨⟨by show Q.2.length<= _;omega,by show o.2.length<= _;rw[ho,F8n];show 1<= _;decide⟩, ?_⟩;rintro⟨T,_⟩ _ hT;simp only at hT⊢;exact⟨by show T= _;rw[hT,hQ,ho,U6,U6,d3 h2],eR⟩
 . have h1:¬iv (sa,m)<0:=by rw[hM]at h1;exact of_decide_eq_false h1
   obtain⟨d1,d2⟩:=c2 h1;exact⟨by show Q= _;rw[hQ,d2],by show M= _;rw[hM,d1]⟩
 . rintro⟨t1,t2,t3,t4,_⟩ _ ⟨j1,j2⟩;exact⟨fun _=>⟨j1,j2,by trivial⟩,fun _=>⟨j1,j2,by trivial⟩⟩
def F0o:An:= {join:= [(11,⟨[4,7,10],[2],[],[(5,29,[.val .bool, .val (.sl (.int .u32))]),(7,29,[.val .bool, .val (.sl (.int .u32))])],[]⟩)],plan:= [(5,[0,3],[5],true,(.q 0 (.p 2 (.q 3 (.e 1 (.p 4 (.e 5 .done))))))),(10,[0,2],[4,5],true,(.q 0 (.q 2 (.e 1 (.e 3 (.e 4 (.e 5 .done)))))))]}
def D2x:B4:= [(75,Q7),(77,T2),(88,A0b),(145,Y9),(146,A3x),(147,W2),(148,A0l)]
def E9u:An:= {}
def D1s:B4:= []
def F1h:An:= {}
def D2h:B4:= [(81,O2)]
def E6j:An:= {}
def C8n:B4:= [(76,X5),(77,T2)]
def D0b:An:= {plan:= [(1,[0,1],[],true,(.q 0 (.q 1 (.e 2 (.e 3 (.p 4 .done))))))]}
def B1h:B4:= [(17,Q5),(83,M0)]
def F4w:An:= {}
def D9v:B4:= [(83,M0)]
def D8r:An:= {}
def B7y:B4:= [(81,O2),(132,N0)]
def F6i:An:= {}
def E7p:B4:= [(81,O2),(132,N0)]
def F1c:An:= {}
def D2l:B4:= [(83,M0),(88,A0b)]
def F6f:An:= {plan:= [(1,[0,4],[7],true,(.q 0 (.q 4 (.e 1 (.p 2 (.e 3 (.e 5 (.e 6 (.e 7 .done)))))))))]}
def E0l:B4:= [(81,O2),(83,M0),(84,X7),(148,A0l)]
def F3w:An:= {plan:= [(3,[0,3,6,8],[13],true,(.q 0 (.q 3 (.q 6 (.q 8 (.e 1 (.p 2 (.e 4 (.e 5 (.e 7 (.e 9 (.p 10 (.e 11 (.e 12 (.e 13 (.p 14 .done))))))))))))))))]}
def D8u:B4:= [(29,U8),(81,O2),(82,A0n),(83,M0),(84,X7)]
def E8p:An:= {}
def D5b:B4:= [(124,A3r)]
def B8m:A7 O2.args->Prop:=fun(x:(Bool×List Int)×(Bool×List Int)×Unit)=>sh0 x.2.1.2/\∀(r:Int×Unit),D5 r.1/\True->r.1=(iv x.2.1).sign->(decide (r.1=0)=true->True/\∀(r:QQ×Unit),WfQ r.1/\True->r.1=rc (0:Rat)->r.1=rc (B3u x.1 x.2.1))/\(decide (r.1=0)=false->sh0 x.2.1.2/\∀(r:(Bool×List Int)×Unit),WfZ r.1/\True->r.1=ic (iv x.2.1)->((!r.1.1)=true->True)/\∀(d:Bool×Unit),((!r.1.1)=true->(True/\True)/\d.1=decide (r.1.2= [(1:Int)]))->(sel (!r.1.1) d.1 false=true->sh0 x.1.2/\∀(a:(Bool×List Int)×Unit),WfZ a.1/\True->a.1=ic (iv x.1)->(a.1,r.1.2)=rc (B3u x.1 x.2.1))/\(sel (!r.1.1) d.1 false=false->(sh2 x.1.2/\sh2 x.2.1.2)/\∀(r:(Bool×List Int)×Unit),WfZ r.1/\True->r.1=ic (↑((nv x.1.2).gcd (nv x.2.1.2)):Int)->(sh2 x.1.2/\sh2 r.1.2)/\∀(a:(Bool×List Int)×(Bool×List Int)×Bool×Unit),WfZ a.1/\WfZ a.2.1/\True/\True->(iv r.1≠0->a.1=ic (iv x.1/iv r.1)/\a.2.1=ic (iv x.1%iv r.1)/\a.2.2.1=true)->(sh2 x.2.1.2/\sh2 r.1.2)/\∀(b:(Bool×List Int)×(Bool×List Int)×Bool×Unit),WfZ b.1/\WfZ b.2.1/\True/\True->(iv r.1≠0->b.1=ic (iv x.2.1/iv r.1)/\b.2.1=ic (iv x.2.1%iv r.1)/\b.2.2.1=true)->∃(J:Bool×List Int×Bool×List Int×Unit->Prop),((b.1.1=true->sh0 a.1.2/\∀(r:(Bool×List Int)×Unit),WfZ r.1/\True->r.1=ic (-iv a.1)->sh0 b.1.2/\∀(c:(Bool×List Int)×Unit),WfZ c.1/\True->c.1=ic (-iv b.1)->J (r.1.1,r.1.2,c.1.1,c.1.2,()))/\(b.1.1=false->J (a.1.1,a.1.2,b.1.1,b.1.2,())))/\∀(p:Bool×List Int×Bool×List Int×Unit),True/\WfU p.2.1/\True/\WfU p.2.2.2.1/\True->J p->((p.1,p.2.1),p.2.2.2.1)=rc (B3u x.1 x.2.1)))
theorem D8q (x:A7 O2.args):H4 Tryz.prog tys D2x F0o O2 Tryz.f81 x=B8m x:=by kernel_rfl
def C0a:A7 Q7.args->Prop:=fun(x:Unit)=>((false,[]),[(1:Int)])=rc (0:Rat)
theorem D6e (x:A7 Q7.args):H4 Tryz.prog tys D1s E9u Q7 Tryz.f75 x=C0a x:=by kernel_rfl
def C0g:A7 M0.args->Prop:=fun(x:QQ×Unit)=>(sh2 x.1.1.2/\sh2 x.1.2)/\∀(r:QQ×Unit),WfQ r.1/\True->r.1=rc (B3u x.1.1 (false,x.1.2))->r.1=rc (rv x.1)
theorem D6z (x:A7 M0.args):H4 Tryz.prog tys D2h F1h M0 Tryz.f83 x=C0g x:=by kernel_rfl
def B3c:A7 Q5.args->Prop:=fun(x:QQ×QQ×Unit)=>True/\∀(r:Bool×Unit),True/\True->r.1=decide (x.1.1=x.2.1.1)->(r.1=true->True)/\∀(a:Bool×Unit),(r.1=true->(True/\True)/\a.1=decide (x.1.2=x.2.1.2))->sel r.1 a.1 false=decide (x.1=x.2.1)
theorem D2i (x:A7 Q5.args):H4 Tryz.prog tys C8n E6j Q5 Tryz.f17 x=B3c x:=by kernel_rfl
def A4u:A7 J7.args->Prop:=fun(x:QQ×Unit)=>sh3 x.1/\∀(r:QQ×Unit),WfQ r.1/\True->r.1=rc (rv x.1)->True/\∀(a:Bool×Unit),True/\True->a.1=decide (x.1=r.1)->a.1=decide (x.1=rc (rv x.1))
theorem C0e (x:A7 J7.args):H4 Tryz.prog tys B1h D0b J7 Tryz.f102 x=A4u x:=by kernel_rfl
def C4w:A7 X7.args->Prop:=fun(x:QQ×Unit)=>sh3 x.1/\∀(r:QQ×Unit),WfQ r.1/\True->r.1=rc (rv x.1)->(false,r.1.2)=ic (↑(rv x.1).den:Int)
theorem E3s (x:A7 X7.args):H4 Tryz.prog tys D9v F4w X7 Tryz.f84 x=C4w x:=by kernel_rfl
def A7y:A7 R3.args->Prop:=fun(x:Int×Unit)=>True/\∀(r:(Bool×List Int)×Unit),WfZ r.1/\True->r.1=ic x.1->True/\∀(a:(Bool×List Int)×Unit),WfZ a.1/\True->a.1=ic (1:Int)->(sh2 r.1.2/\sh2 a.1.2)/\∀(b:QQ×Unit),WfQ b.1/\True->b.1=rc (B3u r.1 a.1)->b.1=ri x.1
theorem C7z (x:A7 R3.args):H4 Tryz.prog tys B7y D8r R3 Tryz.f68 x=A7y x:=by kernel_rfl
def D5s:A7 A6y.args->Prop:=fun(x:Int×Int×Unit)=>True/\∀(r:(Bool×List Int)×Unit),WfZ r.1/\True->r.1=ic x.1->True/\∀(a:(Bool×List Int)×Unit),WfZ a.1/\True->a.1=ic x.2.1->(sh2 r.1.2/\sh2 a.1.2)/\∀(b:QQ×Unit),WfQ b.1/\True->b.1=rc (B3u r.1 a.1)->b.1=rc (Rat.divInt x.1 x.2.1)
theorem E5i (x:A7 A6y.args):H4 Tryz.prog tys E7p F6i A6y Tryz.f144 x=D5s x:=by kernel_rfl
def B8x:A7 U8.args->Prop:=fun(x:QQ×Unit)=>sh3 x.1/\∀(r:QQ×Unit),WfQ r.1/\True->r.1=rc (rv x.1)->sh0 r.1.1.2/\∀(a:Int×Unit),D5 a.1/\True->a.1=(iv r.1.1).sign->a.1=(rv x.1).num.sign
theorem D8s (x:A7 U8.args):H4 Tryz.prog tys D2l F1c U8 Tryz.f29 x=B8x x:=by kernel_rfl
def C6j:A7 A4g.args->Prop:=fun(x:QQ×Unit)=>sh3 x.1/\∀(r:QQ×Unit),WfQ r.1/\True->r.1=rc (rv x.1)->sh0 r.1.1.2/\∀(a:(Bool×List Int)×Unit),WfZ a.1/\True->a.1=ic (-iv r.1.1)->sh3 x.1/\∀(r:(Bool×List Int)×Unit),WfZ r.1/\True->r.1=ic (↑(rv x.1).den:Int)->(sh2 a.1.2/\sh2 r.1.2)/\∀(b:QQ×Unit),WfQ b.1/\True->b.1=rc (B3u a.1 r.1)->b.1=rc (-rv x.1)
theorem E1p (x:A7 A4g.args):H4 Tryz.prog tys E0l F6f A4g Tryz.f123 x=C6j x:=by kernel_rfl
def C7n:A7 A3r.args->Prop:=fun(x:QQ×QQ×Unit)=>sh3 x.2.1/\∀(r:Int×Unit),D5 r.1/\True->r.1=(rv x.2.1).num.sign->(decide (r.1=0)=true->(rv x.2.1=(0:Rat)->false=false)/\(rv x.2.1≠(0:Rat)->dQ=rc (rv x.1/rv x.2.1)/\false=true))/\(decide (r.1=0)=false->sh3 x.1/\∀(r:QQ×Unit),WfQ r.1/\True->r.1=rc (rv x.1)->sh3 x.2.1/\∀(a:(Bool×List Int)×Unit),WfZ a.1/\True->a.1=ic (↑(rv x.2.1).den:Int)->(sh1 r.1.1.2/\sh1 a.1.2)/\∀(b:(Bool×List Int)×Unit),WfZ b.1/\True->b.1=ic (iv r.1.1*iv a.1)->sh3 x.1/\∀(r:(Bool×List Int)×Unit),WfZ r.1/\True->r.1=ic (↑(rv x.1).den:Int)->sh3 x.2.1/\∀(c:QQ×Unit),WfQ c.1/\True->c.1=rc (rv x.2.1)->(sh1 r.1.2/\sh1 c.1.1.2)/\∀(d:(Bool×List Int)×Unit),WfZ d.1/\True->d.1=ic (iv r.1*iv c.1.1)->(sh2 b.1.2/\sh2 d.1.2)/\∀(r:QQ×Unit),WfQ r.1/\True->r.1=rc (B3u b.1 d.1)->(rv x.2.1=(0:Rat)->true=false)/\(rv x.2.1≠(0:Rat)->r.1=rc (rv x.1/rv x.2.1)/\true=true))
theorem E1k (x:A7 A3r.args):H4 Tryz.prog tys D8u F3w A3r Tryz.f124 x=C7n x:=by kernel_rfl
def B9w:A7 A1d.args->Prop:=fun(x:QQ×QQ×Unit)=>(sh3 x.1/\sh3 x.2.1)/\∀(r:QQ×Bool×Unit),WfQ r.1/\True/\True->(rv x.2.1=(0:Rat)->r.2.1=false)/\(rv x.2.1≠(0:Rat)->r.1=rc (rv x.1/rv x.2.1)/\r.2.1=true)->rv x.2.1≠(0:Rat)->r.1=rc (rv x.1/rv x.2.1)
theorem D6g (x:A7 A1d.args):H4 Tryz.prog tys D5b E8p A1d Tryz.f54 x=B9w x:=by kernel_rfl
theorem D7a (x:A7 Q7.args) (hw:awf Q7.args x) (_:Q7.pre x):C0a x:=by
 simp only[C0a];exact F8g.symm
theorem D4d (x:A7 Q5.args) (hw:awf Q5.args x) (hp:Q5.pre x):B3c x:=by
 obtain⟨⟨a,l⟩,⟨b,m⟩,_⟩:=x;simp only[B3c];refine⟨trivial, ?_⟩;rintro⟨r,_⟩ _ hr;refine⟨fun _=>trivial, ?_⟩;rintro⟨s,_⟩ hs;simp only at hr hs⊢;by_cases h:a=b
 . subst h;have hr:r=true:=by rw[hr];simp
   have:=(hs hr).2;rw[this,hr];simp[sel]
 . have hr:r=false:=by rw[hr];simp[h]
   rw[hr];simp[sel,h]
theorem B8r (x:A7 J7.args) (hw:awf J7.args x) (hp:J7.pre x):A4u x:=by
 obtain⟨a,_⟩:=x;simp only[A4u];refine⟨hp, ?_⟩;rintro⟨r,_⟩ _ hr;refine⟨trivial, ?_⟩;rintro⟨s,_⟩ _ hs;simp only at hr hs⊢;rw[hs,hr]
theorem E1v (x:A7 X7.args) (hw:awf X7.args x) (hp:X7.pre x):C4w x:=by
 obtain⟨a,_⟩:=x;simp only[C4w];refine⟨hp, ?_⟩;rintro⟨r,_⟩ _ hr;simp only at hr⊢;rw[hr];unfold rc ic;simp
theorem C5n (x:A7 R3.args) (hw:awf R3.args x) (_:R3.pre x):A7y x:=by
 obtain⟨v,_⟩:=x;change Int at v;have hv:IntKind.i64.min<=v/\v<=IntKind.i64.max:=hw.1;rw[B9z,C6r]at hv;simp only[A7y];refine⟨trivial, ?_⟩;rintro⟨r,_⟩ _ hr;refine⟨trivial, ?_⟩;rintro⟨s,_⟩ _ hs;simp only at hr hs⊢;subst hr hs;have h2:(ic v).2.length<=2:=by rw[A1g];exact A6v (by omega)
 refine⟨⟨by omega,by rw[F8n];show 1<= _;decide⟩, ?_⟩;rintro⟨t,_⟩ _ ht;simp only at ht⊢;rw[ht,F2f (U6 1),U6,E6t]
theorem D7o (x:A7 M0.args) (hw:awf M0.args x) (hp:M0.pre x):C0g x:=by
 obtain⟨q,_⟩:=x;change L5 at q;obtain⟨h1,h2⟩:q.1.2.length<=2199023255552/\q.2.length<=2199023255552:=hp;simp only[C0g];refine⟨⟨by show q.1.2.length<= _;omega,by show q.2.length<= _;omega⟩, ?_⟩;rintro⟨r,_⟩ _ hr;simp only at hr⊢;rw[hr,G6t]
theorem D8c (x:A7 U8.args) (hw:awf U8.args x) (hp:U8.pre x):B8x x:=by
 obtain⟨q,_⟩:=x;have l1:A9 q.1.2:=A6 hw.1.1.2.2;have l2:A9 q.2:=A6 hw.1.2.2;change L5 at q;obtain⟨h1,h2⟩:q.1.2.length<=2199023255552/\q.2.length<=2199023255552:=hp;obtain⟨n1,n2⟩:=A9n l1 l2 h1 h2 (by decide);simp only[B8x];refine⟨⟨h1,h2⟩, ?_⟩;rintro⟨r,_⟩ _ hr;simp only at hr⊢;have e:r.1=ic (rv q).num:=by rw[hr];rfl
 refine⟨by show r.1.2.length<= _;rw[e];omega, ?_⟩;rintro⟨s,_⟩ _ hs;simp only at hs⊢;rw[hs,e,U6]
theorem E4a (x:A7 A4g.args) (hw:awf A4g.args x) (hp:A4g.pre x):C6j x:=by
 obtain⟨q,_⟩:=x;have l1:A9 q.1.2:=A6 hw.1.1.2.2;have l2:A9 q.2:=A6 hw.1.2.2;change L5 at q;obtain⟨h1,h2⟩:q.1.2.length<=2199023255552/\q.2.length<=2199023255552:=hp;obtain⟨n1,n2⟩:=A9n l1 l2 h1 h2 (by decide);simp only[C6j];refine⟨⟨h1,h2⟩, ?_⟩;rintro⟨r,_⟩ _ hr;simp only at hr⊢;have e:r.1=ic (rv q).num:=by rw[hr];rfl
 refine⟨by show r.1.2.length<= _;rw[e];omega, ?_⟩;rintro⟨s,_⟩ _ hs;refine⟨⟨h1,h2⟩, ?_⟩;rintro⟨d,_⟩ _ hd;simp only at hs hd⊢;rw[e,U6]at hs;refine⟨⟨by show s.2.length<= _;rw[hs,A1g,Int.natAbs_neg, <-A1g];omega,by show d.2.length<= _;rw[hd,A1g,Int.natAbs_natCast];omega⟩, ?_⟩;rintro⟨t,_⟩ _ ht;simp only at ht⊢;rw[ht];unfold B3u;rw[hs,hd,U6,U6,E8w]
theorem D6l (x:A7 O2.args) (hw:awf O2.args x) (hp:O2.pre x):B8m x:=by
 obtain⟨a,b,_⟩:=x;have la:A9 a.2:=A6 hw.1.2.2;have lb:A9 b.2:=A6 hw.2.1.2.2;change D5y at a b;obtain⟨p1,p2⟩:a.2.length<=8796093022208/\b.2.length<=8796093022208:=hp;have n1:=C5 la;have n2:=C5 lb;simp only[B8m];refine⟨by show b.2.length<=35184372088832;omega, ?_⟩;rintro⟨s,_⟩ _ hs;simp only at hs⊢;refine⟨fun h=>⟨trivial, ?_⟩,fun h=>⟨by show b.2.length<=35184372088832;omega, ?_⟩⟩
 . have h:=of_decide_eq_true h;rw[hs]at h;rintro⟨r,_⟩ _ hr;simp only at hr⊢;rw[hr,F6w (Int.sign_eq_zero_iff_zero.1 h)]
 have h:=of_decide_eq_false h;have hB:iv b≠0:=fun e=>h (by rw[hs,e];rfl)
 rintro⟨m,_⟩ _ hm;simp only at hm⊢;refine⟨fun _=>trivial, ?_⟩;rintro⟨e,_⟩ he;simp only at he⊢;refine⟨fun h1=>⟨by show a.2.length<=35184372088832;omega, ?_⟩,fun _=>⟨⟨p1,p2⟩, ?_⟩⟩
 . rw[S9,Bool.and_eq_true]at h1;have h2:=(he h1.1).2;rw[h1.2]at h2;have h3:m.2= [1]:=of_decide_eq_true h2.symm;have h4:m.1=false:=by simpa using h1.1
   have h5:iv b=1:=by
    have e1:m=(false,[1]):=Prod.ext h4 h3;rw[<-U6 (iv b), <-hm,e1];rfl
   rintro⟨r,_⟩ _ hr;simp only at hr⊢;rw[hr,h3,F2f h5,E6t];rfl
 . rintro⟨g,_⟩ _ hg;simp only at hg⊢;have hgv:iv g=((Nat.gcd (nv a.2) (nv b.2):Nat):Int):=by rw[hg,U6]
   obtain⟨G0,Gs,Gn,Gp⟩:=G1e (A:=iv a) (B:=iv b) hB (G:=Nat.gcd (nv a.2) (nv b.2)) (by rw[N7,N7]);have hbz:nv b.2≠0:=by rw[<-N7];omega
   have hgl:g.2.length<=8796093022208:=by
    rw[hg,A1g,Int.natAbs_natCast];have:=O0 (Nat.le_of_dvd (by omega) (Nat.gcd_dvd_right (nv a.2) (nv b.2)));omega
   rw[<-hgv]at Gs Gn Gp;have hg0:iv g≠0:=by omega
   refine⟨⟨p1,hgl⟩, ?_⟩;rintro⟨n,n',okn,_⟩ _ hn;refine⟨⟨p2,hgl⟩, ?_⟩;rintro⟨d,d',okd,_⟩ _ hd;simp only at hn hd⊢;have hn:=(hn hg0).1;have hd:=(hd hg0).1;have ln:n.2.length<=8796093022208:=by
    rw[hn,A1g];have h1:=O0 (Int.natAbs_ediv_le_natAbs (iv a) (iv g));rw[N7 a]at h1;omega
   have ld:d.2.length<=8796093022208:=by
    rw[hd,A1g];have h1:=O0 (Int.natAbs_ediv_le_natAbs (iv b) (iv g));rw[N7 b]at h1;omega
   have hds:d.1=decide (iv b/iv g<0):=by rw[hd];rfl
   refine⟨fun p=>((p.1,p.2.1),p.2.2.2.1)=rc (B3u a b),⟨fun h1=>⟨by show n.2.length<=35184372088832;omega, ?_⟩,fun h1=> ?_⟩, ?_⟩
   . rw[hds]at h1;have h1:=Gs.1 (of_decide_eq_true h1);rintro⟨u,_⟩ _ hu;refine⟨by show d.2.length<=35184372088832;omega, ?_⟩;rintro⟨v,_⟩ _ hv;simp only at hu hv⊢;show(u,v.2)= _;rw[hn,U6]at hu;rw[hd,U6]at hv;rw[hu,hv];exact Gn h1
   . rw[hds]at h1;have h1:¬iv b<0:=fun h2=>(of_decide_eq_false h1) (Gs.2 h2)
     show(n,d.2)= _;rw[hn,hd];exact Gp h1
   . rintro⟨t1,t2,t3,t4,_⟩ _ j;exact j
def F5w:An:= {plan:= [(1,[0,2],[6,7],true,(.q 0 (.q 2 (.or 1 (.or 3 (.or 4 (.e 5 (.e 6 (.e 7 .done))) (.e 5 (.e 4 (.e 6 (.e 7 .done))))) (.or 4 (.or 3 (.e 5 (.e 6 (.e 7 .done))) (.e 5 (.e 3 (.e 6 (.e 7 .done))))) (.e 5 (.or 3 (.e 4 (.e 6 (.e 7 .done))) (.e 4 (.e 3 (.e 6 (.e 7 .done)))))))) (.or 4 (.or 1 (.or 3 (.e 5 (.e 6 (.e 7 .done))) (.e 5 (.e 3 (.e 6 (.e 7 .done))))) (.e 5 (.e 1 (.e 3 (.e 6 (.e 7 .done)))))) (.e 5 (.or 1 (.or 3 (.e 4 (.e 6 (.e 7 .done))) (.e 4 (.e 3 (.e 6 (.e 7 .done))))) (.e 4 (.e 1 (.e 3 (.e 6 (.e 7 .done)))))))))))),(2,[1,2,6,7,11,13],[17],true,(.p 0 (.q 1 (.q 2 (.p 5 (.q 6 (.q 7 (.q 11 (.q 13 (.e 3 (.e 4 (.e 8 (.e 9 (.e 10 (.e 12 (.e 14 (.e 15 (.e 16 (.e 17 .done)))))))))))))))))))]}
def D9l:B4:= [(81,O2),(82,A0n),(83,M0),(84,X7),(93,A0o)]
def F5i:An:= {plan:= [(1,[0,1],[4],true,(.q 0 (.q 1 (.e 2 (.e 3 (.e 4 .done))))))]}
def E0g:B4:= [(32,A0p),(123,A4g)]
def F5z:An:= {plan:= [(1,[0,3,7,9],[13],true,(.q 0 (.q 3 (.q 7 (.q 9 (.e 1 (.p 2 (.e 4 (.p 5 (.e 6 (.e 8 (.e 10 (.e 11 (.e 12 (.e 13 .done)))))))))))))))]}
def D8v:B4:= [(81,O2),(82,A0n),(83,M0),(84,X7)]
def q8 (x:QQ×QQ×Unit) (r:QQ×Unit) (g:QQ×Unit):Prop:=∀(a:(Bool×List Int)×Unit),WfZ a.1/\True->a.1=ic (↑(rv x.2.1).den:Int)->(sh1 r.1.1.2/\sh1 a.1.2)/\∀(b:(Bool×List Int)×Unit),WfZ b.1/\True->b.1=ic (iv r.1.1*iv a.1)->sh3 x.1/\∀(r:(Bool×List Int)×Unit),WfZ r.1/\True->r.1=ic (↑(rv x.1).den:Int)->(sh1 g.1.1.2/\sh1 r.1.2)/\∀(c:(Bool×List Int)×Unit),WfZ c.1/\True->c.1=ic (iv g.1.1*iv r.1)->(sh1 b.1.2/\sh1 c.1.2)/\∀(r:(Bool×List Int)×Unit),WfZ r.1/\True->r.1=ic (iv b.1+iv c.1)->sh3 x.1/\∀(d:(Bool×List Int)×Unit),WfZ d.1/\True->d.1=ic (↑(rv x.1).den:Int)->sh3 x.2.1/\∀(e:(Bool×List Int)×Unit),WfZ e.1/\True->e.1=ic (↑(rv x.2.1).den:Int)->(sh1 d.1.2/\sh1 e.1.2)/\∀(f:(Bool×List Int)×Unit),WfZ f.1/\True->f.1=ic (iv d.1*iv e.1)->(sh2 r.1.2/\sh2 f.1.2)/\∀(h:QQ×Unit),WfQ h.1/\True->h.1=rc (B3u r.1 f.1)->h.1=rc (rv x.1+rv x.2.1)
def q9 (x:QQ×QQ×Unit):Prop:=∀(r:QQ×Unit),WfQ r.1/\True->r.1=rc (rv x.1)->(sh3 x.2.1/\∀(g:QQ×Unit),WfQ g.1/\True->g.1=rc (rv x.2.1)->sh3 x.2.1/\q8 x r g)/\sh3 x.2.1/\∀(g:QQ×Unit),WfQ g.1/\True->g.1=rc (rv x.2.1)->sh3 x.2.1/\q8 x r g
def qa (x:QQ×QQ×Unit):Prop:=∀(r:QQ×Unit),WfQ r.1/\True->r.1=rc (rv x.1)->sh3 x.2.1/\∀(g:QQ×Unit),WfQ g.1/\True->g.1=rc (rv x.2.1)->sh3 x.2.1/\q8 x r g
def C6m:A7 A0p.args->Prop:=fun(x:QQ×QQ×Unit)=>(sh3 x.1/\∀(r:QQ×Unit),WfQ r.1/\True->r.1=rc (rv x.1)->(sh3 x.2.1/\∀(g:QQ×Unit),WfQ g.1/\True->g.1=rc (rv x.2.1)->(sh3 x.2.1/\q8 x r g)/\sh3 x.2.1/\q8 x r g)/\((sh3 x.2.1/\∀(g:QQ×Unit),WfQ g.1/\True->g.1=rc (rv x.2.1)->sh3 x.2.1/\q8 x r g)/\sh3 x.2.1/\∀(g:QQ×Unit),WfQ g.1/\True->g.1=rc (rv x.2.1)->sh3 x.2.1/\q8 x r g)/\(sh3 x.2.1/\∀(g:QQ×Unit),WfQ g.1/\True->g.1=rc (rv x.2.1)->sh3 x.2.1/\q8 x r g)/\sh3 x.2.1/\∀(g:QQ×Unit),WfQ g.1/\True->g.1=rc (rv x.2.1)->sh3 x.2.1/\q8 x r g)/\((sh3 x.1/\q9 x)/\sh3 x.1/\qa x)/\(sh3 x.1/\q9 x)/\sh3 x.1/\qa x
theorem E3u (x:A7 A0p.args):H4 Tryz.prog tys D9l F5w A0p Tryz.f32 x=C6m x:=by kernel_rfl
def C6e:A7 A4f.args->Prop:=fun(x:QQ×QQ×Unit)=>sh3 x.2.1/\∀(r:QQ×Unit),WfQ r.1/\True->r.1=rc (-rv x.2.1)->(sh3 x.1/\sh3 r.1)/\∀(a:QQ×Unit),WfQ a.1/\True->a.1=rc (rv x.1+rv r.1)->a.1=rc (rv x.1-rv x.2.1)
theorem E4o (x:A7 A4f.args):H4 Tryz.prog tys E0g F5i A4f Tryz.f53 x=C6e x:=by kernel_rfl
def C7f:A7 A2f.args->Prop:=fun(x:QQ×QQ×Unit)=>sh3 x.1/\∀(r:QQ×Unit),WfQ r.1/\True->r.1=rc (rv x.1)->sh3 x.2.1/\∀(a:QQ×Unit),WfQ a.1/\True->a.1=rc (rv x.2.1)->(sh1 r.1.1.2/\sh1 a.1.1.2)/\∀(b:(Bool×List Int)×Unit),WfZ b.1/\True->b.1=ic (iv r.1.1*iv a.1.1)->sh3 x.1/\∀(r:(Bool×List Int)×Unit),WfZ r.1/\True->r.1=ic (↑(rv x.1).den:Int)->sh3 x.2.1/\∀(c:(Bool×List Int)×Unit),WfZ c.1/\True->c.1=ic (↑(rv x.2.1).den:Int)->(sh1 r.1.2/\sh1 c.1.2)/\∀(d:(Bool×List Int)×Unit),WfZ d.1/\True->d.1=ic (iv r.1*iv c.1)->(sh2 b.1.2/\sh2 d.1.2)/\∀(r:QQ×Unit),WfQ r.1/\True->r.1=rc (B3u b.1 d.1)->r.1=rc (rv x.1*rv x.2.1)
theorem E4j (x:A7 A2f.args):H4 Tryz.prog tys D8v F5z A2f Tryz.f24 x=C7f x:=by kernel_rfl
theorem D1z {p:L5} (l1:A9 p.1.2) (l2:A9 p.2) (h:sh3 p):(ic (rv p).num).2.length<=2199023255552/\(ic ((rv p).den:Int)).2.length<=2199023255552:=by
 have:=A9n l1 l2 h.1 h.2 (by decide);exact⟨this.1,by rw[A1g,Int.natAbs_natCast];exact this.2⟩
theorem icm {x y:Int} {k:Nat} (hx:(ic x).2.length<=k) (hy:(ic y).2.length<=k):(ic (x*y)).2.length<=2*k:=by
 rw[A1g]at*;rw[Int.natAbs_mul];have:=B7g x.natAbs y.natAbs;omega
theorem ica {x y:Int} {k:Nat} (hx:(ic x).2.length<=k) (hy:(ic y).2.length<=k):(ic (x+y)).2.length<=k+1:=by
 rw[A1g]at*;have h1:=O0 (Int.natAbs_add_le x y);have:=D9p x.natAbs y.natAbs;omega
theorem E2t (x:A7 A0p.args) (hw:awf A0p.args x) (hp:A0p.pre x):C6m x:=by
 obtain⟨p,q,_⟩:=x;have lp1:A9 p.1.2:=A6 hw.1.1.2.2;have lp2:A9 p.2:=A6 hw.1.2.2;have lq1:A9 q.1.2:=A6 hw.2.1.1.2.2;have lq2:A9 q.2:=A6 hw.2.1.2.2;change L5 at p q;obtain⟨hp3,hq3⟩:sh3 p/\sh3 q:=hp;obtain⟨a1,a2⟩:=D1z lp1 lp2 hp3;obtain⟨b1,b2⟩:=D1z lq1 lq2 hq3;have m1:=icm a1 b2;have m2:=icm b1 a2;have m3:=icm a2 b2;have m4:=ica m1 m2;have fin:rc (B3u (ic ((rv p).num*((rv q).den:Int)+(rv q).num*((rv p).den:Int))) (ic (((rv p).den:Int)*((rv q).den:Int))))=rc (rv p+rv q):=by
  unfold B3u;rw[U6,U6,F5d]
 have P1:sh1 (ic (rv p).num).2:=by show _ <= _;omega
 have P2:sh1 (ic ((rv p).den:Int)).2:=by show _ <= _;omega
 have Q1:sh1 (ic (rv q).num).2:=by show _ <= _;omega
 have Q2:sh1 (ic ((rv q).den:Int)).2:=by show _ <= _;omega
 have M1:sh1 (ic ((rv p).num*((rv q).den:Int))).2:=by show _ <= _;omega
 have M2:sh1 (ic ((rv q).num*((rv p).den:Int))).2:=by show _ <= _;omega
 have M3:sh2 (ic (((rv p).den:Int)*((rv q).den:Int))).2:=by show _ <= _;omega
 have M4:sh2 (ic ((rv p).num*((rv q).den:Int)+(rv q).num*((rv p).den:Int))).2:=by show _ <= _;omega
 clear m1 m2 m3 m4 a1 a2 b1 b2;have r1:(rc (rv p)).1=ic (rv p).num:=rfl;have r2:(rc (rv q)).1=ic (rv q).num:=rfl;simp only[C6m,q8,q9,qa]
 repeat' first
  |assumption
  |apply And.intro
  | (rintro⟨r,_⟩ _ h;simp only at h⊢;subst h;try simp only[r1,r2,U6])
theorem E0z (x:A7 A4f.args) (hw:awf A4f.args x) (hp:A4f.pre x):C6e x:=by
 obtain⟨p,q,_⟩:=x;have lq1:A9 q.1.2:=A6 hw.2.1.1.2.2;have lq2:A9 q.2:=A6 hw.2.1.2.2;change L5 at p q;obtain⟨hp3,hq3⟩:sh3 p/\sh3 q:=hp;obtain⟨b1,b2⟩:=D1z lq1 lq2 hq3;simp only[C6e];refine⟨hq3, ?_⟩;rintro⟨r,_⟩ _ hr;simp only at hr⊢;refine⟨⟨hp3, ?_⟩, ?_⟩
 . rw[hr];refine⟨?_, ?_⟩
   . show(ic (-(rv q)).num).2.length<= _;rw[Rat.neg_num,A1g,Int.natAbs_neg, <-A1g];exact b1
   . show(nc (-(rv q)).den).length<= _;rw[Rat.neg_den];rw[A1g,Int.natAbs_natCast]at b2;exact b2
 rintro⟨s,_⟩ _ hs;simp only at hs⊢;rw[hs,hr,U4,Rat.sub_eq_add_neg]
theorem B3t (x:A7 J1.args) (hw:awf J1.args x) (_:J1.pre x):A2g x:=by
 obtain⟨a,b,_⟩:=x;change Int at a b;simp only[A2g];refine⟨trivial, ?_⟩;rintro⟨r,_⟩ _ hr;refine⟨trivial, ?_⟩;rintro⟨s,_⟩ _ hs;change Bool at r s;simp only at hr hs;rw[hr,hs];refine⟨fun h=>(by cases h),fun _=>⟨fun h=>(by cases h),fun _=>⟨fun h=> ?_,fun h=>⟨fun h2=> ?_,fun h2=> ?_⟩⟩⟩⟩
 . simp[D0d,of_decide_eq_true h]
 . simp[D0d,of_decide_eq_false h,of_decide_eq_true h2]
 . simp[D0d,of_decide_eq_false h,of_decide_eq_false h2]
theorem C7d (x:A7 S6.args) (hw:awf S6.args x) (hp:S6.pre x):A7m x:=by
 obtain⟨p,_⟩:=x;change D5y at p;simp only[A7m];refine⟨hp, ?_⟩;rintro⟨r,_⟩ _ hr;simp only at hr⊢;refine⟨trivial, ?_⟩;rintro⟨s,_⟩ _ hs;simp only at hs⊢;rw[hs,hr];have h:=G7i (neg:= !p.1) (m:=nv p.2);have e:iv (!p.1,nc (nv p.2))= -iv p:=by
  rw[G4r];congr 1;unfold iv;simp only[H6]
 rw[<-e,h];have:decide (nc (nv p.2)≠ [])=decide (nv p.2≠0):=decide_eq_decide.2 (not_congr C9j);rw[this]
theorem D9j {a b:Int} (ha: -2147483647<=a/\a<=2147483647) (hb: -2147483647<=b/\b<=2147483647): -4611686014132420609<=a*b/\a*b<=4611686014132420609:=by
 have h:(a*b).natAbs<=2147483647*2147483647:=by
  rw[Int.natAbs_mul];exact Nat.mul_le_mul (by omega) (by omega)
 omega
theorem C1f (x:A7 G2.args) (hw:awf G2.args x) (hp:G2.pre x):A5h x:=by
 obtain⟨p,q,_⟩:=x;have lp1:A9 p.1.2:=A6 hw.1.1.2.2;have lp2:A9 p.2:=A6 hw.1.2.2;have lq1:A9 q.1.2:=A6 hw.2.1.1.2.2;have lq2:A9 q.2:=A6 hw.2.1.2.2;change L5 at p q;obtain⟨hp3,hq3⟩:sh3 p/\sh3 q:=hp;obtain⟨hp1,hp2⟩:=hp3;obtain⟨hq1,hq2⟩:=hq3;simp only[A5h];refine⟨trivial, ?_⟩;rintro⟨an,ad,aok,_⟩ _ ⟨a1,a2⟩;refine⟨trivial, ?_⟩;rintro⟨bn,bd,bok,_⟩ _ ⟨b1,b2⟩;change Int at an ad bn bd;simp only at a1 a2 b1 b2⊢;refine⟨fun h=> ?_,fun _=>⟨trivial, ?_⟩⟩
 . rw[S9,Bool.and_eq_true]at h;have sp:Q6 p:=Decidable.byContradiction fun hn=>by have:=a2 hn;rw[this]at h;exact absurd h.1 (by decide)
   have sq:Q6 q:=Decidable.byContradiction fun hn=>by have:=b2 hn;rw[this]at h;exact absurd h.2 (by decide)
   obtain⟨ea,ed,_⟩:=a1 sp;obtain⟨eb,ee,_⟩:=b1 sq;obtain⟨x1,x2,x3,x4⟩:=C2p sp;obtain⟨y1,y2,y3,y4⟩:=C2p sq;have h1:=D9j (a:=an) (b:=bn) (by omega) (by omega);have h2:=D9j (a:=ad) (b:=bd) (by omega) (by omega);have h4:0<ad*bd:=Int.mul_pos (by omega) (by omega);rw[wr (a:=ad*bd) (by omega) (by omega),wr (a:=an*bn) (by omega) (by omega)];refine⟨h4, ?_⟩;rintro⟨r,_⟩ _ hr;simp only at hr⊢;rw[hr, <-D5t p, <-D5t q, <-ea, <-ed, <-eb, <-ee,Rat.mkRat_mul_mkRat,Int.toNat_mul (by omega) (by omega)]
 . rintro⟨n,d,_⟩ ⟨hwn,hwd,_⟩ h1;refine⟨trivial, ?_⟩;rintro⟨m,e,_⟩ ⟨hwm,hwe,_⟩ h2;have ln:A9 n.2:=A6 hwn.2.2;have ld:A9 d:=A6 hwd.2;have lm:A9 m.2:=A6 hwm.2.2;have le:A9 e:=A6 hwe.2;change D5y at n m;change List Int at d e;simp only at h1 h2⊢;obtain⟨d0,hP⟩:=C0n h1;obtain⟨e0,hQ⟩:=C0n h2;obtain⟨n1,d1⟩:=B3n (k:=2199023255552) h1 hp1 hp2 (by decide);obtain⟨m1,e1⟩:=B3n (k:=2199023255552) h2 hq1 hq2 (by decide);have x1:=C5z (x:=n) (y:=m) ln lm;have x2:=C7r ld le;rw[hP,hQ];refine⟨⟨by show n.2.length<= _;omega,by show m.2.length<= _;omega⟩, ?_⟩;rintro⟨u,_⟩ _ hu;refine⟨⟨by show d.length<= _;omega,by show e.length<= _;omega⟩, ?_⟩;rintro⟨v,_⟩ _ hv;simp only at hu hv⊢;refine⟨⟨by rw[hv,H6];exact Nat.mul_ne_zero d0 e0,by show u.2.length<= _;rw[hu];omega,by show v.length<= _;rw[hv];omega⟩, ?_⟩;rintro⟨r,_⟩ _ hr;simp only at hr⊢;rw[hr,hu,hv,U6,H6,Rat.mkRat_mul_mkRat]
theorem C1h (x:A7 P8.args) (hw:awf P8.args x) (hp:P8.pre x):A5y x:=by
 obtain⟨p,_⟩:=x;have lp1:A9 p.1.2:=A6 hw.1.1.2.2;have lp2:A9 p.2:=A6 hw.1.2.2;change L5 at p;have hp3:sh3 p:=hp;obtain⟨a1,a2⟩:=A9n (k:=2199023255552) lp1 lp2 hp3.1 hp3.2 (by decide);simp only[A5y];refine⟨hp3, ?_⟩;rintro⟨r,_⟩ _ hr;simp only at hr⊢;subst hr;refine⟨by show(ic (rv p).num).2.length<= _;omega, ?_⟩;rintro⟨s,_⟩ _ hs;simp only at hs⊢;rw[hs];show(ic (-iv (ic (rv p).num)),nc (rv p).den)=(ic (-(rv p)).num,nc (-(rv p)).den);rw[U6,Rat.neg_num,Rat.neg_den]
theorem G9e {q:Rat} (h:q≠0):(((ic q.num).1,nc q.den),(ic q.num).2)=rc q⁻¹:=by
 have hn:q.num≠0:=fun e=>h (Rat.num_eq_zero.1 e)
 unfold rc ic;rw[Rat.num_inv,Rat.den_inv,if_neg hn,Int.natAbs_mul,Int.natAbs_natCast,Int.natAbs_sign_of_ne_zero hn,Nat.one_mul];have hd:(0:Int)<(q.den:Int):=by have:=q.den_pos;omega
 have:(q.num.sign*(q.den:Int)<0)↔q.num<0:=by
  rcases Int.lt_trichotomy q.num 0 with h1|h1|h1
  . rw[Int.sign_eq_neg_one_of_neg h1];omega
  . exact absurd h1 hn
  . rw[Int.sign_eq_one_of_pos h1];omega
 simp only[this]
theorem C3o (x:A7 Q3.args) (hw:awf Q3.args x) (hp:Q3.pre x):A5l x:=by
 obtain⟨p,_⟩:=x;change L5 at p;have hp3:sh3 p:=hp;simp only[A5l];refine⟨trivial, ?_⟩;rintro⟨s,_⟩ _ hs;simp only at hs⊢;refine⟨fun h=> ?_,fun h=>⟨hp3, ?_⟩⟩
 . have h0:=D1w (hs▸of_decide_eq_true h);exact⟨fun _=>by trivial,fun hn=>absurd h0 hn⟩
 . rintro⟨r,_⟩ _ hr;simp only at hr⊢;refine⟨fun h0=> ?_,fun h0=>⟨by rw[hr];exact G9e h0,by trivial⟩⟩;have h:=of_decide_eq_false h;rw[hs,h0]at h;exact absurd rfl h
theorem F1q {a:Int} (h:IntKind.i64.min<=a/\a<=IntKind.i64.max):(ic a).2.length<=2:=by
 have h1: -9223372036854775808<=a/\a<=9223372036854775807:=h;exact A6v (by show a.natAbs<4294967296^2;omega)
theorem E5f (x:A7 A6y.args) (hw:awf A6y.args x) (_:A6y.pre x):D5s x:=by
 obtain⟨a,b,_⟩:=x;have ha:(ic a).2.length<=2:=F1q hw.1;have hb:(ic b).2.length<=2:=F1q hw.2.1;change Int at a b;simp only[D5s];refine⟨trivial, ?_⟩;rintro⟨r,_⟩ _ hr;refine⟨trivial, ?_⟩;rintro⟨s,_⟩ _ hs;simp only at hr hs⊢;subst hr hs;refine⟨⟨by show(ic a).2.length<= _;omega,by show(ic b).2.length<= _;omega⟩, ?_⟩;rintro⟨t,_⟩ _ ht;simp only at ht⊢;rw[ht];unfold B3u;rw[U6,U6]
theorem E2q (x:A7 A2f.args) (hw:awf A2f.args x) (hp:A2f.pre x):C7f x:=by
 obtain⟨p,q,_⟩:=x;have lp1:A9 p.1.2:=A6 hw.1.1.2.2;have lp2:A9 p.2:=A6 hw.1.2.2;have lq1:A9 q.1.2:=A6 hw.2.1.1.2.2;have lq2:A9 q.2:=A6 hw.2.1.2.2;change L5 at p q;obtain⟨hp3,hq3⟩:sh3 p/\sh3 q:=hp;obtain⟨a1,a2⟩:=D1z lp1 lp2 hp3;obtain⟨b1,b2⟩:=D1z lq1 lq2 hq3;have m1:=icm a1 b1;have m3:=icm a2 b2;simp only[C7f];refine⟨hp3, ?_⟩;rintro⟨r,_⟩ _ hr;refine⟨hq3, ?_⟩;rintro⟨s,_⟩ _ hs;simp only at hr hs⊢;subst hr hs;refine⟨⟨by show(ic (rv p).num).2.length<= _;omega,by show(ic (rv q).num).2.length<= _;omega⟩, ?_⟩;rintro⟨u,_⟩ _ hu;refine⟨hp3, ?_⟩;rintro⟨d,_⟩ _ hd;refine⟨hq3, ?_⟩;rintro⟨e,_⟩ _ he;simp only at hu hd he⊢;subst hu hd he;refine⟨⟨by show(ic ((rv p).den:Int)).2.length<= _;omega,by show(ic ((rv q).den:Int)).2.length<= _;omega⟩, ?_⟩;rintro⟨v,_⟩ _ hv;simp only at hv⊢;subst hv;have e1:(rc (rv p)).1=ic (rv p).num:=rfl;have e2:(rc (rv q)).1=ic (rv q).num:=rfl;rw[e1,e2,U6,U6,U6,U6];refine⟨⟨by show(ic _).2.length<= _;omega,by show(ic _).2.length<= _;omega⟩, ?_⟩;rintro⟨t,_⟩ _ ht;simp only at ht⊢;rw[ht];unfold B3u;rw[U6,U6,F0f]
theorem E9l (p q:Rat):Rat.divInt (p.num*(q.den:Int)) ((p.den:Int)*q.num)=p/q:=by
 rw[Rat.div_def,Rat.inv_def, <-Rat.divInt_mul_divInt,Rat.num_divInt_den]
theorem E0w (x:A7 A3r.args) (hw:awf A3r.args x) (hp:A3r.pre x):C7n x:=by
 obtain⟨p,q,_⟩:=x;have lp1:A9 p.1.2:=A6 hw.1.1.2.2;have lp2:A9 p.2:=A6 hw.1.2.2;have lq1:A9 q.1.2:=A6 hw.2.1.1.2.2;have lq2:A9 q.2:=A6 hw.2.1.2.2;change L5 at p q;obtain⟨hp3,hq3⟩:sh3 p/\sh3 q:=hp;obtain⟨a1,a2⟩:=D1z lp1 lp2 hp3;obtain⟨b1,b2⟩:=D1z lq1 lq2 hq3;have m1:=icm a1 b2;have m3:=icm a2 b1;simp only[C7n];refine⟨hq3, ?_⟩;rintro⟨z,_⟩ _ hz;simp only at hz⊢;refine⟨fun h=> ?_,fun h=>⟨hp3, ?_⟩⟩
 . have h0:=D1w (hz▸of_decide_eq_true h);exact⟨fun _=>by trivial,fun hn=>absurd h0 hn⟩
 have hne:rv q≠0:=fun h0=>by
  have h:=of_decide_eq_false h;rw[hz,h0]at h;exact absurd rfl h
 rintro⟨r,_⟩ _ hr;refine⟨hq3, ?_⟩;rintro⟨s,_⟩ _ hs;simp only at hr hs⊢;subst hr hs;refine⟨⟨by show(ic (rv p).num).2.length<= _;omega,by show(ic ((rv q).den:Int)).2.length<= _;omega⟩, ?_⟩;rintro⟨u,_⟩ _ hu;refine⟨hp3, ?_⟩;rintro⟨d,_⟩ _ hd;refine⟨hq3, ?_⟩;rintro⟨e,_⟩ _ he;simp only at hu hd he⊢;subst hu hd he;refine⟨⟨by show(ic ((rv p).den:Int)).2.length<= _;omega,by show(ic (rv q).num).2.length<= _;omega⟩, ?_⟩;rintro⟨v,_⟩ _ hv;simp only at hv⊢;subst hv;have e1:(rc (rv p)).1=ic (rv p).num:=rfl;have e2:(rc (rv q)).1=ic (rv q).num:=rfl;rw[e1,e2,U6,U6,U6,U6];refine⟨⟨by show(ic _).2.length<= _;omega,by show(ic _).2.length<= _;omega⟩, ?_⟩;rintro⟨t,_⟩ _ ht;simp only at ht⊢;refine⟨fun h0=>absurd h0 hne,fun _=>⟨?_,by trivial⟩⟩;rw[ht];unfold B3u;rw[U6,U6,E9l]
theorem D7k (x:A7 A1d.args) (hw:awf A1d.args x) (hp:A1d.pre x):B9w x:=by
 obtain⟨p,q,_⟩:=x;simp only[B9w];refine⟨hp, ?_⟩;rintro⟨r,b,_⟩ _ ⟨_,h⟩ h0;exact(h h0).1
def B8n:An:= {loop:= [(2,⟨[0],[],[(3,false,[.val (.int .i64)])],[],[]⟩)],plan:= [(4,[5,10],[],true,(.p 0 (.p 1 (.p 2 (.p 3 (.p 4 (.q 5 (.p 6 (.p 7 (.p 8 (.p 9 (.q 10 (.p 11 .done)))))))))))))]}
def A5x:B4:= []
def C5w:An:= {join:= [(14,⟨[3,18,19,20],[],[(4,false,[.val (.int .i64)])],[],[(0, .row tE 94)]⟩)],loop:= [(8,⟨[3,18,19],[],[(4,false,[.val (.int .i64)]),(20,false,[.val (.int .i64)])],[],[(0, .row tE 94)]⟩)],plan:= [(10,[8,10],[],true,(.p 0 (.p 1 (.p 2 (.p 3 (.p 4 (.p 5 (.p 6 (.p 7 (.q 8 (.p 9 (.q 10 (.p 11 (.p 12 .done)))))))))))))),(11,[8,10],[14],true,(.p 0 (.p 1 (.p 2 (.p 3 (.p 4 (.p 5 (.p 6 (.p 7 (.q 8 (.p 9 (.q 10 (.e 11 (.p 12 (.p 13 (.e 14 .done))))))))))))))))]}
def A8l:B4:= [(122,F4),(156,K8),(192,F9),(210,P7)]
def D2u:An:= {join:= [(13,⟨[2,7,9,10],[1],[(0,false,[.val (.sl tE)]),(1,false,[.val (.sl tE)]),(8,false,[.val (.int .i64)])],[(2,31,[.val .bool, .val (.sl (.int .u32)), .val (.sl (.int .u32))]),(3,31,[.val .bool, .val (.sl (.int .u32)), .val (.sl (.int .u32))])],[]⟩)],loop:= [(2,⟨[2],[],[(0,false,[.val (.sl tE)]),(1,false,[.val (.sl tE)]),(7,false,[.own tE 94])],[],[]⟩)],plan:= [(5,[11,15],[],true,(.p 0 (.p 1 (.p 2 (.p 3 (.p 4 (.p 5 (.p 6 (.p 7 (.p 8 (.p 9 (.p 10 (.q 11 (.p 12 (.p 13 (.p 14 (.q 15 (.p 16 (.p 17 (.p 18 .done)))))))))))))))))))),(6,[3,7],[9],true,(.p 0 (.p 1 (.p 2 (.q 3 (.p 4 (.p 5 (.p 6 (.q 7 (.p 8 (.e 9 .done))))))))))),(11,[3,7],[9],true,(.p 0 (.p 1 (.p 2 (.q 3 (.p 4 (.p 5 (.p 6 (.q 7 (.p 8 (.e 9 .done)))))))))))]}
def B4i:B4:= [(160,D8)]
def D2k:An:= {loop:= [(4,⟨[1,10,11],[],[(12,false,[.val (.int .i64)])],[],[]⟩)]}
def B3y:B4:= [(160,D8),(192,F9)]
def E3b:An:= {join:= [(7,⟨[1,4,5,9,10,11],[0],[],[(1,31,[.val .bool, .val (.sl (.int .u32)), .val (.sl (.int .u32))])],[]⟩)],loop:= [(3,⟨[1,4,5,9,10],[0],[(11,false,[.val (.int .i64)])],[(1,31,[.val .bool, .val (.sl (.int .u32)), .val (.sl (.int .u32))])],[]⟩)]}
def C3l:B4:= [(70,E8),(122,F4)]
def B3w:An:= {plan:= [(3,[0,1,2],[5],true,(.q 0 (.q 1 (.q 2 (.e 3 (.e 4 (.e 5 .done)))))))]}
def A4i:B4:= [(71,G2),(111,E6),(122,F4),(160,D8)]
def B9u:An:= {}
def A5q:B4:= [(169,P6),(170,K7),(171,F7)]
def A0v:A7 F9.args->Prop:=fun(x:List EE×Unit)=>∃(I:Int×Unit->Prop),∃(μ:Int×Unit->Nat),I ((1:Int),())/\∀(p:Int×Unit),D5 p.1/\True->I p->(decide (p.1<(x.1.length:Int))=true->((0:Int)<=IntKind.i64.wrap (p.1-1)/\IntKind.i64.wrap (p.1-1)<(x.1.length:Int))/\(0<=p.1/\p.1<(x.1.length:Int))/\(decide ((gx dEE x.1 p.1).1<=(gx dEE x.1 (IntKind.i64.wrap (p.1-1))).1)=true->false=decide (asc x.1))/\(decide ((gx dEE x.1 p.1).1<=(gx dEE x.1 (IntKind.i64.wrap (p.1-1))).1)=false->I (IntKind.i64.wrap (p.1+1),())/\μ (IntKind.i64.wrap (p.1+1),())<μ p))/\(decide (p.1<(x.1.length:Int))=false->true=decide (asc x.1))
theorem B2b (x:A7 F9.args):H4 Tryz.prog tys A5x B8n F9 Tryz.f192 x=A0v x:=by kernel_rfl
def A2s:A7 K7.args->Prop:=fun(x:List EE×Unit)=>True/\∀(r:Bool×Unit),True/\True->r.1=decide (asc x.1)->(r.1=true->x.1=x.1)/\(r.1=false->((0:Int)<=(x.1.length:Int)/\(x.1.length:Int)<=(x.1.length:Int)/\(↑(64:Nat):Int)*(x.1.length:Int)<=(281474976710656:Int)/\(x.1.length:Int)<=(9223372036854775807:Int))/\∃(ok:EE×EE×Unit->Prop),∃(φ:EE×EE×Unit->Int),(∀(y:EE×EE×Unit),tE.wf y.1/\tE.wf y.2.1/\True->ok y->True/\∀(z:Int×Unit),D5 z.1/\True->z.1=D0d y.1.1 y.2.1.1->false=false/\z.1=φ y)/\False/\∀(b:Unit) (o:List EE×Unit),True->tE.sl.wf o.1/\True->True->True->∃(I:Int×Int×List EE×Unit->Prop),∃(μ:Int×Int×List EE×Unit->Nat),I ((0:Int),(0:Int),o)/\∀(p:Int×Int×List EE×Unit),D5 p.1/\D5 p.2.1/\C1l p.2.2.1/\True->I p->(decide (p.2.1<(↑o.1.length:Int))=true->∃(J:Int×List EE×Unit->Prop),((0<=p.2.1/\p.2.1<(p.2.2.1.length:Int))/\(decide (0<p.1)=true->(0:Int)<=IntKind.i64.wrap (p.1-1)/\IntKind.i64.wrap (p.1-1)<(p.2.2.1.length:Int))/\(sel (decide (0<p.1)) (decide ((List.getD p.2.2.1 (IntKind.i64.wrap (p.1-1)).toNat dEE).1=(List.getD p.2.2.1 (Int.toNat p.2.1) dEE).1)) false=true->((0:Int)<=IntKind.i64.wrap (p.1-1)/\IntKind.i64.wrap (p.1-1)<(p.2.2.1.length:Int))/\(sh3 (List.getD p.2.2.1 (IntKind.i64.wrap (p.1-1)).toNat dEE).2/\sh3 (List.getD p.2.2.1 (Int.toNat p.2.1) dEE).2)/\∀(r:QQ×Unit),WfQ r.1/\True->r.1=rc (rv (List.getD p.2.2.1 (IntKind.i64.wrap (p.1-1)).toNat dEE).2+rv (List.getD p.2.2.1 (Int.toNat p.2.1) dEE).2)->((0:Int)<=IntKind.i64.wrap (p.1-1)/\IntKind.i64.wrap (p.1-1)<(p.2.2.1.length:Int))/\J (p.1,List.set p.2.2.1 (IntKind.i64.wrap (p.1-1)).toNat ((List.getD p.2.2.1 (IntKind.i64.wrap (p.1-1)).toNat dEE).1,r.1),()))/\(sel (decide (0<p.1)) (decide ((List.getD p.2.2.1 (IntKind.i64.wrap (p.1-1)).toNat dEE).1=(List.getD p.2.2.1 (Int.toNat p.2.1) dEE).1)) false=false->(0<=p.1/\p.1<(p.2.2.1.length:Int))/\J (IntKind.i64.wrap (p.1+1),List.set p.2.2.1 (Int.toNat p.1) (List.getD p.2.2.1 (Int.toNat p.2.1) dEE),())))/\∀(a:Int×List EE×Unit),D5 a.1/\C1l a.2.1/\True->J a->I (a.1,IntKind.i64.wrap (p.2.1+1),a.2.1,())/\μ (a.1,IntKind.i64.wrap (p.2.1+1),a.2.1,())<μ p)/\(decide (p.2.1<(↑o.1.length:Int))=false->((0:Int)<=(0:Int)/\0<=p.1/\p.1<=(p.2.2.1.length:Int))/\List.drop (Int.toNat (0:Int)) (List.take (Int.toNat p.1) p.2.2.1)=x.1))
theorem B5z (x:A7 K7.args):H4 Tryz.prog tys A8l C5w K7 Tryz.f170 x=A2s x:=by kernel_rfl
def A5o:A7 P6.args->Prop:=fun(x:List EE×List EE×((QQ×QQ×Unit->Prop)×(QQ×QQ×Unit->(Bool×List Int)×List Int))×Unit)=>((0:Int)<=(0:Int)/\(0:Int)<=Max.max (x.1.length:Int) (x.2.1.length:Int)/\(↑(64:Nat):Int)*Max.max (x.1.length:Int) (x.2.1.length:Int)<=(281474976710656:Int)/\Max.max (x.1.length:Int) (x.2.1.length:Int)<=(9223372036854775807:Int))/\∃(I:List EE×List EE×List EE×Unit->Prop),∃(μ:List EE×List EE×List EE×Unit->Nat),I (x.1,x.2.1,List.replicate (Int.toNat (0:Int)) dEE,())/\∀(p:List EE×List EE×List EE×Unit),C1l p.1/\C1l p.2.1/\C1l p.2.2.1/\True->I p->(sel (decide ((0:Int)<(p.1.length:Int))) true (decide ((0:Int)<(p.2.1.length:Int)))=true->∃(J:List EE×List EE×Int×Bool×List Int×List Int×Bool×List Int×List Int×Unit->Prop),((decide ((0:Int)<(p.1.length:Int))=true/\decide ((p.2.1.length:Int)=(0:Int))=false->(0:Int)<=(0:Int)/\(0:Int)<(p.1.length:Int))/\(decide ((0:Int)<(p.1.length:Int))=true/\decide ((p.2.1.length:Int)=(0:Int))=false->(0:Int)<=(0:Int)/\(0:Int)<(p.2.1.length:Int))/\(sel (decide ((p.2.1.length:Int)=(0:Int))) true (sel (decide ((0:Int)<(p.1.length:Int))) (decide ((gx dEE p.1 (0:Int)).1<=(gx dEE p.2.1 (0:Int)).1)) false)=true->((0:Int)<=(0:Int)/\(0:Int)<(p.1.length:Int))/\((0:Int)<=(0:Int)/\(0:Int)<(p.1.length:Int))/\((0:Int)<=(1:Int)/\(1:Int)<=(p.1.length:Int)/\(p.1.length:Int)<=(p.1.length:Int))/\(decide ((0:Int)<(p.2.1.length:Int))=true->(0:Int)<=(0:Int)/\(0:Int)<(p.2.1.length:Int))/\(sel (decide ((0:Int)<(p.2.1.length:Int))) (decide ((gx dEE p.2.1 (0:Int)).1=(gx dEE p.1 (0:Int)).1)) false=true->((0:Int)<=(0:Int)/\(0:Int)<(p.2.1.length:Int))/\((0:Int)<=(1:Int)/\(1:Int)<=(p.2.1.length:Int)/\(p.2.1.length:Int)<=(p.2.1.length:Int))/\J (List.drop (Int.toNat (1:Int)) (List.take (p.1.length:Int).toNat p.1),List.drop (Int.toNat (1:Int)) (List.take (p.2.1.length:Int).toNat p.2.1),(gx dEE p.1 (0:Int)).1,(gx dEE p.1 (0:Int)).2.1.1,(gx dEE p.1 (0:Int)).2.1.2,(gx dEE p.1 (0:Int)).2.2,(gx dEE p.2.1 (0:Int)).2.1.1,(gx dEE p.2.1 (0:Int)).2.1.2,(gx dEE p.2.1 (0:Int)).2.2,()))/\(sel (decide ((0:Int)<(p.2.1.length:Int))) (decide ((gx dEE p.2.1 (0:Int)).1=(gx dEE p.1 (0:Int)).1)) false=false->J (List.drop (Int.toNat (1:Int)) (List.take (p.1.length:Int).toNat p.1),p.2.1,(gx dEE p.1 (0:Int)).1,(gx dEE p.1 (0:Int)).2.1.1,(gx dEE p.1 (0:Int)).2.1.2,(gx dEE p.1 (0:Int)).2.2,false,[],[],())))/\(sel (decide ((p.2.1.length:Int)=(0:Int))) true (sel (decide ((0:Int)<(p.1.length:Int))) (decide ((gx dEE p.1 (0:Int)).1<=(gx dEE p.2.1 (0:Int)).1)) false)=false->((0:Int)<=(0:Int)/\(0:Int)<(p.2.1.length:Int))/\((0:Int)<=(0:Int)/\(0:Int)<(p.2.1.length:Int))/\((0:Int)<=(1:Int)/\(1:Int)<=(p.2.1.length:Int)/\(p.2.1.length:Int)<=(p.2.1.length:Int))/\J (p.1,List.drop (Int.toNat (1:Int)) (List.take (p.2.1.length:Int).toNat p.2.1),(gx dEE p.2.1 (0:Int)).1,false,[],[],(gx dEE p.2.1 (0:Int)).2.1.1,(gx dEE p.2.1 (0:Int)).2.1.2,(gx dEE p.2.1 (0:Int)).2.2,())))/\∀(a:List EE×List EE×Int×Bool×List Int×List Int×Bool×List Int×List Int×Unit),C1l a.1/\C1l a.2.1/\D5 a.2.2.1/\True/\WfU a.2.2.2.2.1/\WfU a.2.2.2.2.2.1/\True/\WfU a.2.2.2.2.2.2.2.1/\WfU a.2.2.2.2.2.2.2.2.1/\True->J a->Go.Proofs.Tryz.prog=Go.Proofs.Tryz.prog/\x.2.2.1.1 (((a.2.2.2.1,a.2.2.2.2.1),a.2.2.2.2.2.1),((a.2.2.2.2.2.2.1,a.2.2.2.2.2.2.2.1),a.2.2.2.2.2.2.2.2.1),())/\(tQ.wf (x.2.2.1.2 (((a.2.2.2.1,a.2.2.2.2.1),a.2.2.2.2.2.1),((a.2.2.2.2.2.2.1,a.2.2.2.2.2.2.2.1),a.2.2.2.2.2.2.2.2.1),()))->True/\∀(r:Int×Unit),D5 r.1/\True->r.1=(rv (x.2.2.1.2 (((a.2.2.2.1,a.2.2.2.2.1),a.2.2.2.2.2.1),((a.2.2.2.2.2.2.1,a.2.2.2.2.2.2.2.1),a.2.2.2.2.2.2.2.2.1),()))).num.sign->(decide (r.1≠0)=true->((List.length p.2.2.1+ [(a.2.2.1,x.2.2.1.2 (((a.2.2.2.1,a.2.2.2.2.1),a.2.2.2.2.2.1),((a.2.2.2.2.2.2.1,a.2.2.2.2.2.2.2.1),a.2.2.2.2.2.2.2.2.1),()))].length)*(64:Nat)<=(140737488355328:Nat)/\List.length p.2.2.1+ [(a.2.2.1,x.2.2.1.2 (((a.2.2.2.1,a.2.2.2.2.1),a.2.2.2.2.2.1),((a.2.2.2.2.2.2.1,a.2.2.2.2.2.2.2.1),a.2.2.2.2.2.2.2.2.1),()))].length<=9223372036854775807)/\I (a.1,a.2.1,p.2.2.1++ [(a.2.2.1,x.2.2.1.2 (((a.2.2.2.1,a.2.2.2.2.1),a.2.2.2.2.2.1),((a.2.2.2.2.2.2.1,a.2.2.2.2.2.2.2.1),a.2.2.2.2.2.2.2.2.1),()))],())/\μ (a.1,a.2.1,p.2.2.1++ [(a.2.2.1,x.2.2.1.2 (((a.2.2.2.1,a.2.2.2.2.1),a.2.2.2.2.2.1),((a.2.2.2.2.2.2.1,a.2.2.2.2.2.2.2.1),a.2.2.2.2.2.2.2.2.1),()))],())<μ p)/\(decide (r.1≠0)=false->I (a.1,a.2.1,p.2.2.1,())/\μ (a.1,a.2.1,p.2.2.1,())<μ p)))/\(sel (decide ((0:Int)<(p.1.length:Int))) true (decide ((0:Int)<(p.2.1.length:Int)))=false->p.2.2.1=O1 x.2.2.1.2 x.1 x.2.1)
theorem C2t (x:A7 P6.args):H4 Tryz.prog tys B4i D2u P6 Tryz.f169 x=A5o x:=by kernel_rfl
def A5v:A7 P5.args->Prop:=fun(x:List EE×Int×Unit)=>True/\∀(r:Bool×Unit),True/\True->r.1=decide (asc x.1)->((!r.1)=true->false=decide (J4 x.1 x.2.1))/\((!r.1)=false->∃(I:Int×Unit->Prop),∃(μ:Int×Unit->Nat),I ((0:Int),())/\∀(p:Int×Unit),D5 p.1/\True->I p->(decide (p.1<(x.1.length:Int))=true->(0<=p.1/\p.1<(x.1.length:Int))/\(sel (decide ((gx dEE x.1 p.1).1<(0:Int))) true (decide (x.2.1<=(gx dEE x.1 p.1).1))=false->True)/\∀(r:Int×Unit),(sel (decide ((gx dEE x.1 p.1).1<(0:Int))) true (decide (x.2.1<=(gx dEE x.1 p.1).1))=false->(D5 r.1/\True)/\r.1=(rv (gx dEE x.1 p.1).2).num.sign)->(sel (sel (decide ((gx dEE x.1 p.1).1<(0:Int))) true (decide (x.2.1<=(gx dEE x.1 p.1).1))) true (decide (r.1=0))=true->false=decide (J4 x.1 x.2.1))/\(sel (sel (decide ((gx dEE x.1 p.1).1<(0:Int))) true (decide (x.2.1<=(gx dEE x.1 p.1).1))) true (decide (r.1=0))=false->I (IntKind.i64.wrap (p.1+1),())/\μ (IntKind.i64.wrap (p.1+1),())<μ p))/\(decide (p.1<(x.1.length:Int))=false->true=decide (J4 x.1 x.2.1)))
theorem C2u (x:A7 P5.args):H4 Tryz.prog tys B3y D2k P5 Tryz.f151 x=A5v x:=by kernel_rfl
def A9y:A7 R2.args->Prop:=fun(x:List EE×Int×Unit)=>True/\∀(r:QQ×Unit),WfQ r.1/\True->r.1=ri (0:Int)->∃(I:Int×Bool×List Int×List Int×Unit->Prop),∃(μ:Int×Bool×List Int×List Int×Unit->Nat),I ((0:Int),r.1.1.1,r.1.1.2,r.1.2,())/\∀(p:Int×Bool×List Int×List Int×Unit),D5 p.1/\True/\WfU p.2.2.1/\WfU p.2.2.2.1/\True->I p->(decide (p.1<(x.1.length:Int))=true->∃(J:Bool×List Int×List Int×Unit->Prop),((0<=p.1/\p.1<(x.1.length:Int))/\(decide ((gx dEE x.1 p.1).1=x.2.1)=true->(sh3 ((p.2.1,p.2.2.1),p.2.2.2.1)/\sh3 (gx dEE x.1 p.1).2)/\∀(r:QQ×Unit),WfQ r.1/\True->r.1=rc (rv ((p.2.1,p.2.2.1),p.2.2.2.1)+rv (gx dEE x.1 p.1).2)->J (r.1.1.1,r.1.1.2,r.1.2,()))/\(decide ((gx dEE x.1 p.1).1=x.2.1)=false->J (p.2.1,p.2.2.1,p.2.2.2.1,())))/\∀(a:Bool×List Int×List Int×Unit),True/\WfU a.2.1/\WfU a.2.2.1/\True->J a->I (IntKind.i64.wrap (p.1+1),a.1,a.2.1,a.2.2.1,())/\μ (IntKind.i64.wrap (p.1+1),a.1,a.2.1,a.2.2.1,())<μ p)/\(decide (p.1<(x.1.length:Int))=false->((p.2.1,p.2.2.1),p.2.2.2.1)=rc (E2 x.1 x.2.1))
theorem D0s (x:A7 R2.args):H4 Tryz.prog tys C3l E3b R2 Tryz.f118 x=A9y x:=by kernel_rfl
def Y6:A7 F7.args->Prop:=fun(x:QQ×QQ×QQ×Unit)=>True/\∀(r:Int×Unit),D5 r.1/\True->r.1=(rv x.2.1).num.sign->(decide (r.1=0)=true->sh3 x.1/\∀(r:QQ×Unit),WfQ r.1/\True->r.1=rc (rv x.1)->r.1=rc (rv x.1+rv x.2.2.1*rv x.2.1))/\(decide (r.1=0)=false->(sh3 x.2.2.1/\sh3 x.2.1)/\∀(r:QQ×Unit),WfQ r.1/\True->r.1=rc (rv x.2.2.1*rv x.2.1)->(sh3 x.1/\sh3 r.1)/\∀(a:QQ×Unit),WfQ a.1/\True->a.1=rc (rv x.1+rv r.1)->a.1=rc (rv x.1+rv x.2.2.1*rv x.2.1))
theorem A8i (x:A7 F7.args):H4 Tryz.prog tys A4i B3w F7 Tryz.f171 x=Y6 x:=by kernel_rfl
def A1a:A7 H3.args->Prop:=fun(x:List EE×QQ×List EE×Unit)=>asc x.1/\∀(r:List EE×Unit),C1l r.1/\True->r.1=x.1->asc x.2.2.1/\∀(a:List EE×Unit),C1l a.1/\True->a.1=x.2.2.1->∃(ok:QQ×QQ×Unit->Prop),∃(φ:QQ×QQ×Unit->(Bool×List Int)×List Int),(∀(y:QQ×QQ×Unit),tQ.wf y.1/\tQ.wf y.2.1/\True->ok y->(sz K1 y.1/\sz K1 y.2.1/\sz K1 x.2.1)/\∀(z:QQ×Unit),WfQ z.1/\True->z.1=rc (rv y.1+rv x.2.1*rv y.2.1)->true=true/\z.1=φ y)/\(List.length r.1<=100000/\List.length a.1<=100000/\∀(u v:L5),(u=zr\/∃(e:EE),e∈r.1/\e.2=u)->(v=zr\/∃(e:EE),e∈a.1/\e.2=v)->(ok,φ).1 (u,v,()))/\∀(b:List EE×Unit),C1l b.1/\True->b.1=O1 φ r.1 a.1->C8p b.1/\∀(i:Int),E2 b.1 i=E2 x.1 i+rv x.2.1*E2 x.2.2.1 i
theorem B1w (x:A7 H3.args):H4 Tryz.prog tys A5q B9u H3 Tryz.f119 x=A1a x:=by kernel_rfl
end Go.Proofs.YtkdmjgcjpmcjjaaGreat
