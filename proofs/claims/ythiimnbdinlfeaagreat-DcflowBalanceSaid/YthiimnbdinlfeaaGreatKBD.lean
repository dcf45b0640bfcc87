/- Part. -/
import Derived.Test.YthiimnbdinlfeaaGreatKBC
set_option linter.all false
namespace Go.Vc
open Go Go.RowKit Go.Gw
open Go.IntKind (i64 u64 u32)
section
variable {za:Zn} {w0 w:World} {Z:Nat->Prop} {B:Nat->Value} {st st0 st2:St} {E:G1}
def B8.setSame (h:B8 za w0 st E w Z B) (s:Nat) {x:DV} (hx:RD w Z B E x (E s)) (hr:HE st.nx x):B8 za w0 (st.setS s x) E w Z B:=by
 have e:upd E s (E s)=E:=by
  funext t;by_cases u:t=s
  . subst u;exact C3 _ _ _
  . exact C4 _ _ _ _ u
 have:=h.setS s (x:=x) (v:=E s) (by rw[e];exact hx) hr;rwa[e]at this
def B0f {A:CP} (u:B8 za w0 st2 E w Z B) (pk:A6t za.n st0) (hS:∀s∈A.keepS,st2.eS s=st0.eS s) (hL:∀k∈A.keepL,st2.eL k=st0.eL k) (hF:st2.fr=st0.fr):Kg za w0 st2 E w Z B A.keepL (kept A st0) B:=by
 have eS:∀s,(kept A st0).S s=if s∈A.keepS then st2.S s else .dead:=fun s=>by
  show((kept A st0).eS s).2= _;rw[aM];split
  . rename_i hs;rw[<-hS s hs];rfl
  . rfl
 have eL:∀k,(kept A st0).L k=if k∈A.keepL then st2.L k else .none:=fun k=>by
  show((kept A st0).eL k).2= _;rw[aL];split
  . rename_i hs;rw[<-hL k hs];rfl
  . rfl
 have a1:∀s,(kept A st0).S s=if s∈A.keepS then st0.S s else .dead:=fun s=>by
  show((kept A st0).eS s).2= _;rw[aM];split<;>rfl
 have a0:∀k,(kept A st0).L k=if k∈A.keepL then st0.L k else .none:=fun s=>by
  show((kept A st0).eL s).2= _;rw[aL];split<;>rfl
 have lv:∀k b,A9 w (B k) ((kept A st0).L k) b->k∈A.keepL/\A9 w (B k) (st2.L k) b:=fun k b hk=>by
  rw[eL]at hk;split at hk
  . rename_i hm;exact⟨hm,hk⟩
  . exact hk.elim
 refine⟨⟨u.ext,u.zlt,fun s=> ?_,fun k=> ?_,fun k k' b a2 l1 l2=>u.disj k k' b a2 (lv k b l1).2 (lv k' b l2).2,fun s=> ?_,fun k=> ?_,fun k hk=> ?_,u.bone,u.zin,⟨pk.nms.1,qW pk.nms.2 (Mz _ _)⟩,u.bfix,⟨u.mrk.1,fun k b hk hl=>u.mrk.2 k b hk (lv k b hl).2⟩,(by have:=u.frs;rw[hF]at this;exact this),pk.frf.le (Mz _ _)⟩,fun j b hj=>⟨j,(lv j b hj).1,(lv j b hj).2⟩⟩
 . rw[eS];split
   . exact u.slots s
   . trivial
 . rw[eL];split
   . exact u.locs k
   . trivial
 . rw[a1];split
   . exact(pk.refs s).le (Mz _ _)
   . trivial
 . rw[a0];split
   . exact(pk.refl k).le (Mz _ _)
   . trivial
 . rw[a0];split
   . exact pk.fresh k (qW (Mz _ _) hk)
   . rfl
def KO (h2:B8 za w0 st2 E w Z B) {t:Ty} {e:TypeId} {c:C} {l:List t.den} {v:Value} (hc:RC w Z B c v) (u:KN st2 t e c=some l):
 ∃xs,w.ownsRow w0.heap.size e t.size v l.length xs/\F2 (C5 t w Z) xs l/\(∀b,v.ownBlock=some b->¬Z b)/\((∃q,c= .row q/\live (st2.L q)/\v=B q)\/(root v=none/\∀q,c≠ .row q)):=by
 unfold KN at u;split at u
 . rename_i q;split at u
   . rename_i t' e' l' hq;split at u
     . rename_i a1;subst a1;obtain⟨he,u⟩:=D4 u;cases u;simp only[qC]at he;have a3:=qQ he.2;have a0:=qE he.1;subst a0;have hL:=h2.locs q;rw[hq]at hL;obtain⟨xs,h1,h3,h4⟩:=hL;have hv:v=B q:=hc;subst hv;have a2:∀b,(B q).ownBlock=some b->w0.heap.size<=b:=fun b hb=>by
        rcases(h4 b hb).1 with g|g
        . exact g.2
        . have:=h2.nms.1;omega
       exact⟨xs,kN h1 a2,h3,fun b hb=>(h4 b hb).2, .inl ⟨q,rfl,by rw[hq];trivial,rfl⟩⟩
     . cases u
   . cases u
 . obtain⟨hn,u⟩:=D4 u;cases u;have hv:v= .slice none 0 0:=by rw[hc.1];exact Rx hn
   subst hv;exact⟨[],World.ownsRow_nil _ _ _ _,rfl,fun b hb=>(by cases hb), .inr ⟨rfl,fun q hq=>(by cases hq)⟩⟩
 . cases u
def A8h {t:Ty} {v:Value} {x:t.den} (h:C5 t w Z [v] x):RC w Z B (B1i t x) v:=by
 cases t with
 |ptr t=>
  obtain⟨b,o,u,e,r⟩:=h;simp only[sG,vD]at e;exact⟨b,o,u,by rw[e];rfl,r⟩
 | _=>exact h
def A4u {n:Nat} {t:Ty} {x:t.den} :Cb n (B1i t x):=by cases t<;>trivial
def Xc (a5:za.b0=0) (h2:B8 za w0 st2 E w Z B):∀ {shs:List Th} {T:Type} {tl:T} {cs:List C} {vs:List Value} {p:shD shs T} {st:St} {BX:Nat->Value} {used:List Nat},Kg za w0 st2 E w Z B used st BX->Ct w Z B cs vs->Ca st2 shs tl cs=some p->(∀q∈X5 shs cs,q∉used)->(X5 shs cs).Nodup->(∀c∈shs,∀k,c.pin=some k->k<st.nx/\BX k=B k)->
 ∃BX',Kg za w0 st2 E w Z B (X5 shs cs++used) (placeSh shs p st).2.1 BX'/\Ct w Z BX' (placeSh shs p st).1 vs/\(∀c∈(placeSh shs p st).1,Cb (placeSh shs p st).2.1.nx c)/\(∀k,k<st.nx->BX' k=BX k)/\st.nx<=(placeSh shs p st).2.1.nx/\(placeSh shs p st).2.2=tl
 | [],_,tl,[],vs,p,st,BX,used,c,hv,hp,_,_,_=>by
  simp only[Ca,qZ]at hp;exact⟨BX,c,hv,by simp[placeSh],fun _ _=>rfl,rA _,hp.symm⟩
 | [],_,_,_:: _,_,_,_,_,_,_,_,hp,_,_,_=>by cases hp
 | .val t::r,_,_,[],_,_,_,_,_,_,_,hp,_,_,_=>by cases hp
 | .own t e::r,_,_,[],_,_,_,_,_,_,_,hp,_,_,_=>by cases hp
 | .fix k::r,_,_,[],_,_,_,_,_,_,_,hp,_,_,_=>by cases hp
 | .fixB k::r,_,_,[],_,_,_,_,_,_,_,hp,_,_,_=>by cases hp
 | .fix k::r,T,tl,c0::cs,vs,p,st,BX,used,c,⟨v,a4,e,a2,a3⟩,hp,hu,hn,hf=>by
  simp only[Ca]at hp;obtain⟨hk,hp⟩:=D4 hp;have a0:X5 (.fix k::r) (c0::cs)=X5 r cs:=by cases c0<;>rfl
  rw[a0]at hu hn⊢;obtain⟨BX',g1,g2,g3,g4,g5,g6⟩:=Xc a5 h2 c a3 hp hu hn (fun j hj=>hf j (qM _ hj));subst e;have a1:=hf _ rL k rfl;cases c0 with
  |row j=>
   have:=qE hk;subst this;refine⟨BX',g1,⟨v,a4,rfl, ?_,g2⟩,fun q hq=> ?_,g4,g5,g6⟩
   . show v=BX' j;rw[g4 j a1.1,a1.2];exact a2
   . rcases qV.1 hq with rfl|hq
     . exact rG a1.1 g5
     . exact g3 q hq
  | _=>cases hk
 | .fixB k::r,T,tl,c0::cs,vs,p,st,BX,used,c,⟨v,a4,e,a2,a3⟩,hp,hu,hn,hf=>by
  simp only[Ca]at hp;obtain⟨hk,hp⟩:=D4 hp;have a0:X5 (.fixB k::r) (c0::cs)=X5 r cs:=by cases c0<;>rfl
  rw[a0]at hu hn⊢;obtain⟨BX',g1,g2,g3,g4,g5,g6⟩:=Xc a5 h2 c a3 hp hu hn (fun j hj=>hf j (qM _ hj));subst e;have a1:=hf _ rL k rfl;cases c0 with
  |box j o=>
   cases o with
   |succ o=>cases hk
   |zero=>
   have:=qE hk;subst this;refine⟨BX',g1,⟨v,a4,rfl, ?_,g2⟩,fun q hq=> ?_,g4,g5,g6⟩
   . obtain⟨b,hb,hv⟩:=a2;exact⟨b,by rw[g4 j a1.1,a1.2];exact hb,hv⟩
   . rcases qV.1 hq with rfl|hq
     . exact rG a1.1 g5
     . exact g3 q hq
  | _=>cases hk
 | .val t::r,T,tl,c0::cs,vs,p,st,BX,used,c,⟨v,a4,e,a2,a3⟩,hp,hu,hn,hf=>by
  simp only[Ca,bind_some,qK]at hp;obtain⟨y,hy,z,hz,rfl⟩:=hp;have a0:X5 (.val t::r) (c0::cs)=X5 r cs:=by cases c0<;>rfl
  rw[a0]at hu hn⊢;obtain⟨BX',g1,g2,g3,g4,g5,g6⟩:=Xc a5 h2 c a3 hz hu hn (fun j hj=>hf j (qM _ hj));subst e;refine⟨BX',g1,⟨v,a4,rfl,A8h (ZH a2 hy),g2⟩,fun q hq=> ?_,g4,g5,g6⟩;rcases qV.1 hq with rfl|hq
  . exact A4u
  . exact g3 q hq
 | .own t e0::r,T,tl,c0::cs,vs,p,st,BX,used,c,⟨v,a4,e,a2,a3⟩,hp,hu,hn,hf=>by
  simp only[Ca,bind_some,qK]at hp;obtain⟨l,hl,z,hz,rfl⟩:=hp;subst e;obtain⟨xs,o1,o2,o3,o4⟩:=KO h2 a2 hl;have ad:v.oneCell'=true:=by rcases o1.2 with⟨hv,_⟩ | ⟨_,_,_,hv,_⟩<;>rw[hv]<;>rfl
  have ai:=E4 o1;have key:∃u,Kg za w0 st2 E w Z B u (st.newL (.row t e0 l)) (upd BX st.nx v)/\(∀q∈X5 r cs,q∉u)/\(X5 r cs).Nodup/\(∀q,q∈X5 (.own t e0::r) (c0::cs)++used↔q∈X5 r cs++u):=by
   have mk:∀u,(∀q∈used,q∈u)->(∀b,root v=some b->∃q,q∈u/\A9 w (B q) (st2.L q) b)->(∀k b,root v=some b->¬A9 w (BX k) (st.L k) b)->Kg za w0 st2 E w Z B u (st.newL (.row t e0 l)) (upd BX st.nx v):=by
    intro u ac hq hd;refine⟨c.rel.new (v:=v) (lc:= .row t e0 l) ⟨xs,by rw[C3];exact Xa o1 (rM _),o2,fun b hb=>by rw[C3]at hb;exact⟨.inl ⟨c.rel.nms.2,(World.ownsRow.lt o1 b hb).1⟩,o3 b hb⟩⟩ hd trivial ad (fun b _ _=>by rw[a5];exact rM _),fun j b hj=> ?_⟩;rw[St.L_newL]at hj;by_cases a7:j=st.nx
    . subst a7;rw[C3,rB rfl]at hj;exact hq b hj
    . rw[qT a7,C4 _ _ _ _ a7]at hj;obtain⟨q,h1,h3⟩:=c.own j b hj;exact⟨q,ac q h1,h3⟩
   rcases o4 with⟨q,rfl,aa,ae⟩ | ⟨ab,ag⟩
   . have a0:X5 (.own t e0::r) (.row q::cs)=q::X5 r cs:=rfl;rw[a0]at hu hn⊢;have a6:=sQ.1 hn;refine⟨q::used,mk _ (fun x hx=>qM _ hx) (fun b hb=>⟨q,by simp,A9.of aa (by rw[<-ae];exact hb)⟩) (fun k b hb=> ?_),fun x hx=> ?_,a6.2,fun x=>by grind⟩
     . rw[ae]at hb;exact c.disj h2 (hu q (by simp)) k b (A9.of aa hb)
     . intro a8;rcases qV.1 a8 with rfl|a8
       . exact a6.1 hx
       . exact hu x (qM _ hx) a8
   . have a0:X5 (.own t e0::r) (c0::cs)=X5 r cs:=by cases c0<;>first|rfl|exact absurd rfl (ag _)
     rw[a0]at hu hn⊢;exact⟨used,mk _ (fun x hx=>hx) (fun b hb=>by rw[ab]at hb;cases hb) (fun k b hb=>by rw[ab]at hb;cases hb),hu,hn,fun x=>xY⟩
  obtain⟨u,c',ah,a6,a9⟩:=key;obtain⟨BX',g1,g2,g3,g4,g5,g6⟩:=Xc a5 h2 c' a3 hz ah a6 (fun j hj k hk=>by
   obtain⟨a,b⟩:=hf j (qM _ hj) k hk;exact⟨vG a,(C4 _ _ _ _ (tZ a)).trans b⟩)
  have af:BX' st.nx=v:=by rw[g4 st.nx (rV _),C3]
  refine⟨BX',⟨g1.rel,fun j b hj=> ?_⟩,⟨v,a4,rfl,af.symm,g2⟩,fun q hq=> ?_,fun k hk=> ?_,qW (uK _) g5,g6⟩
  . obtain⟨q,h1,h3⟩:=g1.own j b hj;exact⟨q,(a9 q).2 h1,h3⟩
  . rcases qV.1 hq with rfl|hq
    . exact rG (rV _) g5
    . exact g3 q hq
  . rw[g4 k (vG hk),C4 _ _ _ _ (tZ hk)]
end
section
variable {za:Zn} {w0 w:World} {Z:Nat->Prop} {B:Nat->Value} {st st0 st2:St} {E:G1}
def PF (E:G1):List (Nat×Bool×List Th)->List Value->List Value->Prop
 | [],vs,u=>vs=u
 | (s,agg,shs)::l,vs,u=>∃v1 v2,vs=v1++v2/\v1.length=shs.length/\(agg=true->E s= .agg v1.toArray)/\(agg=false->v1= [E s])/\PF E l v2 u
def YZ (za:Zn) (w0:World) (w:World) (Z:Nat->Prop) (B:Nat->Value) (st2:St):List (Nat×TypeId×List Th)->List Value->Prop
 | [],vs=>vs= []
 | (k,T,shs)::l,vs=>∃v1 v2,vs=v1++v2/\v1.length=shs.length/\live (st2.L k)/\(∃b,B k= .pointer (some ⟨b,0,none⟩)/\up za w0 k b/\¬Z b/\IK w b v1.toArray T)/\YZ za w0 w Z B st2 l v2
def WR (h2:B8 za w0 st2 E w Z B):∀ {l:List (Nat×Bool×List Th)} {r cs:List C} {vr:List Value},Ct w Z B r vr->ZR st2 l r=some cs->∃vs,Ct w Z B cs vs/\PF E l vs vr
 | [],r,cs,vr,hr,h=>by cases h;exact⟨vr,hr,rfl⟩
 | (s,agg,shs)::l,r,cs,vr,hr,h=>by
  simp only[ZR]at h;split at h
  . rename_i a a1 hs;obtain⟨hb,h⟩:=D4 h;simp only[qK]at h;obtain⟨a2,h3,rfl⟩:=h;simp only[qC,g0u]at hb;obtain⟨ha,hb⟩:=hb;subst ha;have a0:=qE hb;obtain⟨v2,h4,h5⟩:=WR h2 hr h3;have u:=h2.slots s;rw[hs]at u;cases a with
    |true=>
     obtain⟨v1,e,u⟩:=u;exact⟨v1++v2,u.append h4,v1,v2,rfl,by rw[<-a0,u.len],fun _=>e,fun hh=>(by cases hh),h5⟩
    |false=>
     have u:Ct w Z B a1 [E s]:=u;exact⟨[E s]++v2,u.append h4,[E s],v2,rfl,by rw[<-a0,u.len],fun hh=>(by cases hh),fun _=>rfl,h5⟩
  . cases h
def WQ (h2:B8 za w0 st2 E w Z B):∀ {l:List (Nat×TypeId×List Th)} {cs:List C},ZQ st2 l=some cs->∃vs,Ct w Z B cs vs/\YZ za w0 w Z B st2 l vs
 | [],cs,h=>by cases h;exact⟨[],rfl,rfl⟩
 | (k,T,shs)::l,cs,h=>by
  simp only[ZQ]at h;split at h
  . rename_i T' a0 hk;obtain⟨hb,h⟩:=D4 h;simp only[qK]at h;obtain⟨a1,h3,rfl⟩:=h;simp only[qC]at hb;have hT:=qE hb.1;subst hT;have u:=qE hb.2;obtain⟨v2,h4,h5⟩:=WQ h2 h3;have hL:=h2.locs k;rw[hk]at hL;obtain⟨b,vs,e,h6,h7,h8,h9⟩:=hL;exact⟨vs.toList++v2,h9.append h4,vs.toList,v2,rfl,by rw[<-u,h9.len],by rw[hk];trivial,⟨b,e,h6,h7,by simpa using h8⟩,h5⟩
  . cases h
def XY {k:Nat} {t:Ty} {e e':TypeId} {x:List t.den×List Nat} (u:jZ st2 t e e' k=some x):st2.L k= .nest t e e' x.1 [] x.2:=by
 unfold jZ at u;split at u
 . rename_i t' d d' ls dd hk;split at u
   . rename_i hh;subst hh;obtain⟨hb,u⟩:=D4 u;cases u;simp only[qC]at hb;rw[hk,qE hb.1,qE hb.2]
   . cases u
 . cases u
def RH {k q:Nat} {ka va:Bool} {kt vt:Ty} {x:(LT.itM ka kt va vt q).den} (u:jV st2 k (.itM ka kt va vt q)=some x):∃cur,st2.L k= .itM ka kt va vt x.1 x.2 cur q/\q<k:=by
 simp only[jV]at u;split at u
 . rename_i a0 a1 a2 a3 es left cur q' hk;obtain⟨hb,u⟩:=D4 u;simp only[qC]at hb;split at u
   . rename_i hh;cases hh;cases u;have:=qE hb.1;subst this;exact⟨cur,hk,qQ hb.2⟩
   . cases u
 . cases u
def XP {k q:Nat} {t:LT} {x:t.den} (hl:jV st2 k t=some x) (u:t.need=some q):q<k:=by
 cases t with
 |itM ka kt va vt q'=>cases u;exact(RH hl).choose_spec.2
 | _=>cases u
def GL (h2:B8 za w0 st2 E w Z B) {k:Nat} {t:LT} {x:t.den} (hl:jV st2 k t=some x):live (st2.L k)/\RL (up za w0 k) w Z B k (t.lc x)/\t.wf x:=by
 cases t with
 |row t e=>
  have hk:=Kx hl;have u:=h2.locs k;rw[hk]at u;refine⟨by rw[hk];trivial,u, ?_⟩;obtain⟨xs,o1,o2,_⟩:=u;exact C5.wf (Bn (Z:=fun _=>True) o1 (o2.mono fun _ _=>C5.mono (fun _ _=>trivial) (fun _ _=>rfl)) (fun _ _=>trivial))
 |map ka kt va vt=>
  have hk:=OQ hl;have u:=h2.locs k;rw[hk]at u;refine⟨by rw[hk];trivial,u, ?_⟩;obtain⟨b,ents,cl,e,_,_,hb,hm,he⟩:=u;exact C5.wf (aR (Z:=fun _=>True) hb hm (he.mono (fun _ _=>trivial) (fun _ _=>rfl)) trivial)
 |rows t e e'=>
  obtain⟨al,hk⟩:=Ho hl;have u:=h2.locs k;have hR:=u;rw[hk]at hR;have hR:=hR.rowsR;refine⟨by rw[hk];trivial,hR.rl fun b hb=> ?_,hR.wf⟩;have a0:A9 w (B k) (st2.L k) b:=by rw[hk];exact(X4 fun _ _=>rfl).1 hb
  obtain⟨a1,a2,a3⟩:=u.root a0;exact⟨a1,a3,a2⟩
 |iter ka kt va vt=>
  simp only[jV]at hl;cases hk:st2.L k with
  |iter a4 a5 a6 a7 es cur=>
   rw[hk]at hl;simp only at hl;split at hl
   . rename_i hh;cases hh;cases hl;have u:=h2.locs k;rw[hk]at u;obtain⟨r,e,h1,h3,h4⟩:=u;refine⟨trivial,⟨r,e,h1,h3,h4.imp (fun h=>⟨h.1,h.2.1,rfl⟩) fun⟨m,seen,ents,cl,i1,i2,i3,i4,i5,i6⟩=>⟨m,seen,ents,cl,i1,i2,i3,i4,i5,fun x hx=>by cases hx⟩⟩, ?_⟩;rcases h4 with⟨_,h,_⟩ | ⟨m,seen,ents,cl,i1,i2,i3,i4,i5,i6⟩
     . rw[h];intro x hx;cases hx
     . intro x hx;obtain⟨m,_,g1,g2⟩:=Q6.mem i5 hx;exact⟨R5.wf' (fun _ _=>C5.wf) g1,R5.wf' (fun _ _=>C5.wf) g2⟩
   . cases hl
  | _=>rw[hk]at hl;cases hl
 |nest t e e'=>
  have hk:=XY hl;have u:=h2.locs k;rw[hk]at u;refine⟨by rw[hk];trivial,u, ?_⟩;obtain⟨xs,hN,_⟩:=u;rcases hN.own.2 with⟨_,hn⟩ | ⟨_,_,_,_,_,_,h3,h4,_⟩
  . show x.1.length<= _;omega
  . show x.1.length<= _;simp only[maxLen]at h4;omega
 |itM ka kt va vt q=>
  obtain⟨cur,hk,_⟩:=RH hl;have u:=h2.locs k;rw[hk]at u;obtain⟨r,m,seen,ents,cl,e1,e2,hi,h1,h3,h4,h5⟩:=u;refine⟨by rw[hk];trivial,⟨r,m,seen,ents,cl,e1,e2,⟨hi.it,hi.mp,hi.ok,hi.all,hi.rest,fun x hx=>(by cases hx)⟩,h1,h3,h4,h5⟩,fun y hy=> ?_⟩;obtain⟨m,_,g1,g2⟩:=Q6.mem hi.rest hy;exact⟨R5.wf' (fun _ _=>C5.wf) g1,R5.wf' (fun _ _=>C5.wf) g2⟩
def RL.setB {U:Nat->Prop} {B':Nat->Value} {k:Nat} {t:LT} {x:t.den} (h:RL U w Z B k (t.lc x)) (e:B' k=B k) (en:∀q,t.need=some q->B' q=B q):RL U w Z B' k (t.lc x):=by
 cases t with
 |nest t e0 e1=>
  obtain⟨xs,u,h6⟩:=h;exact⟨xs,⟨by rw[e];exact u.own,fun p hp=>(by cases hp),u.elt,u.dis,by rw[e];exact u.top⟩,by rw[e];exact h6⟩
 |itM ka kt va vt q=>
  obtain⟨r,m,seen,ents,cl,e1,e2,hr⟩:=h;exact⟨r,m,seen,ents,cl,e.trans e1,(en q rfl).trans e2,hr⟩
 |row t e0=>obtain⟨xs,a,b,c⟩:=h;exact⟨xs,by rw[e];exact a,b,by rw[e];exact c⟩
 |map ka kt va vt=>obtain⟨b,ents,cl,a,r⟩:=h;exact⟨b,ents,cl,e.trans a,r⟩
 |iter ka kt va vt=>obtain⟨r,a,b⟩:=h;exact⟨r,e.trans a,b⟩
 |rows t e0 e1=>
  obtain⟨xs,h1,⟨h2,h3,h4⟩,h5,h6⟩:=h;exact⟨xs,by rw[e];exact h1,⟨fun p hp=>(by cases hp),h3,h4⟩,by rw[e];exact h5,by rw[e];exact h6⟩
def A7v (h2:B8 za w0 st2 E w Z B) {k b:Nat} {t:LT} {x:t.den} (u:jV st2 k t=some x) (h:A9 w (B k) (t.lc x) b):A9 w (B k) (st2.L k) b:=by
 cases t with
 |row t e=>exact A9.of (GL h2 u).1 h
 |map ka kt va vt=>exact A9.of (GL h2 u).1 h
 |iter ka kt va vt=>exact A9.of (GL h2 u).1 h
 |rows t e e'=>
  obtain⟨al,hk⟩:=Ho u;rw[hk];exact(X4 fun _ _=>rfl).1 h
 |nest t e e'=>rw[XY u];exact h
 |itM ka kt va vt q=>obtain⟨cur,hk,_⟩:=RH u;rw[hk];exact h
def SZ (h2:B8 za w0 st2 E w Z B) {BX:Nat->Value} {n0:Nat} (hB:∀k,k<n0->BX k=B k):∀ {l:List (Nat×LT)} {x:gD l} {st:St} {used:List Nat},Kg za w0 st2 E w Z B used st BX->n0<=st.nx->A0b st2 l=some x->(∀y∈l,y.1<n0)->(∀y∈l,y.1∉used)->(l.map fun y=>y.1).Nodup->
 Kg za w0 st2 E w Z B ((l.map fun y=>y.1)++used) (putRows l x st) BX/\(putRows l x st).nx=st.nx
 | [],_,st,used,c,_,_,_,_,_=>⟨c,rfl⟩
 | (k,t)::r,x,st,used,c,hn,hp,a6,hu,a2=>by
  simp only[A0b,bind_some,qK]at hp;obtain⟨l,hl,z,hz,rfl⟩:=hp;have a0:=a6 (k,t) (by simp);have a5:=hu (k,t) (by simp);simp only at a0 a5;obtain⟨a8,a7,_⟩:=GL h2 hl;have a3:BX k=B k:=hB k a0;simp only[rY,sQ]at a2;have a1:∀b,A9 w (BX k) (t.lc l) b->A9 w (B k) (st2.L k) b:=fun b hb=>A7v h2 hl (by rw[<-a3];exact hb)
  have c1:Kg za w0 st2 E w Z B (k::used) (st.setL k (t.lc l)) BX:=by
   refine⟨c.rel.addL (by omega) (a7.setB a3 fun q hq=>hB q (Nat.lt_trans (XP hl hq) a0)) (fun j b _ hb u=> ?_) (by cases t<;>first|trivial|exact fun p hp=>(by cases hp) |exact rG (Nat.lt_trans (XP hl rfl) a0) hn) (fun b hk hb=>h2.mrk.2 k b hk (a1 b hb)),fun j b u=> ?_⟩
   . exact c.disj h2 a5 j b (a1 b hb) u
   . rw[St.L_setL]at u;by_cases a4:j=k
     . subst a4;rw[rB rfl]at u;exact⟨j,by simp,a1 b u⟩
     . rw[qT a4]at u;obtain⟨q,h1,h3⟩:=c.own j b u;exact⟨q,qM _ h1,h3⟩
  obtain⟨c2,a9⟩:=SZ h2 hB c1 hn hz (fun y hy=>a6 y (qM _ hy)) (fun y hy=>by
   intro hh;rcases qV.1 hh with hh|hh
   . exact a2.1 (hh▸vE hy)
   . exact hu y (qM _ hy) hh) a2.2
  refine⟨⟨c2.rel,fun j b u=> ?_⟩,a9⟩;obtain⟨q,h1,h3⟩:=c2.own j b u;refine⟨q, ?_,h3⟩;simp only[rY];grind
def nH {BX:Nat->Value} :∀ {l:List (Nat×Bool×List Th)} {cs:List C} {vs vr:List Value} {st:St} {used:List Nat},Kg za w0 st2 E w Z B used st BX->Ct w Z BX cs vs->PF E l vs vr->(∀c∈cs,Cb st.nx c)->
 Kg za w0 st2 E w Z B used (putS l cs st).2 BX/\Ct w Z BX (putS l cs st).1 vr/\(∀c∈(putS l cs st).1,Cb st.nx c)/\(putS l cs st).2.nx=st.nx
 | [],cs,vs,vr,st,used,c,u,hv,hf=>by rw[show vs=vr from hv]at u;exact⟨c,u,hf,rfl⟩
 | (s,agg,shs)::l,cs,vs,vr,st,used,c,u,⟨v1,v2,e,hl,ha,a1,hv⟩,hf=>by
  subst e;have h1:=u.take shs.length;have h2:=u.drop shs.length;rw[<-hl,g2i]at h1;rw[<-hl,g2h]at h2;rw[hl]at h1 h2;have a0:RS w Z BX ⟨agg,cs.take shs.length⟩ (E s):=by
   cases agg with
   |true=>exact⟨v1,ha rfl,h1⟩
   |false=>rw[a1 rfl]at h1;exact h1
  have c1:Kg za w0 st2 E w Z B used (st.setS s (.one ⟨agg,cs.take shs.length⟩)) BX:=⟨c.rel.setSame s a0 (fun x hx=>hf x (sL hx)),c.own⟩;have:=nH (l:=l) (cs:=cs.drop shs.length) c1 h2 hv (fun x hx=>hf x (uW hx));exact this
def nG (h2:B8 za w0 st2 E w Z B) {BX:Nat->Value} {n0:Nat} (hB:∀k,k<n0->BX k=B k):∀ {l:List (Nat×TypeId×List Th)} {cs:List C} {vs:List Value} {st:St} {used:List Nat},Kg za w0 st2 E w Z B used st BX->n0<=st.nx->Ct w Z BX cs vs->YZ za w0 w Z B st2 l vs->(∀c∈cs,Cb st.nx c)->(∀y∈l,y.1<n0)->(∀y∈l,y.1∉used)->(l.map fun y=>y.1).Nodup->
 B8 za w0 (putB l cs st) E w Z BX
 | [],_,_,st,used,c,_,_,_,_,_,_,_=>c.rel
 | (k,T,shs)::l,cs,vs,st,used,c,hn,hr,⟨v1,v2,e,hl,a9,⟨b,a7,a8,aa,a2⟩,hv⟩,hf,a6,hu,a0=>by
  subst e;have h1:=hr.take shs.length;have h3:=hr.drop shs.length;rw[<-hl,g2i]at h1;rw[<-hl,g2h]at h3;rw[hl]at h1 h3;have a4:=a6 (k,T,shs) (by simp);have a5:=hu (k,T,shs) (by simp);simp only at a4 a5;have a1:BX k=B k:=hB k a4;simp only[rY,sQ]at a0;have u:∀q,A9 w (BX k) (.box T (cs.take shs.length)) q->A9 w (B k) (st2.L k) q:=fun q hq=>A9.of a9 (by rw[<-a1];exact hq)
  have c1:Kg za w0 st2 E w Z B (k::used) (st.setL k (.box T (cs.take shs.length))) BX:=by
   refine⟨c.rel.addL (by omega) ⟨b,v1.toArray,a1.trans a7,a8,aa,a2,by simpa using h1⟩ (fun j q _ hq hj=> ?_) (fun x hx=>hf x (sL hx)) (fun q hk hb=>h2.mrk.2 k q hk (u q hb)),fun j q hj=> ?_⟩
   . exact c.disj h2 a5 j q (u q hq) hj
   . rw[St.L_setL]at hj;by_cases a3:j=k
     . subst a3;rw[rB rfl]at hj;exact⟨j,by simp,u q hj⟩
     . rw[qT a3]at hj;obtain⟨q',h1,h3⟩:=c.own j q hj;exact⟨q',qM _ h1,h3⟩
  have:=nG (l:=l) (cs:=cs.drop shs.length) h2 hB c1 hn h3 hv (fun x hx=>hf x (uW hx)) (fun y hy=>a6 y (qM _ hy)) (fun y hy=>by
   intro hh;rcases qV.1 hh with hh|hh
   . exact a0.1 (hh▸vE hy)
   . exact hu y (qM _ hy) hh) a0.2
  exact this
def Pu (h2:B8 za w0 st2 E w Z B):∀ {shs:List Th} {T:Type} {tl:T} {q:T->Prop} {cs:List C} {vs:List Value} {p:shD shs T},q tl->Ct w Z B cs vs->Ca st2 shs tl cs=some p->shW shs q p
 | [],_,tl,q,[],vs,p,hq,_,u=>by simp only[Ca,qZ]at u;subst u;exact hq
 | [],_,_,_,_:: _,_,_,_,_,u=>by cases u
 | .val t::r,_,_,_,[],_,_,_,_,u=>by cases u
 | .own t e::r,_,_,_,[],_,_,_,_,u=>by cases u
 | .fix k::r,_,_,_,[],_,_,_,_,u=>by cases u
 | .fixB k::r,_,_,_,[],_,_,_,_,u=>by cases u
 | .fixB k::r,_,tl,q,c::cs,vs,p,hq,⟨v,a0,_,h1,h3⟩,u=>by
  simp only[Ca]at u;exact Pu (shs:=r) h2 hq h3 (D4 u).2
 | .fix k::r,_,tl,q,c::cs,vs,p,hq,⟨v,a0,_,h1,h3⟩,u=>by
  simp only[Ca]at u;exact Pu (shs:=r) h2 hq h3 (D4 u).2
 | .val t::r,_,tl,q,c::cs,vs,p,hq,⟨v,a0,e,h1,h3⟩,u=>by
  simp only[Ca,bind_some,qK]at u;obtain⟨y,hy,z,hz,rfl⟩:=u;exact⟨C5.wf (ZH h1 hy),Pu h2 hq h3 hz⟩
 | .own t e::r,_,tl,q,c::cs,vs,p,hq,⟨v,a0,_,h1,h3⟩,u=>by
  simp only[Ca,bind_some,qK]at u;obtain⟨l,hl,z,hz,rfl⟩:=u;obtain⟨xs,o1,o2,_⟩:=KO h2 h1 hl;exact⟨C5.wf (Bn (Z:=fun _=>True) o1 (o2.mono fun _ _=>C5.mono (fun _ _=>trivial) (fun _ _=>rfl)) (fun _ _=>trivial)),Pu h2 hq h3 hz⟩
def nP (u:B8 za w0 st2 E w Z B):∀ {l:List (Nat×LT)} {x:gD l},A0b st2 l=some x->B1q l x
 | [],_,_=>trivial
 | (k,t)::r,x,hp=>by
  simp only[A0b,bind_some,qK]at hp;obtain⟨l,hl,z,hz,rfl⟩:=hp;exact⟨(GL u hl).2.2,nP u hz⟩
def mI {A:CP} {p:A.den} {a1:St} (a4:za.b0=0) (h:B8 za w0 st E w Z B) (hg:gath A st=some (a1,p)) (pk:A6t za.n st0) (hS:∀s∈A.keepS,a1.eS s=st0.eS s) (hL:∀k∈A.keepL,a1.eL k=st0.eL k) (hR:∀y∈A.rowL,y.1<st0.nx) (hF:a1.fr=st0.fr):
 A.wf p/\∃Z' B',B8 za w0 (reflect A st0 p) E w Z' B':=by
 simp only[gath,qG,bind_some]at hg;obtain⟨a2,_,cs,a0,tl,a6,p',hp,hg⟩:=hg;obtain⟨u,hg⟩:=D4 hg;cases hg;simp only[qC,tP]at u;obtain⟨u,aa⟩:=u;obtain⟨Z0,h0⟩:=h.plugL a4 (l:=A.rowL);obtain⟨Z1,h2⟩:=B8.settleSh (shs:=A.shs) (cs:=a2) h0;generalize settleSh (plugL A.rowL st) A.shs a2=st2 at*;have u:=Ig u;simp only[CP.cells,bind_some]at a0;obtain⟨cb,a9,a0⟩:=a0;obtain⟨vb,a7,a8⟩:=WQ h2 a9;obtain⟨vs,a5,ab⟩:=WR h2 a7 a0;refine⟨Pu h2 (nP h2 a6) a5 hp, ?_⟩;have c0:=B0f h2 pk hS hL hF;have a3:∀y∈A.rowL,y.1<A0s A.boxL st0.nx:=fun y hy=>rG (hR y hy) (Mz _ _)
 rw[sX]at u;obtain⟨n1,n2,n3⟩:=u;rw[sX]at n2;obtain⟨n4,n5,n6⟩:=n2;rw[sX]at n5;obtain⟨n7,n8,n9⟩:=n5;obtain⟨BX,g1,g2,g3,g4,g5,g6⟩:=Xc a4 h2 c0 a5 hp (fun q hq hk=>n3 q hk q (by simp[hq]) rfl) n4 (fun c hc k hk=>by
  have:=aa _ hc;cases c with
  |fix k'=>
   cases hk;simp only[A2u,xJ]at this;obtain⟨y,hy,hb⟩:=this;have:=qE hb;subst this;exact⟨a3 y hy,rfl⟩
  |fixB k'=>
   cases hk;simp only[A2u,xJ]at this;obtain⟨y,hy,hb⟩:=this;have:=qE hb;subst this;exact⟨TT y hy,rfl⟩
  | _=>cases hk)
 have hB:∀k,k<A0s A.boxL st0.nx->BX k=B k:=g4;have q1:=SZ h2 hB (x:=(placeSh A.shs p (kept A st0)).2.2) g1 g5 (by rw[g6];exact a6) a3 (fun y hy hh=>by
  rcases rF.1 hh with hh|hh
  . exact n6 y.1 hh y.1 (by simp only[rF,tG];exact .inl ⟨y,hy,rfl⟩) rfl
  . exact n3 y.1 hh y.1 (by simp only[rF,tG];exact .inr (.inl ⟨y,hy,rfl⟩)) rfl) n7
 have q2:=nH (l:=A.modS) q1.1 g2 ab (by rw[q1.2];exact g3);refine⟨Z1,BX, ?_⟩;exact nG h2 hB q2.1 (by rw[q2.2.2.2,q1.2];exact g5) q2.2.1 a8 (by rw[q2.2.2.2];exact q2.2.2.1) (fun y hy=>TT y hy) (fun y hy hh=>by
  rcases rF.1 hh with hh|hh
  . exact n9 y.1 hh y.1 (vE hy) rfl
  . rcases rF.1 hh with hh|hh
    . exact n6 y.1 hh y.1 (by simp only[rF,tG];exact .inr ⟨y,hy,rfl⟩) rfl
    . exact n3 y.1 hh y.1 (by simp only[rF,tG];exact .inr (.inr ⟨y,hy,rfl⟩)) rfl) n8
end
def addA (st:St) (d:Tmp) (lc:LC) (mk:Nat->C):St:=(st.newL lc).setS d (one1 (mk st.nx))
def IN (cx:Cx) (st:St) (d:Tmp):Op->Option (Option Prop×LC×(Nat->C))
 | .alloc T=>do
  let ti<-cx.ti T
  some (none, .box T (Yx ti.ty),fun k=> .box k 0)
 | .makeSlice T lo u=>do
  let ti<-cx.ti T
  let t<-slT ti.ty
  let l<-aH st lo
  let c<-aH st u
  bif ti.nest.any (Nat.beq d)then do
   let t2<-cx.ti ti.elem
   bif HB t then some (some (0<=l/\l<=c/\(ti.bytes:Int)*c<=281474976710656/\c<=9223372036854775807), .nest t ti.elem t2.elem (List.replicate l.toNat t.dflt) [] (Oa t l.toNat), .row)else none
  else bif !ti.rows&&Pe t then some (some (0<=l/\l<=c/\(ti.bytes:Int)*c<=281474976710656/\c<=9223372036854775807), .row t ti.elem (List.replicate l.toNat t.dflt), .row)else none
 | _=>none
def A1m (lc:LC) (mk:Nat->C) (X:Obj) (f:Nat->Value):Prop:=
 ∀(za:Zn) (w0 w:World) (st:St) (E:G1) (Z:Nat->Prop) (B:Nat->Value) (d b:Nat),B8 za w0 st E w Z B->w.heap[b]? =some X->w0.heap.size<=b->¬Z b->(∀k,¬A9 w (B k) (st.L k) b)->za.b0<=b->
  B8 za w0 (addA st d lc mk) (upd E d (f b)) w Z (upd B st.nx (f b))/\∀c,A9 w (f b) lc c->c=b
section
variable {za:Zn} {w0 w w':World} {st:St} {E:G1} {Z:Nat->Prop} {B:Nat->Value} {cx:Cx} {d:Tmp} {φ:Option Prop}
def B9.addA (st:St) (d:Tmp) (lc:LC) (mk:Nat->C):B9 st (addA st d lc mk):=(B9.newL _ _).trans (B9.setS _ _ _)
def A5b {base b e sz n c:Nat} {cs:Array Value} (hb:w.heap[b]? =some (.cells cs e (0,0))) (h0:base<=b) (u:cs.size=c*sz) (a0:n<=c) (hm:c<=maxLen):w.ownsRow base e sz (.slice (some ⟨b,0,none⟩) n c) n (cs.toList.take (n*sz)):=by
 refine⟨?_, .inr ⟨b,c,cs,rfl,h0,hb,a0,hm,u,rfl⟩⟩;rw[qU,sM,u];exact sV (rI _ a0)
def oA {op:Op} {lc:LC} {mk:Nat->C} (h:B8 za w0 st E w Z B) (hty:G5 cx.P cx.tys=true) (ha:IN cx st d op=some (φ,lc,mk)) (ah:MB φ):
 ∃(X:Obj) (f:Nat->Value),(∀ty w',Gw.D8 cx.P E ty op w' (f w'.heap.size) (w'.alloc X))/\A1m lc mk X f:=by
 unfold IN at ha;split at ha
 . simp only[qG,bind_some]at ha;obtain⟨ti,ac,ha⟩:=ha;cases ha;obtain⟨z,hz,a1⟩:=Fa (M9 (B7 hty ac)).2.2;rename_i T;refine⟨.cells z.cells T,fun b=> .pointer (some ⟨b,0,none⟩),fun ty w'=>nV hz,fun za w0 w st E Z B d b h hb h0 a6 hf a3=> ?_⟩;have h3:=Bt (w:=w) (Z:=Z) (B:=B) (n:=st.nx) (Dl ti.ty);have ab:∀c,A9 w (.pointer (some ⟨b,0,none⟩)) (.box T (Yx ti.ty)) c->c=b:=fun c hc=>by
    simp only[A9,root,qZ]at hc;exact hc.symm
   have h2:=h.new (v:= .pointer (some ⟨b,0,none⟩)) (lc:= .box T (Yx ti.ty)) ⟨b,z.cells,C3 _ _ _, .inl ⟨h.nms.2,h0⟩,a6,hb,
    Ct.mono (n:=st.nx) (fun _=>id) (fun _ _=>rfl) (fun k hk=>C4 _ _ _ _ (tZ hk)) h3.2 (by rw[a1];exact h3.1)⟩
    (fun k c hc hc'=>hf k (ab c hc▸hc')) (fun c hc=>(h3.2 c hc).le (uK _)) rfl (fun c _ hc=>by rw[ab c hc];exact a3)
   refine⟨h2.setS d (x:=one1 (.box st.nx 0)) ⟨_,[],rfl,⟨b,C3 _ _ _,rfl⟩,rfl⟩ (fun c hc=> ?_),ab⟩;simp at hc;subst hc;exact rV _
 . rename_i T lo co;simp only[qG,bind_some]at ha;obtain⟨ti,ac,t,ht,l,hl,c,hc,ha⟩:=ha;have ht:=Io ht;have key:∀ {φ':Option Prop},MB (some (0<=l/\l<=c/\(ti.bytes:Int)*c<=281474976710656/\c<=9223372036854775807))->∃z:Value,z.cells.toList=Dl t/\z.cells.size=t.size/\l.toNat<=c.toNat/\c.toNat<=maxLen/\∀ty w',Gw.D8 cx.P E ty (.makeSlice T lo co) w' (.slice (some ⟨w'.heap.size,0,none⟩) l.toNat c.toNat) (w'.alloc (.cells (madeCells z.cells (c.toNat*t.size)) ti.elem)):=by
    intro _ ⟨f1,f2,f3,f4⟩;obtain⟨i,z,hu,hi,hz,ai,a1,a8,hb,am⟩:=Jx (B7 hty ac) ht;obtain⟨k1,e1,_⟩:=h.int (E8 E) hl;obtain⟨k2,e2,_⟩:=h.int (E8 E) hc;refine⟨z,a1,a8,by omega,by simp only[maxLen];omega,fun ty w'=> ?_⟩;have ae:=run_make (P:=cx.P) w' T ti.elem i z hu hi hz k1 k2 l c f1 f2 (by rw[hb];exact f3) f4;rw[<-ai];exact fun _ _ _ _=>by simp[execOp,e1,e2,ae]
   cases hn:ti.nest.any (Nat.beq d)with
   |true=>
    simp only[hn,qP,qG,bind_some]at ha;obtain⟨t2,_,ha⟩:=ha;cases a2:HB t with
    |false=>simp only[a2,rC]at ha;cases ha
    |true=>
     simp only[a2,qP]at ha;cases ha;obtain⟨z,a1,a8,aa,hm,hy⟩:=key (φ':=none) ah;obtain⟨af,u,ag⟩:=YH a2;rw[af]at a8 hy;refine⟨_,fun b=> .slice (some ⟨b,0,none⟩) l.toNat c.toNat,hy,fun za w0 w st E Z B d b h hb h0 a6 hf a3=> ?_⟩;generalize a9:madeCells z.cells (c.toNat*1)=cs at hb;have a4:cs.size=c.toNat*1:=by rw[<-a9];simp[madeCells]
     have a7:=A5b (sz:=1) hb h0 a4 aa hm;have ad:∀x∈cs.toList.take (l.toNat*1),x=u:=fun x hx=>by
      have hx:=sL hx;rw[<-a9]at hx;simp only[madeCells,g1c,tG]at hx;obtain⟨j,_,rfl⟩:=hx;have aj:z.cells.toList= [u]:=a1.trans ag;have ak:z.cells= #[u]:=by rw[<-uN (xs:=z.cells),aj]
      rw[ak];simp[Nat.mod_one]
     obtain⟨z1,z2⟩:=YI a2 ag.symm;obtain⟨g1,g2⟩:=h.newNestE d (t:=t) (e':=t2.elem) (dd:=Oa t l.toNat) a7 (fun j x hx=>by
      have:=ad x (sO hx);subst this;have hj:j<l.toNat:=by have:=(sS.1 hx).1;rw[qU]at this;omega
      exact⟨z1,z2 _ _ _ j _ hj⟩) (fun b' a0=>by
      simp only[Value.ownBlock,qZ]at a0;subst a0;exact⟨a6,hf⟩) (fun b' _ a0=>by simp only[Value.ownBlock,qZ]at a0;subst a0;exact a3)
     exact⟨g1,fun c' hc'=>by have:=g2 c' hc';simp only[Value.ownBlock,qZ]at this;exact this.symm⟩
   |false=>
    simp only[hn,rC]at ha;cases hd: !ti.rows&&Pe t with
    |false=>simp only[hd,rC]at ha;cases ha
    |true=>
     simp only[hd,qP]at ha;cases ha;simp only[qC]at hd;obtain⟨z,a1,a8,aa,hm,hy⟩:=key (φ':=none) ah;refine⟨_,fun b=> .slice (some ⟨b,0,none⟩) l.toNat c.toNat,hy,fun za w0 w st E Z B d b h hb h0 a6 hf a3=> ?_⟩;have a5:F2 (C5 t w Z) ((madeCells z.cells (c.toNat*t.size)).toList.take (l.toNat*t.size)) (List.replicate l.toNat t.dflt):=JX a1 hd.2 a8 _ _ aa;generalize a9:madeCells z.cells (c.toNat*t.size)=cs at hb a5;have a4:cs.size=c.toNat*t.size:=by rw[<-a9];simp[madeCells]
     have a7:=A5b hb h0 a4 aa hm;refine⟨h.newRowE d (t:=t) (e:=ti.elem) (l:=List.replicate l.toNat t.dflt) (by rw[rE];exact a7) a5 (fun b' a0=>by
      simp only[Value.ownBlock,qZ]at a0;subst a0;exact⟨a6,hf⟩) (fun b' _ a0=>by simp only[Value.ownBlock,qZ]at a0;subst a0;exact a3),fun c' hc'=> ?_⟩
     have:=hc';simp only[A9,root,qZ]at this;exact this.symm
 . cases ha
end
def CC (cx:Cx) (all:List Oper) (st0:St):List Nat->(St->Prop)->St->Prop
 | [],k=>k
 |i::r,k=>fun st=>match all[i]? with
  |some o=>match IN cx st0 (Fb all i) o.op with
   |some (φ,lc,mk)=>VL φ (CC cx all st0 r k (addA st (Fb all i) lc mk))
   |none=>False
  |none=>False
def lG (all:List Oper) (f:Nat->Nat->Value) (bl:Nat->Nat):List Nat->G1->G1
 | [],E=>E
 |i::r,E=>lG all f bl r (upd E (Fb all i) (f i (bl i)))
section
variable {za:Zn} {w0 w w':World} {Z:Nat->Prop} {cx:Cx} {all:List Oper} {st0:St} {k k':St->Prop} {f:Nat->Nat->Value} {X:Nat->Obj} {bl:Nat->Nat}
def YQ:∀ {ls:List Nat} {st:St},CC cx all st0 ls k st->∀i∈ls,∃o φ lc mk,all[i]? =some o/\IN cx st0 (Fb all i) o.op=some (φ,lc,mk)/\MB φ
 | [],_,_,_,h=>by cases h
 |i::r,st,u,j,hj=>by
  simp only[CC]at u;split at u
  . rename_i o ho;split at u
    . rename_i φ lc mk ha;obtain⟨h1,h2⟩:=D3.1 u;rcases qV.1 hj with rfl|hj
      . exact⟨o,φ,lc,mk,ho,ha,h1⟩
      . exact YQ h2 j hj
    . exact u.elim
  . exact u.elim
def TK:∀ {ls:List Nat} {st:St},CC cx all st0 ls k st->(∀st',B9 st st'->k st'->k' st')->CC cx all st0 ls k' st
 | [],st,h,u=>u st (B9.refl st) h
 |i::r,st,h,u=>by
  simp only[CC]at h⊢;split at h
  . split at h
    . exact D3.2 ⟨(D3.1 h).1,TK (D3.1 h).2 fun st' e hh=>u st' ((B9.addA _ _ _ _).trans e) hh⟩
    . exact h
  . exact h
def EO {x:Nat} :∀ {l:List Nat} {E:G1},x∉Ao all l->lG all f bl l E x=E x
 | [],_,_=>rfl
 |i::l,E,h=>by
  simp only[Ao,rY,qV,not_or]at h;simp only[lG];rw[EO h.2,C4 _ _ _ _ h.1]
def gY {i:Nat} :∀ {l:List Nat} {E:G1},(Ao all l).Nodup->i∈l->lG all f bl l E (Fb all i)=f i (bl i)
 | [],_,_,h=>by cases h
 |j::l,E,u,h=>by
  simp only[Ao,rY]at u;obtain⟨h1,h2⟩:=sQ.1 u;simp only[lG];by_cases hi:i∈l
  . exact gY h2 hi
  . rcases qV.1 h with rfl|h
    . rw[EO h1,C3]
    . exact absurd h hi
def gL:∀ {ls:List Nat} {st:St} {E:G1} {B:Nat->Value},B8 za w0 st E w Z B->(∀i∈ls,∀o φ lc mk,all[i]? =some o->IN cx st0 (Fb all i) o.op=some (φ,lc,mk)->A1m lc mk (X i) (f i))->
 (∀i∈ls,w.heap[bl i]? =some (X i)/\w0.heap.size<=bl i/\¬Z (bl i)/\za.b0<=bl i/\∀k,¬A9 w (B k) (st.L k) (bl i))->(∀i∈ls,∀j∈ls,i≠j->bl i≠bl j)->ls.Nodup->CC cx all st0 ls k st->∃st' B',B8 za w0 st' (lG all f bl ls E) w Z B'/\k st'
 | [],st,E,B,h,_,_,_,_,u=>⟨st,B,h,u⟩
 |i::r,st,E,B,h,ht,hb,a1,hn,u=>by
  simp only[CC]at u;obtain⟨n1,n2⟩:=sQ.1 hn;split at u
  . rename_i o ho;split at u
    . rename_i φ lc mk ha;obtain⟨_,u⟩:=D3.1 u;obtain⟨b1,b2,b3,b4,b5⟩:=hb i (rL);obtain⟨g1,g2⟩:=ht i rL o φ lc mk ho ha za w0 w st E Z B (Fb all i) (bl i) h b1 b2 b3 b5 b4;refine gL (ls:=r) (E:=upd E (Fb all i) (f i (bl i))) g1 (fun j hj=>ht j (qM _ hj)) (fun j hj=> ?_) (fun a ha b hb=>a1 a (qM _ ha) b (qM _ hb)) n2 u;obtain⟨c1,c2,c3,c4,c5⟩:=hb j (qM _ hj);refine⟨c1,c2,c3,c4,fun q hq=> ?_⟩;have hL:(addA st (Fb all i) lc mk).L q=(st.newL lc).L q:=rfl;rw[hL,St.L_newL]at hq;by_cases a0:q=st.nx
      . subst a0;rw[rB rfl,C3]at hq;exact a1 i rL j (qM _ hj) (fun e=>n1 (e▸hj)) (g2 _ hq).symm
      . rw[qT a0,C4 _ _ _ _ a0]at hq;exact c5 q hq
    . exact u.elim
  . exact u.elim
def YP:∀(l:List Nat) (E:G1) (w:World),l.Nodup->(Ao all l).Nodup->R0 w (Fc all f X l E w).2/\∃bl:Nat->Nat,(∀i∈l,w.heap.size<=bl i/\(Fc all f X l E w).2.heap[bl i]? =some (X i)/\(Fc all f X l E w).1 (Fb all i)=f i (bl i))/\∀i∈l,∀j∈l,i≠j->bl i≠bl j
 | [],_,w,_,_=>⟨R0.refl w,fun _=>0,by simp,by simp⟩
 |i::r,E,w,hn,hd=>by
  obtain⟨n1,n2⟩:=sQ.1 hn;simp only[Ao,rY]at hd;obtain⟨d1,d2⟩:=sQ.1 hd;obtain⟨h1,bl,h2,h3⟩:=YP r (upd E (Fb all i) (f i w.heap.size)) (w.alloc (X i)) n2 d2;have hx:R0 w (w.alloc (X i)):=R0.alloc w _;have a1:(w.alloc (X i)).heap.size=w.heap.size+1:=Array.size_push ..;simp only[Fc];refine⟨hx.trans h1,fun j=>if j=i then w.heap.size else bl j,fun j hj=> ?_,fun a ha b hb hab=> ?_⟩
  . rcases qV.1 hj with rfl|hj
    . have he:(if j=j then w.heap.size else bl j)=w.heap.size:=rB rfl;show w.heap.size<=(if j=j then w.heap.size else bl j)/\(Fc all f X r _ _).2.heap[if j=j then w.heap.size else bl j]? = _ /\ _=f j (if j=j then w.heap.size else bl j);rw[he];refine⟨rA _, ?_,by rw[Hp _ _ _ d1,C3]⟩;rw[h1.block _ (by rw[a1];exact rV _)];exact heap_alloc_new w _
    . have:j≠i:=fun e=>n1 (e▸hj)
      simp only[qT this];obtain⟨g1,g2,g3⟩:=h2 j hj;exact⟨by omega,g2,g3⟩
  . simp only;have hr:∀q,q∈i::r->q≠i->q∈r:=fun q hq hqi=>(qV.1 hq).resolve_left hqi
    by_cases u:a=i
    . rw[rB u,qT (fun e=>hab (u.trans e.symm))];have:=(h2 b (hr b hb (fun e=>hab (u.trans e.symm)))).1;omega
    . rw[qT u];by_cases a0:b=i
      . rw[rB a0];have:=(h2 a (hr a ha u)).1;omega
      . rw[qT a0];exact h3 a (hr a ha u) b (hr b hb a0) hab
end
structure K where
 n:St->Prop
 x:Nat->St->Prop
 r:St->Prop
def K.at (k:K):Exit->St->Prop
 | .normal=>k.n
 | .exit i=>k.x i
 | .ret=>k.r
 | _=>fun _=>False
structure An where
 join:List (Nat×CP):= []
 loop:List (Nat×CP):= []
 plan:List (Nat×List Nat×List Nat×Bool×Pl):= []
def fE:Code->Option Nat
 | .region id _ _=>some id
 | .seq a b=>match fE a with
  |some i=>some i
  |none=>fE b
 | .cond _ a b=>match fE a with
  |some i=>some i
  |none=>fE b
 | .block _ c=>fE c
 | .loop c=>fE c
 | _=>none
def A9o (l:List (Nat×CP)):Option Nat->Option CP
 |some i=>Fh i l
 |none=>none
def B4i (A:CP) (st:St) (u:(St->Prop)->Prop) (rest:St->Prop):Prop:=
 ∃J:A.den->Prop,u (IY A st J)/\∀p,A.wf p->J p->rest (reflect A st p)
def A9y (A:CP) (st:St) (a0:(St->Prop)->St->Prop):Prop:=
 match gath A st with
 |some (u,p0)=>bif(A.rowL.all fun x=>Nat.blt x.1 u.nx)&&(A.boxL.all fun x=>Nat.blt x.1 u.nx)then
  (∃(I:A.den->Prop) (μ:A.den->Nat),I p0/\∀p,A.wf p->I p->a0 (IY A u fun p'=>I p'/\μ p'<μ p) (reflect A u p))else False
 |none=>False
def Mx (cx:Cx) (all:List Oper) (o:Oper) (k:St->Prop) (st:St):Prop:=
 match o.guard with
 |none=>match Xe cx st [] o.op with
  |some (φ,v)=>match o.dst with
   |some d=>VL φ (k (st.setS d v))
   |none=>False
  |none=>match o.op with
   | .load T x=>match o.dst with
    |some d=>(match XR cx st d T x with
     |some st'=>k st'
     |none=>False)
    |none=>False
   | _=>False
 |some (j,b)=>match(all[j]?).bind (·.dst)with
  |some t=>bif Mm st 20 t then(match o.dst with
   |some d=>bif !(Nat.beq t d)then(match Xe cx st (gctx st 20 t b) o.op with
    |some (φ, .one s)=>bif s.cs.all (A5p st.nx)then VL (A7q (ctxP st (gctx st 20 t b)) φ) (k (st.setS d (.cnd t b s)))else False
    | _=>False)else False
   |none=>False)else False
  |none=>False
def MI (cx:Cx) (all:List Oper):List Nat->(St->Prop)->St->Prop
 | [],k=>k
 |j::r,k=>fun st=>match all[j]? with
  |some o=>bif !(A4j o.op)&&A9a (YF all j) (Ao all (j::r))then Mx cx all o (MI cx all r k) st else False
  |none=>False
def O6 (cx:Cx) (sp:H2) (all:List Oper) (tails:List Nat) (n0:Nat) (nw:Bool):Pl->Bool->Bool->(St->Prop)->St->Prop
 | .done,_,_,k=>k
 | .q i p,pre,t,k=>fun st=>match all[i]? with
  |some o=>bif pre|| !nw then Mx cx all o (O6 cx sp all tails n0 nw p pre t k) st else False
  |none=>False
 | .p i p,pre,t,k=>fun st=>match all[i]? with
  |some o=>bif !(A4j o.op)then Mx cx all o (O6 cx sp all tails n0 nw p pre t k) st else False
  |none=>False
 | .e i p,_,t,k=>fun st=>match all[i]? with
  |some o=>bif((t||tails.contains i) || !(VC sp st o) || (nw&&frO n0 st o.op))&&(!nw||bA sp n0 st o.op)then CD cx sp all o (O6 cx sp all tails n0 nw p false (t||tails.contains i) k) st else False
  |none=>False
 | .or i p q,pre,t,k=>fun st=>
  (match all[i]? with
  |some o=>bif((t||tails.contains i) || !(VC sp st o) || (nw&&frO n0 st o.op))&&(!nw||bA sp n0 st o.op)then CD cx sp all o (O6 cx sp all tails n0 nw p false (t||tails.contains i) k) st else False
  |none=>False)/\O6 cx sp all tails n0 nw q pre t k st
 | .al is js p,_,t,k=>fun st=>bif nZ all is js then CC cx all st is (MI cx all js (O6 cx sp all tails n0 nw p false t k)) st else False
def Mg (cx:Cx) (sp:H2) (an:An):Code->K->St->Prop
 | .skip,k=>k.n
 | .label _,k=>k.n
 | .region id ops u,k=>fun st=>bif u then(match Fh id an.plan with
  |some (heads,tails,nw,p)=>bif A9t ops.toList heads tails p&&cx.P.follows .mixedOrders then O6 cx sp ops.toList tails st.nx nw p true false k.n st else False
  |none=>False)else TM cx sp ops.toList ops.toList k.n st
 | .seq a b,k=>fun st=>match A9o an.join (fE b)with
  |some A=>B4i A st (fun j=>Mg cx sp an a {k with n:=j} st) (Mg cx sp an b k)
  |none=>Mg cx sp an a {k with n:=Mg cx sp an b k} st
 | .cond c a b,k=>fun st=>match(st.ev [] c).bind LJ with
  |some e=>(e=true->Mg cx sp an a k st)/\(e=false->Mg cx sp an b k st)
  |none=>False
 | .block id c,k=>Mg cx sp an c {k with x:=fun i st=>bif Nat.beq i id then k.n st else k.x i st}
 | .loop c,k=>fun st=>match A9o an.loop (fE c)with
  |some A=>A9y A st fun j=>Mg cx sp an c {k with n:=j}
  |none=>False
 | .exit i,k=>k.x i
 | .ret,k=>k.r
 | _,_=>fun _=>False
section
variable {za:Zn} {w0:World} {cx:Cx} {sp:H2} {an:An} {all:List Oper}
def Sp {o:Oper} {k k':St->Prop} {st:St} (h:Mx cx all o k st) (u:∀st',B9 st st'->k st'->k' st'):Mx cx all o k' st:=by
 unfold Mx at h⊢;split at h
 . split at h
   . split at h
     . exact D3.2 ⟨(D3.1 h).1,u _ (B9.setS _ _ _) (D3.1 h).2⟩
     . exact h
   . split at h
     . split at h
       . split at h
         . rename_i hl;exact u _ (XS hl) h
         . exact h
       . exact h
     . exact h
 . split at h
   . obtain⟨hf,h⟩:=B4 h;simp only[hf,qP];split at h
     . obtain⟨a1,h⟩:=B4 h;simp only[a1,qP];split at h
       . obtain⟨a0,h⟩:=B4 h;simp only[a0,qP];exact D3.2 ⟨(D3.1 h).1,u _ (B9.setS _ _ _) (D3.1 h).2⟩
       . exact h
     . exact h
   . exact h
def TN:∀ {ls:List Nat} {k k':St->Prop} {st:St},MI cx all ls k st->(∀st',B9 st st'->k st'->k' st')->MI cx all ls k' st
 | [],_,_,st,h,u=>u st (B9.refl st) h
 |j::r,_,_,st,h,u=>by
  simp only[MI]at h⊢;split at h
  . obtain⟨hp,h⟩:=B4 h;simp only[hp,qP];exact Sp h fun a0 e1 h1=>TN h1 fun st2 e2 h2=>u st2 (e1.trans e2) h2
  . exact h
def Ak {tails:List Nat} {n0:Nat} {nw:Bool} :∀ {p:Pl} {pre t:Bool} {k k':St->Prop} {st:St},O6 cx sp all tails n0 nw p pre t k st->(∀st',B9 st st'->k st'->k' st')->O6 cx sp all tails n0 nw p pre t k' st
 | .done,_,_,_,_,st,h,u=>u st (B9.refl st) h
 | .q i p,pre,t,_,_,st,h,u=>by
  simp only[O6]at h⊢;split at h
  . obtain⟨hp,h⟩:=B4 h;simp only[hp,qP]at h⊢;exact Sp h fun a0 e1 h1=>Ak h1 fun st2 e2 h2=>u st2 (e1.trans e2) h2
  . exact h
 | .p i p,pre,t,_,_,st,h,u=>by
  simp only[O6]at h⊢;split at h
  . obtain⟨hp,h⟩:=B4 h;simp only[hp,qP];exact Sp h fun a0 e1 h1=>Ak h1 fun st2 e2 h2=>u st2 (e1.trans e2) h2
  . exact h
 | .e i p,pre,t,_,_,st,h,u=>by
  simp only[O6]at h⊢;split at h
  . obtain⟨hp,h⟩:=B4 h;simp only[hp,qP];exact EK h fun a0 e1 h1=>Ak h1 fun st2 e2 h2=>u st2 (e1.trans e2) h2
  . exact h
 | .or i p q,pre,t,_,_,st,h,u=>by
  simp only[O6]at h⊢;refine⟨?_,Ak h.2 u⟩;have h:=h.1;split at h
  . obtain⟨hp,h⟩:=B4 h;simp only[hp,qP];exact EK h fun a0 e1 h1=>Ak h1 fun st2 e2 h2=>u st2 (e1.trans e2) h2
  . exact h
 | .al is js p,pre,t,_,_,st,h,u=>by
  simp only[O6]at h⊢;obtain⟨hp,h⟩:=B4 h;simp only[hp,qP];exact TK h fun a0 e1 h1=>TN h1 fun st2 e2 h2=>Ak h2 fun a1 e3 h3=>u a1 (e1.trans (e2.trans e3)) h3
def B9.told (A:CP) (st0:St) (p:A.den):B9 st0 (Vc.reflect A st0 p):=
 ⟨qW (uK _) (B9.reflect A st0 p).ct,fun _ u h1=>gC u h1,fun _ u h1=>bK u h1,(B9.reflect A st0 p).f.le (uK _)⟩
def B9.gath {A:CP} {st u:St} {p:A.den} (h:gath A st=some (u,p)):B9 st u:=by
 simp only[Vc.gath,qG,bind_some]at h;obtain⟨a0,_,cs,_,tl,_,p',_,h⟩:=h;obtain⟨_,h⟩:=D4 h;cases h;exact(B9.plugL _ _).trans (B9.settleSh _ _ _)
def KR:∀ {c:Code} {k k':K} {st:St},Mg cx sp an c k st->(∀e st',B9 st st'->k.at e st'->k'.at e st')->Mg cx sp an c k' st:=by
 intro c
 induction c with
 |skip=>intro k k' st h u;exact u .normal st (B9.refl st) h
 |label l=>intro k k' st h u;exact u .normal st (B9.refl st) h
 |region id ops a3=>
  intro k k' st h u;simp only[Mg]at h⊢;cases a3 with
  |true=>
   simp only[qP]at h⊢;split at h
   . obtain⟨hp,h⟩:=B4 h;simp only[hp,qP];exact Ak h fun st' e=>u .normal st' e
   . exact h
  |false=>
   simp only[rC]at h⊢;exact MH h fun st' e=>u .normal st' e
 |seq a b a1 a2=>
  intro k k' st h u;simp only[Mg]at h⊢;split at h
  . rename_i A _;obtain⟨J,h1,h2⟩:=h;refine⟨J,a1 h1 fun e st' ev hh=> ?_,fun p hw hJ=>a2 (h2 p hw hJ) fun e st' ev hh=> ?_⟩
    . cases e with
      |normal=>exact hh
      |exit i=>exact u (.exit i) st' ev hh
      |ret=>exact u .ret st' ev hh
      | _=>exact hh
    . exact u e st' ((B9.told A st p).trans ev) hh
  . refine a1 h fun e a0 e1 hh=> ?_
    cases e with
    |normal=>exact a2 hh fun e st2 e2 h2=>u e st2 (e1.trans e2) h2
    |exit i=>exact u (.exit i) a0 e1 hh
    |ret=>exact u .ret a0 e1 hh
    | _=>exact hh
 |cond c a b a1 a2=>
  intro k k' st h u;simp only[Mg]at h⊢;split at h
  . exact⟨fun e=>a1 (h.1 e) u,fun e=>a2 (h.2 e) u⟩
  . exact h
 |block id c ih=>
  intro k k' st h u;simp only[Mg]at h⊢;refine ih h fun e st' ev hh=> ?_
  cases e with
  |exit i=>
   simp only[K.at]at hh⊢;cases hb:Nat.beq i id with
   |true=>simp only[hb,qP]at hh⊢;exact u .normal st' ev hh
   |false=>simp only[hb,rC]at hh⊢;exact u (.exit i) st' ev hh
  |normal=>exact u .normal st' ev hh
  |ret=>exact u .ret st' ev hh
  | _=>exact hh
 |loop c ih=>
  intro k k' st h u;simp only[Mg]at h⊢;split at h
  . rename_i A _;unfold A9y at h⊢;split at h
    . rename_i a0 p0 hg;obtain⟨hb,h⟩:=B4 h;simp only[hb,qP];obtain⟨I,μ,h0,h1⟩:=h;refine⟨I,μ,h0,fun p hw hI=>ih (h1 p hw hI) fun e st' ev hh=> ?_⟩;cases e with
      |normal=>exact hh
      |exit i=>exact u (.exit i) st' ((B9.gath hg).trans ((B9.told A a0 p).trans ev)) hh
      |ret=>exact u .ret st' ((B9.gath hg).trans ((B9.told A a0 p).trans ev)) hh
      | _=>exact hh
    . exact h
  . exact h
 |exit i=>intro k k' st h u;exact u (.exit i) st (B9.refl st) h
 |ret=>intro k k' st h u;exact u .ret st (B9.refl st) h
 | _=>intro k k' st h u;exact h
def WL {A:CP} (a0:za.b0=0) {st0 st:St} {J:A.den->Prop} {E:G1} {w:World} {Z:Nat->Prop} {B:Nat->Value} (h:B8 za w0 st E w Z B) (u:IY A st0 J st) (pk:A6t za.n st0) (ev:B9 st0 st):∃p,A.wf p/\J p/\∃Z' B',B8 za w0 (reflect A st0 p) E w Z' B':=by
 unfold IY at u;split at u
 . rename_i a1 p hg;obtain⟨hk,u⟩:=B4 u;simp only[A3u,qC,tP]at hk;obtain⟨⟨⟨k1,k2⟩,k3⟩,k5⟩:=hk;have e1:=ev.trans (B9.gath hg);have tm:∀ {n g:Nat},aD n g=true->g≠0/\g<=n:=fun hh=>by
    simp only[aD,qC]at hh;have a:=qQ hh.1;have b:=qQ hh.2;omega
   obtain⟨hw,Z',B',hr⟩:=mI a0 h hg pk (fun s hs=>e1.s s (tm (k1 s hs)).1 (tm (k1 s hs)).2) (fun q hq=>e1.l q (tm (k2 q hq)).1 (tm (k2 q hq)).2) (fun y hy=>Vt (k3 y hy)) (e1.f.old k5);exact⟨p,hw,u,Z',B',hr⟩
 . exact u.elim
variable (hty:G5 cx.P cx.tys=true) (hsp:Rd cx.P sp)
include hty in
theorem EL {S:World->Prop} {o:Oper} {k:St->Prop} {st:St} {E:G1} {w:World} {Z:Nat->Prop} {B:Nat->Value} (hS:∀w',S w'->(A4j o.op=true->R0 w w')) (h:B8 za w0 st E w Z B) (hs:Mx cx all o k st):EJ cx.P S all o (Nx za w0 k) E w:=by
 obtain⟨a8,op,ty,pos,aft,gd⟩:=o;unfold Mx at hs;simp only at hs hS;split at hs
 . split at hs
   . rename_i φ v hp;split at hs
     . rename_i d;replace hs:=D3.1 hs;obtain⟨u,h1,h2,h3⟩:=Zy (ty:=ty) h hty (E8 E) hp hs.1;exact .inl ⟨rfl,u,fun w' a0=>h1 w' (hS w' a0) _ _ _ _,_,_,_,h.setS d (h2 _) h3,hs.2⟩
     . exact hs.elim
   . split at hs
     . rename_i T x _;split at hs
       . rename_i d;split at hs
         . rename_i st' hl;obtain⟨u,B',h1,h2⟩:=fF (ty:=ty) h hty hl;exact .inl ⟨rfl,u,fun w' a0=>h1 w' (hS w' a0 rfl) _ _ _ _,_,_,_,h2,hs⟩
         . exact hs.elim
       . exact hs.elim
     . exact hs.elim
 . rename_i j b;split at hs
   . rename_i t hj;have a6:=(B4 hs).1;replace hs:=(B4 hs).2;split at hs
     . rename_i d;have a4:=(B4 hs).1;replace hs:=(B4 hs).2;have a3:t≠d:=vB (by simpa using a4);split at hs
       . rename_i φ s hp;obtain⟨a7,hs⟩:=B4 hs;replace hs:=D3.1 hs;rw[eQ]at hs;by_cases hw:E t= .bool b
         . have a1:=h.gctx (n:=20) hw;obtain⟨u,h1,h2,h3⟩:=Zy (ty:=ty) h hty a1 hp (hs.1 (h.ctxP a1));refine .inl ⟨SR hj hw,u,fun w' a0=>h1 w' (hS w' a0) _ _ _ _,_,_,_,h.setS d (x:= .cnd t b s) (.inl ⟨?_,h2 E⟩) h3,hs.2⟩;rw[C4 _ _ _ _ a3];exact hw
         . have a2:D7 all ⟨some d,op,ty,pos,aft,some (j,b)⟩ E=false:=by
            unfold D7 Cs;simp only[hj];cases a5:E t with
            |bool b'=>simp only[vY,ne_eq,qZ];intro hh;exact hw (by rw[a5,hh])
            | _=>rfl
           refine .inr ⟨a2,_,_,_,h.setS d (x:= .cnd t b s) (.inr ⟨?_,rfl⟩) (fun c hc=>bJ (tP.1 a7 c hc)),hs.2⟩;rw[C4 _ _ _ _ a3];exact hw
       . exact hs.elim
     . exact hs.elim
   . exact hs.elim
theorem TD {P:Program} {S:World->Prop} {o:Oper} {n n':G1->World->Prop} {E:G1} {w:World} (h:EJ P S all o n E w) (hn:∀E',n E' w->n' E' w):EJ P S all o n' E w:=by
 rcases h with⟨h1,v,u,h3⟩ | ⟨h1,u⟩
 . exact .inl ⟨h1,v,u,hn _ h3⟩
 . exact .inr ⟨h1,hn _ u⟩
def RW (nw:Bool) (b0:Nat) (w w':World):Prop:=bif nw then(Below b0 w w'/\True)else R0 w w'
theorem RW.of {nw:Bool} {b0:Nat} {w w':World} (hb:b0<=w.heap.size) (h:R0 w w'):RW nw b0 w w':=by
 cases nw with
 |true=>exact⟨⟨h.os,h.tape,h.output,h.size,fun k u=>h.block k (rG u hb)⟩,h.drw⟩
 |false=>exact h
theorem RW.refl (nw:Bool) (b0:Nat) (w:World):RW nw b0 w w:=by
 cases nw with
 |true=>exact⟨Below.refl _ _,trivial⟩
 |false=>exact R0.refl _
theorem RW.trans {nw:Bool} {b0:Nat} {a b c:World} (h:RW nw b0 a b) (u:RW nw b0 b c):RW nw b0 a c:=by
 cases nw with
 |true=>exact⟨Below.trans h.1 u.1,trivial⟩
 |false=>exact R0.trans h u
include hty hsp in
theorem nT {nw tl:Bool} {n0:Nat} {k:St->Prop} {o:Oper} {st:St} {E:G1} {w:World} {Z:Nat->Prop} {B:Nat->Value} (a2:nw=true->za.k0=n0) (a5:nw=false->za.b0=0) (h:B8 za w0 st E w Z B)
 (hm:((tl|| !(VC sp st o) || (nw&&frO n0 st o.op))&&(!nw||bA sp n0 st o.op))=true) (u:CD cx sp all o k st):L3 cx.P all o (fun E' w'=>(tl=true\/RW nw za.b0 w w')/\Nx za w0 k E' w') E w:=by
 simp only[qC,uL,rN]at hm;obtain⟨hm,a0⟩:=hm;have a3:za.b0=0\/bA sp za.k0 st o.op=true:=by
  cases hn:nw with
  |false=>exact .inl (a5 hn)
  |true=>rw[hn]at a0;exact .inr (by rw[a2 hn];simpa using a0)
 rcases hm with(hm|hm) |hm
 . refine L5 ?_ (TL h a3 hty hsp u);rintro E' w' ⟨_,n⟩;exact⟨.inl hm,n⟩
 . refine L5 ?_ (TL h a3 hty hsp u);rintro E' w' ⟨hx,n⟩;exact⟨.inr (RW.of h.mrk.1 (hx hm)),n⟩
 . obtain⟨a8,hm⟩:=hm;subst a8;obtain⟨a4,op,ty,pos,aft,gd⟩:=o;have a6:=hm;unfold frO at hm;split at hm
   . rename_i T p v a1;simp only at a1;subst a1;unfold CD at u;simp only at u;cases gd with
     |none=>
      simp only[Xe]at u;cases a4 with
      |none=>
       simp only at u;have a7:Wm st (.store T p v)=false:=by
        rcases a0 with a0|a0
        . cases a0
        . simp only[bA,qC,rN]at a0;exact a0.2
       rw[fL a7]at u;simp only at u;split at u
       . rename_i φ st' a9;refine L5 ?_ (YU h hty a9 (D3.1 u).1 (D3.1 u).2 rfl);rintro E' w' ⟨hb,n⟩;exact⟨.inr (hb (by rw[a2 rfl];exact a6)),n⟩
       . exact u.elim
      |some d=>exact u.elim
     |some jb=>
      obtain⟨j,b⟩:=jb;simp only[Xe]at u;split at u
      . obtain⟨_,u⟩:=B4 u;split at u
        . obtain⟨_,u⟩:=B4 u;exact u.elim
        . exact u.elim
      . exact u.elim
   . cases hm
include hty in
theorem gM {k:St->Prop} :∀ {js:List Nat},(∀j∈js,bD all j=true)->(Ao all js).Nodup->∀ {st:St} {E:G1} {w:World} {Z:Nat->Prop} {B:Nat->Value},B8 za w0 st E w Z B->MI cx all js k st->∃F,(∀x,x∉Ao all js->F x=E x)/\AlV cx.P all js F/\Nx za w0 k F w
 | [],_,_,st,E,w,Z,B,h,hs=>⟨E,fun _ _=>rfl,fun _ hj=>(by cases hj),st,Z,B,h,hs⟩
 |j::r,a3,a2,st,E,w,Z,B,h,hs=>by
  simp only[MI]at hs;simp only[Ao,rY]at a2;obtain⟨n1,n2⟩:=sQ.1 a2;split at hs
  . rename_i o ho;obtain⟨hm,hs⟩:=B4 hs;simp only[qC,rN]at hm;obtain⟨a1,hg,a6⟩:=Xd (a3 j rL) ho;have a4:=KU hm.2;have hq:=EL (S:=fun _=>True) (all:=all) hty (fun w' _ hh=>by rw[hh]at hm;cases hm.1) h hs;have a0:D7 all o E=true:=by simp[D7,hg]
    rcases hq with⟨_,v,hv,a8,Z1,B1,h1,a7⟩ | ⟨hw,_⟩
    . rw[a1]at h1;obtain⟨F,g1,g2,g3⟩:=gM (fun i hi=>a3 i (qM _ hi)) n2 h1 a7;have a5:F (Fb all j)=v:=by rw[g1 _ n1];exact C3 _ _ _
      refine⟨F,fun x hx=> ?_,fun i hi=> ?_,g3⟩
      . simp only[Ao,rY,qV,not_or]at hx;rw[g1 x hx.2];exact C4 _ _ _ _ hx.1
      . rcases qV.1 hi with rfl|hi
        . refine⟨o,ho,fun w'=> ?_⟩;rw[a5,JQ (E:=F) (E':=E) ho a6 fun u hu=> ?_]
          . exact hv w' trivial
          . have hx:=a4 u hu;simp only[Ao,rY,qV,not_or]at hx;rw[g1 u hx.2];exact C4 _ _ _ _ hx.1
        . exact g2 i hi
    . rw[a0]at hw;cases hw
  . exact hs.elim
theorem RW.size {nw:Bool} {b0:Nat} {a b:World} (h:RW nw b0 a b):a.heap.size<=b.heap.size:=by
 cases nw with
 |true=>exact h.1.size
 |false=>exact(show R0 a b from h).size
include hty in
theorem A0h {nw:Bool} {is js:List Nat} {k:St->Prop} {st:St} {E:G1} {w:World} {Z:Nat->Prop} {B:Nat->Value} (a3:nZ all is js=true) (h:B8 za w0 st E w Z B) (hs:CC cx all st is (MI cx all js k) st):∃f X,A1e cx.P (RW nw za.b0) all is js f X (Nx za w0 k) E w:=by
 simp only[nZ,qC,tP]at a3;obtain⟨⟨⟨s1,s2⟩,s3⟩,s4⟩:=a3;have s2:=(sX.1 (Kn s2)).1;have s3:=Kn s3;have s3:(Ao all is++Ao all js).Nodup:=by simpa[Ao]using s3
 obtain⟨d1,d2,d3⟩:=sX.1 s3;have u:=YQ hs;have a5:∀i,∃x:Obj×(Nat->Value),i∈is->∀o φ lc mk,all[i]? =some o->IN cx st (Fb all i) o.op=some (φ,lc,mk)->(∀w',(execOp (ev E) o).run cx.P w'= .ok (.value (x.2 w'.heap.size)) (w'.alloc x.1))/\A1m lc mk x.1 x.2:=fun i=>by
  by_cases hi:i∈is
  . obtain⟨o,φ,lc,mk,ho,ha,a4⟩:=u i hi;obtain⟨X,f,g1,g2⟩:=oA h hty ha a4;refine⟨(X,f),fun _ o' φ' aa ab a2 a1=> ?_⟩;rw[ho]at a2;cases a2;rw[ha]at a1;cases a1;obtain⟨a9,op,ty,pos,aft,gd⟩:=o;exact⟨fun w'=>g1 ty w' _ _ _ _,g2⟩
  . exact⟨(.cells #[] 0 (0,0),fun _=>undef),fun hh=>absurd hh hi⟩
 obtain⟨g,hg⟩:=Classical.axiomOfChoice a5;refine⟨fun i=>(g i).2,fun i=>(g i).1,⟨fun i hi=> ?_,fun i hi w' hr=>RW.of (qW h.mrk.1 hr.size) (R0.alloc w' _),fun l hl=> ?_⟩⟩
 . obtain⟨o,φ,lc,mk,ho,ha,a4⟩:=u i hi;exact⟨o,ho,(hg i hi o φ lc mk ho ha).1⟩
 . have a7:l.Nodup:=hl.nodup_iff.2 s2;have a6:(Ao all l).Nodup:=(hl.map _).nodup_iff.2 d1;obtain⟨hx,bl,b1,b2⟩:=YP (f:=fun i=>(g i).2) (X:=fun i=>(g i).1) l E w a7 a6;have h1:=h.more (Z':=Z) hx (fun _=>id) (fun _=> .inl);obtain⟨ac,B1,h2,h3⟩:=gL (f:=fun i=>(g i).2) (X:=fun i=>(g i).1) (bl:=bl) h1 (fun i hi o φ lc mk ho ha=>(hg i hi o φ lc mk ho ha).2) (fun i hi=>by
    obtain⟨c1,c2,c3⟩:=b1 i (hl.symm.subset hi);refine⟨c2,qW h.ext.size c1,fun hz=> ?_,qW h.mrk.1 c1,fun q hq=> ?_⟩
    . have:=h.zlt _ hz;omega
    . have:=((h.locs q).root (h.ft hx hq)).2.1;omega) (fun i hi j hj a8=>b2 i (hl.symm.subset hi) j (hl.symm.subset hj) a8) s2 hs
   have hE:lG all (fun i=>(g i).2) bl is E=(Fc all (fun i=>(g i).2) (fun i=>(g i).1) l E w).1:=funext fun x=>by
    by_cases a0:x∈Ao all is
    . obtain⟨i,hi,e⟩:=H8.1 a0;subst e;rw[gY d1 hi,(b1 i (hl.symm.subset hi)).2.2]
    . rw[EO a0,Hp _ _ _ fun hm=>a0 ((hl.map _).subset hm)]
   rw[hE]at h2;exact gM hty (fun j hj=>s1 j (tI _ hj)) d2 h2 h3
include hty hsp in
theorem Cr {za0:Zn} {tails:List Nat} {n0:Nat} {nw:Bool} {k:St->Prop} (a1:nw=true->za.k0=n0) (a0:nw=false->za.b0=0) (a2:∀ {st:St} {E:G1} {w:World} {Z:Nat->Prop} {B:Nat->Value},B8 za w0 st E w Z B->B8 za0 w0 st E w Z B):∀ {p:Pl} {pre t:Bool} {st:St} {E:G1} {w:World} {Z:Nat->Prop} {B:Nat->Value},(nw=true->pre=true->za.b0=w.heap.size)->B8 za w0 st E w Z B->O6 cx sp all tails n0 nw p pre t k st->QH cx.P (RW nw za.b0) all tails (Nx za0 w0 k) p t E w
 | .done,_,_,_,_,_,_,_,_,h,u=>⟨_,_,_,a2 h,u⟩
 | .q i p,pre,t,st,E,w,Z,B,hp,h,u=>by
  simp only[O6]at u;split at u
  . rename_i o ho;obtain⟨a6,u⟩:=B4 u;refine⟨o,ho,TD (EL hty (fun w' a3 _=> ?_) h u) ?_⟩
    . cases nw with
      |false=>exact a3
      |true=>
       have a3:Below za.b0 w w'/\True:=a3;rw[hp rfl (by simpa using a6)]at a3;exact⟨a3.1,a3.2⟩
    . rintro E' ⟨st',Z',B',h',hk⟩;exact Cr a1 a0 a2 hp h' hk
  . exact u.elim
 | .p i p,pre,t,st,E,w,Z,B,hp,h,u=>by
  simp only[O6]at u;split at u
  . rename_i o ho;obtain⟨hm,u⟩:=B4 u;refine⟨o,ho,TD (EL hty (fun w' _ hh=>by rw[hh]at hm;cases hm) h u) ?_⟩;rintro E' ⟨st',Z',B',h',hk⟩;exact Cr a1 a0 a2 hp h' hk
  . exact u.elim
 | .e i p,pre,t,st,E,w,Z,B,hp,h,u=>by
  simp only[O6]at u;split at u
  . rename_i o ho;obtain⟨hm,u⟩:=B4 u;refine⟨o,ho,L5 ?_ (nT hty hsp a1 a0 (tl:=t||tails.contains i) h hm u)⟩;rintro E' w' ⟨a5,st',Z',B',h',hk⟩;exact⟨a5,Cr a1 a0 a2 (fun _ hh=>by cases hh) h' hk⟩
  . exact u.elim
 | .or i p q,pre,t,st,E,w,Z,B,hp,h,u=>by
  simp only[O6]at u;refine⟨?_,Cr a1 a0 a2 hp h u.2⟩;have u:=u.1;split at u
  . rename_i o ho;obtain⟨hm,u⟩:=B4 u;refine⟨o,ho,L5 ?_ (nT hty hsp a1 a0 (tl:=t||tails.contains i) h hm u)⟩;rintro E' w' ⟨a5,st',Z',B',h',hk⟩;exact⟨a5,Cr a1 a0 a2 (fun _ hh=>by cases hh) h' hk⟩
  . exact u.elim
 | .al is js p,pre,t,st,E,w,Z,B,hp,h,u=>by
  simp only[O6]at u;obtain⟨a8,u⟩:=B4 u;obtain⟨f,X,a4⟩:=A0h (nw:=nw) hty a8 h u;refine⟨f,X,a4.one,a4.rel,fun l hl=> ?_⟩;obtain⟨F,f1,f2,st',Z',B',h',a7⟩:=a4.fin l hl;exact⟨F,f1,f2,Cr a1 a0 a2 (fun _ hh=>by cases hh) h' a7⟩
theorem B8.marked {st:St} {E:G1} {w:World} {Z:Nat->Prop} {B:Nat->Value} (h:B8 za w0 st E w Z B):B8 {za with k0:=st.nx,b0:=w.heap.size} w0 st E w Z B:=
 ⟨h.ext,h.zlt,h.slots,h.locs,h.disj,h.refs,h.refl,h.fresh,h.bone,h.zin,h.nms,h.bfix,⟨rA _,fun k b hk u=>by
  have:st.L k= .none:=h.fresh k hk;rw[this]at u;exact u.elim⟩,h.frs,h.frf⟩
theorem B8.unmark {k0 b0:Nat} (u:za.b0=0) {st:St} {E:G1} {w:World} {Z:Nat->Prop} {B:Nat->Value} (h:B8 {za with k0:=k0,b0:=b0} w0 st E w Z B):B8 za w0 st E w Z B:=
 ⟨h.ext,h.zlt,h.slots,h.locs,h.disj,h.refs,h.refl,h.fresh,h.bone,h.zin,h.nms,h.bfix,⟨by rw[u];exact rM _,fun k b _ _=>by rw[u];exact rM _⟩,h.frs,h.frf⟩
end
section
variable {za:Zn} {w0:World} {cx:Cx} {sp:H2} {an:An}
def A3b {A:CP} {st a0:St} {p:A.den} {E:G1} {w:World} {Z:Nat->Prop} {B:Nat->Value} (a1:za.b0=0) (h:B8 za w0 st E w Z B) (u:gath A st=some (a0,p)):∃Z',B8 za w0 a0 E w Z' B:=by
 simp only[Vc.gath,qG,bind_some]at u;obtain⟨a2,_,cs,_,tl,_,p',_,u⟩:=u;obtain⟨_,u⟩:=D4 u;cases u;obtain⟨Z0,h0⟩:=h.plugL a1 (l:=A.rowL);exact B8.settleSh h0
def post (za:Zn) (w0:World) (k:K):Exit->G1->World->Prop:=fun e E w=>Nx za w0 (k.at e) E w
variable (hty:G5 cx.P cx.tys=true) (hsp:Rd cx.P sp)
include hty hsp in
theorem nS (a2:za.b0=0) {n:Nat} :∀ {c:Code} {k:K} {st:St} {E:G1} {w:World} {Z:Nat->Prop} {B:Nat->Value},B8 za w0 st E w Z B->Mg cx sp an c k st->Gw.Wp cx.P n c (post za w0 k) E w:=by
 intro c
 induction c with
 |skip=>intro k st E w Z B h u _ a hr;exact wp_skip ⟨E,hr,st,Z,B,h,u⟩
 |label l=>intro k st E w Z B h u _ a hr;exact wp_label ⟨E,hr,st,Z,B,h,u⟩
 |exit i=>intro k st E w Z B h u _ a hr;exact wp_exit ⟨E,hr,st,Z,B,h,u⟩
 |ret=>intro k st E w Z B h u _ a hr;exact wp_ret ⟨E,hr,st,Z,B,h,u⟩
 |region id ops a6=>
  intro k st E w Z B h u a0 a hr;simp only[Bj]at a0;simp only[Mg]at u;have a5:ops=ops.toList.toArray:=by simp
  cases a6 with
  |false=>
   simp only[rC]at u;rw[a5];refine wp_region ?_;have:=SS (P:=cx.P) (Q:=post za w0 k) a0 ops.toList 0 (by simp) a E w hr (YR a2 hty hsp h u);simpa[List.range_eq_range']using this
  |true=>
   simp only[qP]at u;split at u
   . rename_i heads tails nw p _;obtain⟨hp,u⟩:=B4 u;simp only[qC]at hp;obtain⟨hp,hm⟩:=hp;simp only[A9t,qC]at hp;rw[a5];refine wp_region_any hm (UY (S:=fun _=>True) (tails:=tails) _ _ _ _ ?_);have a3:F5 tails (Array.replicate ops.toList.length false)=false:=by
      unfold F5;rw[zH];intro x _;simp only[xX,yT];split<;>simp
     have h1:=h.more (Z':=Z) (w':=w.drew) (R0.refl w).drew (fun _ h=>h) (fun _=> .inl);have fin:∀b0,QH cx.P (RW nw b0) ops.toList tails (Nx za w0 k.n) p false E w.drew->W2 cx.P ops.toList.toArray (DR n (post za w0 k)) (RW nw b0 w.drew) tails ops.toList.length (Array.replicate ops.toList.length false) a w.drew:=fun b0 hd=>
      A2l (P:=cx.P) (R:=RW nw b0) (RW.refl nw _) (fun a b=>a.trans b) (Q:=post za w0 k) a0 hp.1.1 hp.1.2 (fun c E w hh=>by obtain⟨_,_,_,_,hh⟩:=hh;exact hh) p ops.toList.length _ none hp.2 ⟨dA _ _,fun ht=>by rw[a3]at ht;cases ht⟩ false a3.symm a E w.drew hr (fun _ hh=>by cases hh) hd
     cases nw with
     |true=>
      have:=fin _ (Cr (za0:=za) (nw:=true) hty hsp (n0:=st.nx) (fun _=>rfl) (fun hh=>by cases hh) (fun h=>h.unmark a2) (fun _ _=>rfl) h1.marked u);simpa using Iy (S':=fun _=>True) (fun _ _=>trivial) _ _ _ _ this
     |false=>
      have:=fin _ (Cr (za0:=za) (nw:=false) hty hsp (n0:=st.nx) (fun hh=>by cases hh) (fun _=>a2) (fun h=>h) (fun hh=>by cases hh) h1 u);simpa using Iy (S':=fun _=>True) (fun _ _=>trivial) _ _ _ _ this
   . exact u.elim
 |seq a b a9 aa=>
  intro k st E w Z B h u a0 a1 hr;simp only[Bj,qC]at a0;simp only[Mg]at u;split at u
  . rename_i A _;obtain⟨J,h1,h2⟩:=u;have ab:=KR (k':= {n:=fun st'=>B9 st st'/\IY A st J st',x:=k.x,r:=k.r}) h1 (fun e st' ev hh=>by
     cases e with
     |normal=>exact⟨ev,hh⟩
     |exit i=>exact hh
     |ret=>exact hh
     | _=>exact hh)
    refine wp_seq (wp_mono (a9 h ab a0.1 a1 hr) ?_);rintro e a' w' ⟨E',hr',st',Z',B',h',hq⟩;cases e with
    |normal=>
     obtain⟨p,hw,hJ,Z2,B2,h3⟩:=WL a2 h' hq.2 h.pure hq.1;exact aa h3 (h2 p hw hJ) a0.2 a' hr'
    |exit i=>exact⟨E',hr',st',Z',B',h',hq⟩
    |ret=>exact⟨E',hr',st',Z',B',h',hq⟩
    | _=>exact hq.elim
  . refine wp_seq (wp_mono (a9 h u a0.1 a1 hr) ?_);rintro e a' w' ⟨E',hr',st',Z',B',h',hq⟩;cases e with
    |normal=>exact aa h' hq a0.2 a' hr'
    |exit i=>exact⟨E',hr',st',Z',B',h',hq⟩
    |ret=>exact⟨E',hr',st',Z',B',h',hq⟩
    | _=>exact hq.elim
 |cond c x y ag ah=>
  intro k st E w Z B h u a0 a1 hr;simp only[Bj,qC]at a0;simp only[Mg]at u;split at u
  . rename_i e he;obtain⟨s,ac,ad⟩:=bind_some.1 he;have hv:=Ox (h.ev (E8 E) ac).1 ad;refine wp_cond (t:=e) (by rw[hr.ev];exact hv) ?_;cases e with
    |true=>exact ag h (u.1 rfl) a0.1 a1 hr
    |false=>exact ah h (u.2 rfl) a0.2 a1 hr
  . exact u.elim
 |block id c ih=>
  intro k st E w Z B h u a0 a1 hr;refine wp_block (wp_mono (ih h u a0 a1 hr) ?_);rintro e a' w' ⟨E',hr',st',Z',B',h',hq⟩;cases e with
  |normal=>exact⟨E',hr',st',Z',B',h',hq⟩
  |ret=>exact⟨E',hr',st',Z',B',h',hq⟩
  |exit j=>
   simp only[Exit.inBlock];simp only[K.at]at hq;by_cases hj:j=id
   . subst hj;simp only[xG];simp at hq;exact⟨E',hr',st',Z',B',h',hq⟩
   . simp only[hj,yJ];rw[D6 hj]at hq;exact⟨E',hr',st',Z',B',h',hq⟩
  | _=>exact hq.elim
 |loop c ih=>
  intro k st E w Z B h u a0 a1 hr;simp only[Bj]at a0;simp only[Mg]at u;split at u
  . rename_i A _;unfold A9y at u;split at u
    . rename_i a4 p0 hg;obtain⟨hb,u⟩:=B4 u;simp only[qC,tP]at hb;obtain⟨I,μ,h0,h1⟩:=u;obtain⟨Z1,a7⟩:=A3b a2 h hg;obtain⟨af,Z2,B2,h2⟩:=mI a2 h hg a7.pure (fun _ _=>rfl) (fun _ _=>rfl) (fun y hy=>Vt (hb.1 y hy)) rfl;refine wp_loop_ghost (fun m a w=>∃p E',μ p=m/\Gw.C5 n a E'/\A.wf p/\I p/\∃Z B,B8 za w0 (reflect A a4 p) E' w Z B) (μ p0) ⟨p0,E,rfl,hr,af,h0,Z2,B2,h2⟩ ?_;rintro m a w ⟨p,E',ai,a8,hw,hI,Z3,B3,h3⟩;have h4:=KR (k':= {n:=fun st'=>B9 (reflect A a4 p) st'/\IY A a4 (fun p'=>I p'/\μ p'<μ p) st',x:=k.x,r:=k.r}) (h1 p hw hI) (fun e st' ev hh=>by
       cases e with
       |normal=>exact⟨ev,hh⟩
       |exit i=>exact hh
       |ret=>exact hh
       | _=>exact hh)
      refine wp_mono (ih h3 h4 a0 a a8) ?_;rintro e a' w' ⟨E'',hr',st',Z',B',h',hq⟩;cases e with
      |normal=>
       obtain⟨p',ae,hJ,Z5,B5,h5⟩:=WL a2 h' hq.2 a7.pure ((B9.told A a4 p).trans hq.1);exact⟨μ p',by have:=hJ.2;omega,p',E'',rfl,hr',ae,hJ.1,Z5,B5,h5⟩
      |exit j=>exact⟨E'',hr',st',Z',B',h',hq⟩
      |ret=>exact⟨E'',hr',st',Z',B',h',hq⟩
      | _=>exact hq.elim
    . exact u.elim
  . exact u.elim
 | _=>intro k st E w Z B h u;exact u.elim
end
abbrev Bq (α:Type):List α:= []
def Xf (cx:Cx) (st:St):List ResultVar->Option (List SV)
 | []=>some []
 | .tmp t::r=>match st.S t with
  | .one s=>(Xf cx st r).map (s:: ·)
  | _=>none
 | .cell a T::r=>do
  let ti<-cx.ti T
  match st.S a with
  | .one ⟨false,[.box k 0]⟩=>match st.L k with
   | .box _ cs=>bif Nat.beq cs.length ti.ty.size then(Xf cx st r).map (⟨ti.agg,cs⟩:: ·)else none
   | _=>none
  | _=>none
def settleR:St->List RT->List SV->St
 |st, .val _ _::rs,s::ss=>settleR (settle st s.cs) rs ss
 |st, .own _ _::rs,_::ss=>settleR st rs ss
 |st, .obox _ _::rs,s::ss=>settleR (match c1 s with
  |some (.box k 0)=>(match st.L k with
   | .box _ cs=>settle st cs
   | _=>st)
  | _=>st) rs ss
 |st, .rows _ _ _::rs,_::ss=>settleR st rs ss
 |st,_,_=>st
def BZ (st:St):(rs:List RT)->List SV->Option (Ar rs)
 | [],[]=>some ()
 | .val a t::rs,s::ss=>(Pt a t s).bind fun x=>(BZ st rs ss).map fun y=>(x,y)
 | .own t e::rs,s::ss=>((c1 s).bind (KN st t e)).bind fun x=>(BZ st rs ss).map fun y=>(x,y)
 | .obox T t::rs,s::ss=>((WN s).bind fun k=>bif Nat.ble st.nm k then cV st T t k else none).bind fun x=>(BZ st rs ss).map fun y=>(x,y)
 | .rows t e e'::rs,s::ss=>((MG s).bind fun k=>bif Nat.ble st.nm k then KP st t e e' k else none).bind fun x=>(BZ st rs ss).map fun y=>(x,y)
 | _,_=>none
def Bk:List RT->List SV->List Nat
 | .own _ _::rs,⟨false,[.row k]⟩::ss=>k::Bk rs ss
 | .obox _ _::rs,⟨false,[.box k 0]⟩::ss=>k::Bk rs ss
 | .rows _ _ _::rs,⟨false,[.row k]⟩::ss=>k::Bk rs ss
 | _::rs,_::ss=>Bk rs ss
 | _,_=> []
def settleM:St->List AM->Nat->St
 |st, .box _ _::r,j=>settleM (match st.L j with| .box _ cs=>settle st cs| _=>st) r (j+1)
 |st, .row _ _::r,j=>settleM st r (j+1)
 |st, .val _ _::r,j=>settleM st r j
 |st, .fn _ _ _::r,j=>settleM st r j
 |st, .rows _ _ _::r,j=>settleM st r (j+1)
 |st,[],_=>st
def VN (st:St):(as:List AM)->Nat->Option (Mf as)
 | [],_=>some ()
 | .row t e::r,j=>(Xg st t e j).bind fun x=>(VN st r (j+1)).map fun y=>(x,y)
 | .box T t::r,j=>(cV st T t j).bind fun x=>(VN st r (j+1)).map fun y=>(x,y)
 | .val _ _::r,j=>VN st r j
 | .fn _ _ _::r,j=>VN st r j
 | .rows t e e'::r,j=>(KP st t e e' j).bind fun x=>(VN st r (j+1)).map fun y=>(x,y)
def A9r:AM->Bool
 | .row t _=>Kj t
 | .rows t _ _=>Kj t
 | .box _ t=>Kj t
 | _=>true
def B2r (s:A6) (x:A2 s.args) (r:Ar s.res) (o:Mf s.args):Prop:=bif N5 s.args then s.post x r/\s.mpost x r o else s.post x r
def fin (cx:Cx) (s:A6) (u:List ResultVar) (x:A2 s.args) (st:St):Prop:=
 match Xf cx st u with
 |some ss=>match Xf cx (settleM (settleR st s.res ss) s.args 0) u with
  |some a0=>match BZ (settleM (settleR st s.res ss) s.args 0) s.res a0,VN (settleM (settleR st s.res ss) s.args 0) s.args 0 with
   |some r,some o=>bif(DT (Bk s.res a0)&&Ky s.res)&&(s.shared|| (s.res.all mF&&s.args.all A9r))then B2r s x r o else False
   | _,_=>False
  |none=>False
 |none=>False
def Gz (P:Program):(as:List AM)->A2 as->Nat->Nat->List (Nat×Nat×DV)
 | [],_,_,_=> []
 | .val a t::r,x,i,j=>(i,1, .one ⟨a,explode t x.1⟩)::Gz P r x.2 (i+1) j
 | .row _ _::r,x,i,j=>(i,1, .one ⟨false,[.row j]⟩)::Gz P r x.2 (i+1) (j+1)
 | .box _ _::r,x,i,j=>(i,1, .one ⟨false,[.box j 0]⟩)::Gz P r x.2 (i+1) (j+1)
 | .rows _ _ _::r,x,i,j=>(i,1, .one ⟨false,[.row j]⟩)::Gz P r x.2 (i+1) (j+1)
 | .fn u a0 r'::r,x,i,j=>(i,1, .one ⟨false,[.fv P u a0 r' x.1.1 x.1.2]⟩)::Gz P r x.2 (i+1) j
def Dj:(as:List AM)->A2 as->Nat->List (Nat×Nat×LC)
 | [],_,_=> []
 | .val _ _::r,x,j=>Dj r x.2 j
 | .fn _ _ _::r,x,j=>Dj r x.2 j
 | .row t e::r,x,j=>(j,1, .row t e x.1)::Dj r x.2 (j+1)
 | .box T t::r,x,j=>(j,1, .box T (explode t x.1))::Dj r x.2 (j+1)
 | .rows t e e'::r,x,j=>(j,1, .rows t e e' x.1 [] none)::Dj r x.2 (j+1)
def Jy:List AM->Nat
 | []=>0
 | .row _ _::r=>Jy r+1
 | .box _ _::r=>Jy r+1
 | .rows _ _ _::r=>Jy r+1
 | .val _ _::r=>Jy r
 | .fn _ _ _::r=>Jy r
def jP (P:Program) (as:List AM) (x:A2 as):St:=⟨Gz P as x 0 0,Dj as x 0,Jy as,1,Jy as,[]⟩
def B1s (cx:Cx) (sp:H2) (an:An) (s:A6) (u:List ResultVar) (c:Code) (x:A2 s.args):Prop:=
 Mg cx sp an c ⟨fin cx s u x,fun _ _=>False,fin cx s u x⟩ (jP cx.P s.args x)
section
variable {za:Zn} {w0 w:World} {Z:Nat->Prop} {B:Nat->Value} {st:St} {E:G1} {cx:Cx} {sp:H2} {an:An}
def eH (tmps:Array Value):ResultVar->Sem Value
 | .tmp t=>pure (tmps.getD t undef)
 | .cell a t=>do loadVar t (<-asAddr (tmps.getD a undef))
def HF (hty:G5 cx.P cx.tys=true) (h:B8 za w0 st E w Z B) {tmps:Array Value} (ht:∀t,tmps.getD t undef=E t):∀ {a3:List ResultVar} {ss:List SV},Xf cx st a3=some ss->∃vs,(a3.mapM (eH tmps)).run cx.P w= .ok vs w/\Om w Z B ss vs
 | [],ss,hs=>by cases hs;exact⟨[],rfl,rfl⟩
 | .tmp t::r,ss,hs=>by
  simp only[Xf]at hs;split at hs
  . rename_i s hd;simp only[qK]at hs;obtain⟨ss',a5,rfl⟩:=hs;obtain⟨vs,h1,h2⟩:=HF hty h ht a5;have a0:=h.slots t;rw[hd]at a0;refine⟨E t::vs, ?_,E t,vs,rfl,a0,h2⟩;rw[wJ];simp only[eH,ht,Sem.run_bind,Sem.run_pure,Result.andThen_ok,h1]
  . cases hs
 | .cell a T::r,ss,hs=>by
  simp only[Xf,qG,bind_some]at hs;obtain⟨ti,ac,hs⟩:=hs;split at hs
  . rename_i k hd;split at hs
    . rename_i T' cs hk;obtain⟨hb,hs⟩:=D4 hs;simp only[qK]at hs;obtain⟨ss',a5,rfl⟩:=hs;obtain⟨vs,h1,h2⟩:=HF hty h ht a5;have a7:=qE hb;have a0:=h.slots a;rw[hd]at a0;obtain⟨_,_,e1,⟨b,e2,e3⟩,_⟩:=a0;cases e1;have hL:=h.locs k;rw[hk]at hL;obtain⟨b',us,e4,_,_,a2,a1⟩:=hL;rw[e2]at e4;cases e4;have a6:us.toList.length=ti.ty.size:=by rw[<-a7,a1.len]
      rcases(M9 (B7 hty ac)).2.1 with⟨ha,a9⟩ | ⟨ha,ab,aa⟩
      . refine⟨.agg us.toList.toArray::vs, ?_,_,vs,rfl,by rw[ha];exact⟨us.toList,rfl,a1⟩,h2⟩;obtain⟨g1,g2⟩:=Oc (P:=cx.P) (w:=w) a9;have g3:=run_loadCells_list (P:=cx.P) (w:=w) ⟨b,0,none⟩ us.toList a2.cellsAt;rw[a6]at g3;unfold loadCells at g3;rw[wJ];simp[eH,ht,e3,asAddr,loadVar,g1,g2,g3,h1,go_sem]
      . rw[aa]at a6
        match a8:us.toList,a6 with
        | [u],_=>
         rw[a8]at a1;have a4:w.cell? ⟨b,0,none⟩=some u:=by
          have:=a2.cellsAt 0 u (by rw[a8];rfl);rwa[I9]at this
         refine⟨u::vs, ?_,u,vs,rfl,by rw[ha];exact a1,h2⟩;have g1:=Hq (P:=cx.P) (w:=w) ab;rw[wJ];simp[eH,ht,e3,asAddr,loadVar,g1,a4,h1,go_sem]
    . cases hs
  . cases hs
def B8.settleR:∀ {rs:List RT} {ss:List SV} {st:St} {Z:Nat->Prop},B8 za w0 st E w Z B->∃Z',B8 za w0 (settleR st rs ss) E w Z' B
 | .val _ _::rs,s::ss,st,Z,h=>by
  obtain⟨Z1,h1⟩:=h.settle s.cs;exact B8.settleR (rs:=rs) (ss:=ss) h1
 | .own _ _::rs,_::ss,st,Z,h=>B8.settleR (rs:=rs) (ss:=ss) h
 | .obox _ _::rs,s::ss,st,Z,h=>by
  simp only[Vc.settleR];split
  . split
    . obtain⟨Z1,h1⟩:=h.settle _;exact B8.settleR (rs:=rs) (ss:=ss) h1
    . exact B8.settleR (rs:=rs) (ss:=ss) h
  . exact B8.settleR (rs:=rs) (ss:=ss) h
 | [],_,st,Z,h=>⟨Z,h⟩
 | .val _ _:: _,[],st,Z,h=>⟨Z,h⟩
 | .own _ _:: _,[],st,Z,h=>⟨Z,h⟩
 | .obox _ _:: _,[],st,Z,h=>⟨Z,h⟩
 | .rows _ _ _::rs,_::ss,st,Z,h=>B8.settleR (rs:=rs) (ss:=ss) h
 | .rows _ _ _:: _,[],st,Z,h=>⟨Z,h⟩
def Ps (h:B8 za w0 st E w Z B) {Zn:Nat->Prop} (a6:∀b,Zn b->Z b):∀ {rs:List RT} {ss:List SV} {vs:List Value} {r:Ar rs},((∀b,Z b->Zn b)\/rs.all mF=true)->Om w Z B ss vs->BZ st rs ss=some r->(Bk rs ss).Nodup->Ky rs=true->
 Ml w0.heap.size w Zn rs vs r/\∀u∈U8 rs vs,∀b,root u=some b->∃k∈Bk rs ss,A9 w (B k) (st.L k) b
 | [],[],vs,_,_,hr,_,_,_=>⟨hr,fun u hu=>by simp[U8]at hu⟩
 | [],_:: _,_,_,_,_,hp,_,_=>by cases hp
 | .val _ _:: _,[],_,_,_,_,hp,_,_=>by cases hp
 | .own _ _:: _,[],_,_,_,_,hp,_,_=>by cases hp
 | .obox _ _:: _,[],_,_,_,_,hp,_,_=>by cases hp
 | .rows _ _ _:: _,[],_,_,_,_,hp,_,_=>by cases hp
 | .rows t e0 e1::rs,s::ss,_,r,hf,⟨v,a7,e,h1,h2⟩,hp,hn,a4=>by
  simp only[BZ,bind_some,qK]at hp;obtain⟨l,⟨q,hq,hl⟩,y,hy,rfl⟩:=hp;subst e;obtain⟨ai,hl⟩:=D4 hl;have ay:=qQ ai;have ac:s=⟨false,[.row q]⟩:=by
   unfold MG at hq;split at hq
   . cases hq;rfl
   . cases hq
  subst ac;obtain⟨_,_,e2,aa,_⟩:=h1;cases e2;have aa:v=B q:=aa;subst aa;obtain⟨al,ae⟩:=Ho hl;have hL:=h.locs q;rw[ae]at hL;have hR:=hL.rowsR;have ad:∀b,A9 w (B q) (.rows t e0 e1 l [] none) b->A9 w (B q) (st.L q) b:=fun b hb=>by rw[ae];exact(X4 fun _ _=>rfl).1 hb
  simp only[Ky,Ap,Nv,qC,yV,wE,rN]at a4;obtain⟨⟨r1,r2⟩,r3⟩:=a4;have a5:Bk (.rows t e0 e1::rs) (⟨false,[.row q]⟩::ss)=q::Bk rs ss:=rfl;rw[a5]at hn⊢;have a8:=sQ.1 hn;obtain⟨g1,g2⟩:=Ps h a6 (hf.imp id fun hh=>by simp only[tC,qC]at hh;exact hh.2) h2 hy a8.2 r3;have ap:Jk w Zn t e0 e1 (B q) l:=by
   obtain⟨xs,o1,o2,o3,o4⟩:=hR;refine⟨xs,o1,fun i a x ha hx=>(o2 i a x ha hx).imp fun ys hy=>⟨hy.1, ?_⟩,o3,o4⟩;rcases hf with hf|hf
   . exact hy.2.mono fun _ _=>C5.mono hf (fun _ _=>rfl)
   . simp only[tC,qC]at hf;exact hy.2.mono fun _ _ hh=>C5.flat hf.1 hh
  refine⟨⟨B q,a7,rfl,⟨ap,fun b hb=> ?_⟩,fun _=>⟨⟨r1,fun _=>r2⟩,fun b hb u hu=>by rw[Sk r2]at hu;cases hu⟩,g1⟩,fun u hu b hb=> ?_⟩
  . obtain⟨a1,a2,a3⟩:=(h.locs q).root (ad b hb);refine⟨?_,fun hz=>a3 (a6 b hz),a2⟩;rcases a1 with a1|a1
    . exact a1.2
    . have:=h.nms.1;omega
  . simp only[U8,qV]at hu;rcases hu with rfl|hu
    . exact⟨q,by simp,ad b (.inl hb)⟩
    . obtain⟨k,hk,r⟩:=g2 u hu b hb;exact⟨k,qM _ hk,r⟩
 | .val a t::rs,s::ss,_,r,hf,⟨v,a7,e,h1,h2⟩,hp,hn,a4=>by
  simp only[Ky,qC]at a4;obtain⟨af,a9⟩:=a4;simp only[BZ,bind_some,qK]at hp;obtain⟨x,hx,y,hy,rfl⟩:=hp;have a5:Bk (.val a t::rs) (s::ss)=Bk rs ss:=by
   obtain⟨sa,sc⟩:=s;simp only[Bk]
  rw[a5]at hn⊢;obtain⟨g1,g2⟩:=Ps h a6 (hf.imp id fun hh=>by simp only[tC,qC]at hh;exact hh.2) h2 hy hn a9;subst e;refine⟨⟨v,a7,rfl, ?_,fun hh=>(by cases hh),g1⟩,g2⟩;have a0:=Dq h1 hx;rcases hf with hf|hf
  . exact a0.mono hf (fun _ _=>rfl)
  . simp only[tC,qC]at hf;cases a with
    |true=>obtain⟨cs,e,a0⟩:=a0;exact⟨cs,e,C5.flat hf.1 a0⟩
    |false=>exact C5.flat (cs:= [v]) hf.1 a0
 | .own t e0::rs,s::ss,_,r,hf,⟨v,a7,e,h1,h2⟩,hp,hn,a4=>by
  simp only[Ky,Ap,Nv,qC,yV,wE,g0i,g0e,Bool.and_true,rN]at a4;obtain⟨af,a9⟩:=a4;simp only[BZ,bind_some,qK]at hp;obtain⟨l,⟨c,hc,hl⟩,y,hy,rfl⟩:=hp;subst e;have ac:s=⟨false,[c]⟩:=by
   unfold c1 at hc;split at hc
   . cases hc;rfl
   . cases hc
  subst ac;obtain⟨_,_,e1,aw,_⟩:=h1;cases e1;obtain⟨xs,o1,o2,o3,o4⟩:=KO h aw hl;have ax:=E4 o1;have ab:F2 (C5 t w Zn) xs l:=by
   rcases hf with hf|hf
   . exact o2.mono fun _ _=>C5.mono hf (fun _ _=>rfl)
   . simp only[tC,qC]at hf;exact o2.mono fun _ _ hh=>C5.flat hf.1 hh
  have ag:(∀b,Z b->Zn b)\/rs.all mF=true:=hf.imp id fun hh=>by simp only[tC,qC]at hh;exact hh.2
  rcases o4 with⟨q,rfl,ao,aa⟩ | ⟨ar,aq⟩
  . have a5:Bk (.own t e0::rs) (⟨false,[.row q]⟩::ss)=q::Bk rs ss:=rfl;rw[a5]at hn⊢;have a8:=sQ.1 hn;obtain⟨g1,g2⟩:=Ps h a6 ag h2 hy a8.2 a9;refine⟨⟨v,a7,rfl,⟨xs,o1,ab,fun b hb hz=>o3 b hb (a6 b hz)⟩,fun _=>⟨⟨af,fun hh=>(by cases hh)⟩,fun b hb u hu hub=> ?_⟩,g1⟩,fun u hu b hb=> ?_⟩
    . obtain⟨k,hk,am⟩:=g2 u hu b hub;have av:root (B q)=some b:=by rw[<-aa];exact hb
      exact h.disj q k b (fun hh=>a8.1 (hh▸hk)) (A9.of ao av) am
    . simp only[U8,qV]at hu;rcases hu with rfl|hu
      . exact⟨q,by simp,A9.of ao (by rw[<-aa];exact hb)⟩
      . obtain⟨k,hk,r⟩:=g2 u hu b hb;exact⟨k,qM _ hk,r⟩
  . have a5:Bk (.own t e0::rs) (⟨false,[c]⟩::ss)=Bk rs ss:=by cases c<;>first|rfl|exact absurd rfl (aq _)
    rw[a5]at hn⊢;obtain⟨g1,g2⟩:=Ps h a6 ag h2 hy hn a9;have aj:∀b,root v≠some b:=fun b hb=>by rw[ar]at hb;cases hb
    refine⟨⟨v,a7,rfl,⟨xs,o1,ab,fun b hb=>absurd (ax.trans hb) (aj b)⟩,fun _=>⟨⟨af,fun hh=>(by cases hh)⟩,fun b hb=>absurd hb (aj b)⟩,g1⟩,fun u hu b hb=> ?_⟩;simp only[U8,qV]at hu;rcases hu with rfl|hu
    . exact absurd hb (aj b)
    . exact g2 u hu b hb
 | .obox T t::rs,s::ss,_,r,hf,⟨v,a7,e,h1,h2⟩,hp,hn,a4=>by
  simp only[Ky,Ap,Nv,qC,yV,wE,g0i,g0e,Bool.and_true,rN]at a4;obtain⟨af,a9⟩:=a4;simp only[BZ,bind_some,qK]at hp;obtain⟨x,⟨q,hq,hx⟩,y,hy,rfl⟩:=hp;subst e;obtain⟨ai,hx⟩:=D4 hx;have ac:s=⟨false,[.box q 0]⟩:=by
   unfold WN at hq;split at hq
   . cases hq;rfl
   . cases hq
  subst ac;obtain⟨_,_,e1,⟨b',e2,e3⟩,_⟩:=h1;cases e1;obtain⟨cs,ae,au⟩:=Vu hx;have hL:=h.locs q;rw[ae]at hL;obtain⟨g,us,d1,d2,d3,d4,d5⟩:=hL;rw[d1]at e2;cases e2;have a0:=Fu d5 au;have ak:C5 t w Zn us.toList x:=by
   rcases hf with hf|hf
   . exact C5.mono hf (fun _ _=>rfl) a0
   . simp only[tC,qC]at hf;exact C5.flat hf.1 a0
  have ag:(∀b,Z b->Zn b)\/rs.all mF=true:=hf.imp id fun hh=>by simp only[tC,qC]at hh;exact hh.2
  have a5:Bk (.obox T t::rs) (⟨false,[.box q 0]⟩::ss)=q::Bk rs ss:=rfl;rw[a5]at hn⊢;have a8:=sQ.1 hn;obtain⟨g1,g2⟩:=Ps h a6 ag h2 hy a8.2 a9;have ah:w0.heap.size<=b':=by
   rcases d2 with d2|d2
   . exact d2.2
   . have:=h.nms.1;have:=qQ ai;omega
  have ad:∀c,root (Value.pointer (some ⟨b',0,none⟩))=some c->A9 w (B q) (st.L q) c:=fun c hc=>by rw[ae,d1];exact hc
  refine⟨⟨v,a7,rfl,⟨b',us,e3,ah,fun hz=>d3 (a6 b' hz),d4,ak⟩,fun _=>⟨⟨af,fun hh=>(by cases hh)⟩,fun b hb u hu hub=> ?_⟩,g1⟩,fun u hu b hb=> ?_⟩
  . obtain⟨k,hk,am⟩:=g2 u hu b hub;rw[e3]at hb;exact h.disj q k b (fun hh=>a8.1 (hh▸hk)) (ad b hb) am
  . simp only[U8,qV]at hu;rcases hu with rfl|hu
    . rw[e3]at hb;exact⟨q,by simp,ad b hb⟩
    . obtain⟨k,hk,r⟩:=g2 u hu b hb;exact⟨k,qM _ hk,r⟩
def B8.settleM:∀ {as:List AM} {st:St} {j:Nat} {Z:Nat->Prop},B8 za w0 st E w Z B->∃Z',B8 za w0 (settleM st as j) E w Z' B
 | [],st,_,Z,h=>⟨Z,h⟩
 | .row _ _::r,st,j,Z,h=>B8.settleM (as:=r) h
 | .val _ _::r,st,j,Z,h=>B8.settleM (as:=r) h
 | .fn _ _ _::r,st,j,Z,h=>B8.settleM (as:=r) h
 | .rows _ _ _::r,st,j,Z,h=>B8.settleM (as:=r) h
 | .box _ _::r,st,j,Z,h=>by
  simp only[Vc.settleM];split
  . obtain⟨Z1,h1⟩:=h.settle _;exact B8.settleM (as:=r) h1
  . exact B8.settleM (as:=r) h
def Zl (h:B8 za w0 st E w Z B) {Zn:Nat->Prop} :∀ {as:List AM} {vs:List Value} {o:Mf as} {j:Nat},((∀b,Z b->Zn b)\/as.all A9r=true)->(∀m u,(C9 as vs)[m]? =some u->B (j+m)=u)->(∀m p,(N6 as vs)[m]? =some p->∀b,up za w0 (j+m) b->A9 w0 p.2 (lcA p.1) b)->vs.length=as.length->VN st as j=some o->Ui w0 w Zn as vs o
 | [],_,_,_,_,_,_,_,_=>trivial
 |a::r,[],_,_,_,_,_,hl,_=>by simp at hl
 | .val _ _::r,v::vs,o,j,hf,hB,hU,hl,ho=>Zl (as:=r) h (hf.imp id fun hh=>by simp only[tC,qC]at hh;exact hh.2) hB hU (by simpa using hl) ho
 | .fn _ _ _::r,v::vs,o,j,hf,hB,hU,hl,ho=>Zl (as:=r) h (hf.imp id fun hh=>by simp only[tC,qC]at hh;exact hh.2) hB hU (by simpa using hl) ho
 | .row t e::r,v::vs,o,j,hf,hB,hU,hl,ho=>by
  simp only[VN,bind_some,qK]at ho;obtain⟨x,hx,y,hy,rfl⟩:=ho;have a0:B j=v:=hB 0 v (by simp[C9,J1]);have hL:=h.locs j;rw[Kx hx]at hL;obtain⟨xs,g1,g2,_⟩:=hL;rw[a0]at g1;refine⟨⟨xs,g1, ?_⟩,Zl (as:=r) h (hf.imp id fun hh=>by simp only[tC,qC]at hh;exact hh.2) (fun m u hm=>by rw[show j+1+m=j+(m+1)from by omega];exact hB (m+1) u (by simpa[C9,J1]using hm)) (fun m p hm=>by rw[show j+1+m=j+(m+1)from by omega];exact hU (m+1) p (by simpa[N6,J1]using hm)) (by simpa using hl) hy⟩;rcases hf with hf|hf
  . exact g2.mono fun _ _=>C5.mono hf (fun _ _=>rfl)
  . simp only[tC,qC]at hf;exact g2.mono fun _ _ hh=>C5.flat hf.1 hh
 | .box T t::r,v::vs,o,j,hf,hB,hU,hl,ho=>by
  simp only[VN,bind_some,qK]at ho;obtain⟨x,hx,y,hy,rfl⟩:=ho;have a0:B j=v:=hB 0 v (by simp[C9,J1]);obtain⟨cs,hc,hp⟩:=Vu hx;have hL:=h.locs j;rw[hc]at hL;obtain⟨b,us,g1,_,_,g4,g5⟩:=hL;rw[a0]at g1;refine⟨⟨b,us,g1,g4, ?_⟩,Zl (as:=r) h (hf.imp id fun hh=>by simp only[tC,qC]at hh;exact hh.2) (fun m u hm=>by rw[show j+1+m=j+(m+1)from by omega];exact hB (m+1) u (by simpa[C9,J1]using hm)) (fun m p hm=>by rw[show j+1+m=j+(m+1)from by omega];exact hU (m+1) p (by simpa[N6,J1]using hm)) (by simpa using hl) hy⟩;have:=Fu g5 hp;rcases hf with hf|hf
  . exact C5.mono hf (fun _ _=>rfl) this
  . simp only[tC,qC]at hf;exact C5.flat hf.1 this
 | .rows t e e'::r,v::vs,o,j,hf,hB,hU,hl,ho=>by
  simp only[VN,bind_some,qK]at ho;obtain⟨x,hx,y,hy,rfl⟩:=ho;have a0:B j=v:=hB 0 v (by simp[C9,J1]);have hL:=h.locs j;obtain⟨al,ha⟩:=Ho hx;rw[ha]at hL;have hR:=hL.rowsR;rw[a0]at hR;refine⟨⟨?_,fun b hb=> ?_⟩,Zl (as:=r) h (hf.imp id fun hh=>by simp only[tC,qC]at hh;exact hh.2) (fun m u hm=>by rw[show j+1+m=j+(m+1)from by omega];exact hB (m+1) u (by simpa[C9,J1]using hm)) (fun m p hm=>by rw[show j+1+m=j+(m+1)from by omega];exact hU (m+1) p (by simpa[N6,J1]using hm)) (by simpa using hl) hy⟩
  . rcases hf with hf|hf
    . exact hR.mono hf
    . simp only[tC,qC]at hf;obtain⟨xs,h1,h3,h4,h5⟩:=hR;exact⟨xs,h1,fun i l x hl hx=>(h3 i l x hl hx).imp fun ys hy=>⟨hy.1,hy.2.mono fun _ _ hh=>C5.flat hf.1 hh⟩,h4,h5⟩
  . have a1:A9 w (B j) (st.L j) b:=by rw[ha,a0];exact(X4 fun _ _=>rfl).1 hb
    exact hU 0 (.rows t e e',v) (by simp[N6,J1]) b ((h.locs j).root a1).1
variable {P:Program}
def Hj {n:Nat} :∀ {as:List AM} {vs:List Value} {x:A2 as} {i j s:Nat},X0 P w Z as vs x->i<=s->(∀m u,(C9 as vs)[m]? =some u->B (j+m)=u)->j+Jy as<=n->RD w Z B E (find (0, .dead) s (Gz P as x i j)).2 ((vs[s-i]?).getD undef)/\HE n (find (0, .dead) s (Gz P as x i j)).2
 | [],_,_,_,_,_,_,_,_,_=>⟨trivial,trivial⟩
 |a::r,_,x,i,j,s,⟨v,a3,e,h1,h2⟩,hi,hB,hn=>by
  subst e;by_cases a0:i=s
  . subst a0;cases a with
    |val a t=>
     simp only[Gz,find,xN,qP,xO];exact⟨Am.explode h1,D5⟩
    |row t e=>
     simp only[Gz,find,xN,qP,xO];have a1:B j=v:=hB 0 v (by simp[C9,J1]);exact⟨⟨v,[],rfl,a1.symm,rfl⟩,fun c hc=>by simp at hc;subst hc;simp only[Jy]at hn;show j<n;omega⟩
    |box T t=>
     simp only[Gz,find,xN,qP,xO];have a1:B j=v:=hB 0 v (by simp[C9,J1]);obtain⟨b,us,g1,_⟩:=h1;exact⟨⟨v,[],rfl,⟨b,a1.trans g1,g1⟩,rfl⟩,fun c hc=>by simp at hc;subst hc;simp only[Jy]at hn;show j<n;omega⟩
    |rows t e e'=>
     simp only[Gz,find,xN,qP,xO];have a1:B j=v:=hB 0 v (by simp[C9,J1]);exact⟨⟨v,[],rfl,a1.symm,rfl⟩,fun c hc=>by simp at hc;subst hc;simp only[Jy]at hn;show j<n;omega⟩
    |fn a2 r'=>
     simp only[Gz,find,xN,qP,xO];exact⟨⟨v,[],rfl,h1,rfl⟩,fun c hc=>by simp at hc;subst hc;trivial⟩
  . have he:s-i=(s-(i+1))+1:=by omega
    rw[he];cases a with
    |val a t=>
     simp only[Gz,find,D6 a0,rC,uB];exact Hj (i:=i+1) (s:=s) h2 (by omega) hB hn
    |fn a2 r'=>
     simp only[Gz,find,D6 a0,rC,uB];exact Hj (i:=i+1) (s:=s) h2 (by omega) hB hn
    |row t e=>
     simp only[Gz,find,D6 a0,rC,uB];exact Hj (i:=i+1) (s:=s) h2 (by omega) (fun m u hm=>by rw[show j+1+m=j+(m+1)from by omega];exact hB (m+1) u (by simpa[C9,J1]using hm)) (by simp only[Jy]at hn;omega)
    |box t e=>
     simp only[Gz,find,D6 a0,rC,uB];exact Hj (i:=i+1) (s:=s) h2 (by omega) (fun m u hm=>by rw[show j+1+m=j+(m+1)from by omega];exact hB (m+1) u (by simpa[C9,J1]using hm)) (by simp only[Jy]at hn;omega)
    |rows t e e'=>
     simp only[Gz,find,D6 a0,rC,uB];exact Hj (i:=i+1) (s:=s) h2 (by omega) (fun m u hm=>by rw[show j+1+m=j+(m+1)from by omega];exact hB (m+1) u (by simpa[C9,J1]using hm)) (by simp only[Jy]at hn;omega)
def jQ {n:Nat} {U:Nat->Nat->Prop} :∀ {as:List AM} {vs:List Value} {x:A2 as} {j k:Nat},X0 P w Z as vs x->(∀m p,(N6 as vs)[m]? =some p->B (j+m)=p.2/\∀b,A9 w p.2 (lcA p.1) b->U (j+m) b)->
 RL (U k) w Z B k (find (0, .none) k (Dj as x j)).2/\BC n (find (0, .none) k (Dj as x j)).2/\(live (find (0, .none) k (Dj as x j)).2->j<=k/\∃p,(N6 as vs)[k-j]? =some p/\∀b,A9 w (B k) (find (0, .none) k (Dj as x j)).2 b->A9 w p.2 (lcA p.1) b):=by
 intro as
 induction as with
 |nil=>intro _ _ _ _ _ _;exact⟨trivial,trivial,fun h=>h.elim⟩
 |cons a r ih=>
  intro vs x j k h hB;obtain⟨v,a3,e,h1,h2⟩:=h;subst e;have a1:J1 a=true->j≠k->RL (U k) w Z B k (find (0, .none) k (Dj r x.2 (j+1))).2/\BC n (find (0, .none) k (Dj r x.2 (j+1))).2/\(live (find (0, .none) k (Dj r x.2 (j+1))).2->j<=k/\∃p,(N6 (a::r) (v::a3))[k-j]? =some p/\∀b,A9 w (B k) (find (0, .none) k (Dj r x.2 (j+1))).2 b->A9 w p.2 (lcA p.1) b):=fun hm a0=>by
   obtain⟨q1,q2,q3⟩:=ih (vs:=a3) (x:=x.2) (j:=j+1) (k:=k) h2 (fun m p hp=>by rw[show j+1+m=j+(m+1)from by omega];exact hB (m+1) p (by simpa[N6,hm]using hp));refine⟨q1,q2,fun hl=>⟨by have:=(q3 hl).1;omega, ?_⟩⟩;obtain⟨q4,p,q5,q6⟩:=q3 hl;refine⟨p, ?_,q6⟩;rw[show k-j=(k-(j+1))+1 from by omega];simpa[N6,hm]using q5
  cases a with
  |val a t=>exact ih (x:=x.2) h2 hB
  |fn a t=>exact ih (x:=x.2) h2 hB
  |row t e0=>
   simp only[Dj,find];by_cases a0:j=k
   . subst a0;simp only[xN,qP];obtain⟨u,a2⟩:=hB 0 (.row t e0,v) (by simp[N6,J1]);obtain⟨xs,g1,g2,g3⟩:=h1;have u:B j=v:=u;refine⟨⟨xs,by rw[u];exact g1,g2,fun b hb=> ?_⟩,trivial,fun _=>⟨rA _,(.row t e0,v),by simp[N6,J1],fun b hb=>by rw[u]at hb;exact hb⟩⟩;rw[u]at hb;exact⟨a2 b ((E4 g1).trans hb),g3 b hb⟩
   . simp only[D6 a0,rC];exact a1 rfl a0
  |box T t=>
   simp only[Dj,find];by_cases a0:j=k
   . subst a0;simp only[xN,qP];obtain⟨u,a2⟩:=hB 0 (.box T t,v) (by simp[N6,J1]);obtain⟨b,us,g1,g2,g3,g4⟩:=h1;have u:B j=v:=u;exact⟨⟨b,us,u.trans g1,a2 b (by rw[g1];rfl),g2,g3,R9 g4⟩,D5,fun _=>⟨rA _,(.box T t,v),by simp[N6,J1],fun b hb=>by rw[u]at hb;exact hb⟩⟩
   . simp only[D6 a0,rC];exact a1 rfl a0
  |rows t e0 e1=>
   simp only[Dj,find];by_cases a0:j=k
   . subst a0;simp only[xN,qP];obtain⟨u,a2⟩:=hB 0 (.rows t e0 e1,v) (by simp[N6,J1]);obtain⟨g1,g2⟩:=h1;have u:B j=v:=u;refine⟨Jk.rl (by rw[u];exact g1) fun b hb=> ?_,fun p hp=>(by cases hp),fun _=>⟨rA _,(.rows t e0 e1,v),by simp[N6,J1],fun b hb=>by rw[u]at hb;exact(X4 fun _ _=>rfl).1 hb⟩⟩;rw[u]at hb;exact⟨a2 b ((X4 fun _ _=>rfl).1 hb),g2 b hb⟩
   . simp only[D6 a0,rC];exact a1 rfl a0
def X0.len:∀ {as:List AM} {vs:List Value} {x:A2 as},X0 P w Z as vs x->vs.length=as.length
 | [],_,_,h=>by rw[show _= _ from h];rfl
 | _:: _,_,_,⟨v,a0,e,_,u⟩=>by rw[e,rJ,rJ,X0.len u]
def Ac:∀ {as:List AM} {vs:List Value},vs.length=as.length->(C9 as vs).length=Jy as
 | [],vs,_=>by cases vs<;>rfl
 |a::r,[],h=>by simp at h
 | .val _ _::r,v::vs,h=>Ac (as:=r) (by simpa using h)
 | .fn _ _ _::r,v::vs,h=>Ac (as:=r) (by simpa using h)
 | .row _ _::r,v::vs,h=>by simp only[C9,J1,qP,rJ,Jy];rw[Ac (as:=r) (by simpa using h)]
 | .box _ _::r,v::vs,h=>by simp only[C9,J1,qP,rJ,Jy];rw[Ac (as:=r) (by simpa using h)]
 | .rows _ _ _::r,v::vs,h=>by simp only[C9,J1,qP,rJ,Jy];rw[Ac (as:=r) (by simpa using h)]
def Sc:∀(as:List AM) (vs:List Value),C9 as vs=(N6 as vs).map (·.2)
 | [],vs=>by cases vs<;>rfl
 | _:: _,[]=>rfl
 |a::r,v::vs=>by
  simp only[C9,N6];cases J1 a
  . exact Sc r vs
  . simp only[qP,rY,Sc r vs]
def Dis.get:∀ {l:List (AM×Value)} {m m' b:Nat} {u u':AM×Value},Dis w l->m<m'->l[m]? =some u->l[m']? =some u'->A9 w u.2 (lcA u.1) b->¬A9 w u'.2 (lcA u'.1) b
 | [],_,_,_,_,_,_,_,h,_,_=>by simp at h
 |v::l,0,m'+1,b,u,u',hd,hm,h,h',hb=>by
  simp at h h';subst h;exact hd.1 b hb u' (sO h')
 |v::l,m+1,m'+1,b,u,u',hd,hm,h,h',hb=>by
  simp at h h';exact Dis.get hd.2 (by omega) h h' hb
 |v::l,_,0,_,_,_,_,hm,_,_,_=>by omega
def aT (as:List AM) (vs:List Value):Nat->Value:=fun j=>((C9 as vs)[j]?).getD (.bool false)
def Zt:∀ {as:List AM} {vs:List Value} {x:A2 as},X0 P w Z as vs x->∀u∈C9 as vs,u.oneCell'=true
 | [],vs,_,_,u,hu=>by cases vs<;>cases hu
 | .val _ _::r,_,_,⟨v,a0,e,_,h2⟩,u,hu=>by subst e;exact Zt (as:=r) h2 u hu
 | .fn _ _ _::r,_,_,⟨v,a0,e,_,h2⟩,u,hu=>by subst e;exact Zt (as:=r) h2 u hu
 | .row t e0::r,_,_,⟨v,a0,e,⟨xs,g,_⟩,h2⟩,u,hu=>by
  subst e;simp only[C9,J1,qP,qV]at hu;rcases hu with rfl|hu
  . rcases g.2 with⟨hv,_⟩ | ⟨_,_,_,hv,_⟩<;>rw[hv]<;>rfl
  . exact Zt (as:=r) h2 u hu
 | .rows t e0 e1::r,_,_,⟨v,a0,e,⟨⟨xs,g,_⟩,_⟩,h2⟩,u,hu=>by
  subst e;simp only[C9,J1,qP,qV]at hu;rcases hu with rfl|hu
  . rcases g.2 with⟨hv,_⟩ | ⟨_,_,_,hv,_⟩<;>rw[hv]<;>rfl
  . exact Zt (as:=r) h2 u hu
 | .box t e0::r,_,_,⟨v,a0,e,⟨b,us,g,_⟩,h2⟩,u,hu=>by
  subst e;simp only[C9,J1,qP,qV]at hu;rcases hu with rfl|hu
  . rw[g];rfl
  . exact Zt (as:=r) h2 u hu
def Hk:∀ {as:List AM} {x:A2 as} {j k:Nat},¬live (find (0, .none) k (Dj as x j)).2->(find (0, .none) k (Dj as x j)).2= .none
 | [],_,_,_,_=>rfl
 | .val _ _::r,x,j,k,h=>Hk (as:=r) (x:=x.2) (j:=j) h
 | .fn _ _ _::r,x,j,k,h=>Hk (as:=r) (x:=x.2) (j:=j) h
 | .row t u::r,x,j,k,h=>by
  simp only[Dj,find]at h⊢;cases hb:Nat.beq j k with
  |true=>rw[hb]at h;exact absurd trivial h
  |false=>rw[hb]at h;exact Hk (as:=r) h
 | .rows t u e1::r,x,j,k,h=>by
  simp only[Dj,find]at h⊢;cases hb:Nat.beq j k with
  |true=>rw[hb]at h;exact absurd trivial h
  |false=>rw[hb]at h;exact Hk (as:=r) h
 | .box T t::r,x,j,k,h=>by
  simp only[Dj,find]at h⊢;cases hb:Nat.beq j k with
  |true=>rw[hb]at h;exact absurd trivial h
  |false=>rw[hb]at h;exact Hk (as:=r) h
def B2u (w:World) (as:List AM) (vs:List Value):Nat->Nat->Prop:=fun k b=>∃p:AM×Value,(N6 as vs)[k]? =some p/\A9 w p.2 (lcA p.1) b
def zn0 (w:World) (Z:Nat->Prop) (as:List AM) (vs:List Value):Zn:=⟨Z,fK w as vs,Jy as,aT as vs,0,0,B2u w as vs,fun _ _ ⟨p,hp,hb⟩=>⟨p,sO hp,hb⟩,[]⟩
def A7s {as:List AM} {vs:List Value} {x:A2 as} (hz:∀b,Z b->b<w.heap.size) (h:X0 P w Z as vs x) (hd:Dis w (N6 as vs)):B8 (zn0 w Z as vs) w (jP P as x) (LR vs) w Z (aT as vs):=by
 have a4:=Ac (X0.len h);have hB:∀m u,(C9 as vs)[m]? =some u->aT as vs (0+m)=u:=fun m u hm=>by simp only[aT,sI,hm,vQ]
 have a0:∀(m:Nat) (p:AM×Value),(N6 as vs)[m]? =some p->(C9 as vs)[m]? =some p.2:=fun m p hm=>by rw[Sc,vT,hm];rfl
 have hT:=fun k=>jQ (P:=P) (w:=w) (Z:=Z) (B:=aT as vs) (n:=Jy as) (U:=fun k b=>up (zn0 w Z as vs) w k b) (j:=0) (k:=k) h (fun m p hm=>⟨hB m p.2 (a0 m p hm),fun b hb=> .inr ⟨by have:=LN (a0 m p hm);simp only[sI];show m<Jy as;omega,p,by simpa using hm,hb⟩⟩)
 have hS:=fun s=>Hj (P:=P) (w:=w) (Z:=Z) (B:=aT as vs) (E:=LR vs) (n:=Jy as) (i:=0) (j:=0) (s:=s) h (rM _) hB (by omega)
 refine⟨Hh.of (R0.refl w),hz,fun s=>(hS s).1,fun k=>(hT k).1,fun k k' b a6 l1 l2=> ?_,fun s=>(hS s).2,fun k=>(hT k).2.1,fun k hk=> ?_,fun k=> ?_,fun b hb=> .inl hb,⟨rfl,rA _⟩,fun _ _=>rfl,⟨rM _,fun _ _ _ _=>rM _⟩,trivial,fun f hf=>(by cases hf)⟩
 . obtain⟨_,p,a1,f1⟩:=(hT k).2.2 l1.live;obtain⟨_,p',a2,f2⟩:=(hT k').2.2 l2.live;simp only[g1u]at a1 a2;rcases sF k k' with a3|a5
   . exact hd.get a3 a1 a2 (f1 b l1) (f2 b l2)
   . exact hd.get (by omega:k'<k) a2 a1 (f2 b l2) (f1 b l1)
 . by_cases hl:live ((jP P as x).L k)
   . obtain⟨_,p,a1,_⟩:=(hT k).2.2 hl;simp only[g1u]at a1;have:=LN (a0 k p a1);have hk:Jy as<=k:=hk;omega
   . exact Hk hl
 . simp only[aT];cases hm:(C9 as vs)[k]? with
   |none=>rfl
   |some u=>exact Zt h u (sO hm)
def A4g {f:FuncId} {fn:Func} {c:Code} {s:A6} (hf:cx.P.funcs[f]? =some fn) (hb:fn.body=some c) (hn:s.args.length<=fn.ntmps) (ah:Bj fn.ntmps c=true) (hty:G5 cx.P cx.tys=true) (hsp:Rd cx.P sp)
 (hv:∀x,awf s.args x->s.pre x->B1s cx sp an s fn.results.toList c x):A7 cx.P f s:=by
 intro w Z vs x hz a8 aa ad;have a4:vs.length=s.args.length:=a8.len;have af:=hv x a8.awf ad;generalize a3:zn0 w Z s.args vs=za;have a6:=A7s hz a8 aa;rw[a3]at a6;refine LM hf hb (by rw[a4];exact hn) ah (fun E w'=>Nx za w (fin cx s fn.results.toList x) E w') ?_ ⟨fun ab a hr=> ?_⟩
 . rintro E w' tmps ht ⟨st,Z',B',h,a1⟩;unfold fin at a1;split at a1
   . rename_i ss ai;split at a1
     . rename_i aj ag;split at a1
       . rename_i r o hr ho;obtain⟨a2,a0⟩:=B4 a1;simp only[qC]at a2;obtain⟨Z0,h0⟩:=B8.settleR (rs:=s.res) (ss:=ss) h;obtain⟨Z1,h1⟩:=B8.settleM (as:=s.args) (j:=0) h0;obtain⟨us,g1,g2⟩:=HF hty h1 ht ag;have ae:(results fn tmps).run cx.P w'= .ok (Xo us) w':=by
          have hm:(fn.results.mapM (eH tmps)).run cx.P w'= .ok us.toArray w':=by
           rw[yL];simp[g1]
          have e:results fn tmps=(do let vs<-fn.results.mapM (eH tmps);pure (if h:vs.size=1 then vs[0]else .tuple vs)):=by
           unfold results;congr 1
          rw[e];simp only[Sem.run_bind,hm,Result.andThen_ok,Sem.run_pure]
          match us with
          | []=>rfl
          | [u]=>rfl
          |u::u'::r=>rfl
         have a5:s.post x r/\(N5 s.args=true->s.mpost x r o):=by
          unfold B2r at a0;cases hm:N5 s.args with
          |true=>simp only[hm,qP]at a0;exact⟨a0.1,fun _=>a0.2⟩
          |false=>simp only[hm,rC]at a0;exact⟨a0,fun hh=>by cases hh⟩
         refine⟨_,ae, ?_,r,o,us,(fun b=>s.shared=true/\Z1 b),a5.1,a5.2,rfl,fun b hb=> ?_, ?_, ?_⟩
         . have:=h.ext;rw[<-a3]at this;exact this
         . rcases h1.zin b hb.2 with hh|hh
           . rw[<-a3]at hh;exact .inr ⟨hb.1,hh⟩
           . exact .inl ⟨hh,h1.zlt b hb.2⟩
         . refine(Ps h1 (Zn:=fun b=>s.shared=true/\Z1 b) (fun b hb=>hb.2) ?_ g2 hr (Ig a2.1.1) a2.1.2).1;cases a9:s.shared with
           |true=>exact .inl fun b hb=>⟨rfl,hb⟩
           |false=>rw[a9]at a2;simp only[wE,qC]at a2;exact .inr a2.2.1
         . refine Zl (Zn:=fun b=>s.shared=true/\Z1 b) h1 (j:=0) ?_ (fun m u hm=> ?_) (fun m p hm b hu=> ?_) a4 ho
           . cases a9:s.shared with
             |true=>exact .inl fun b hb=>⟨rfl,hb⟩
             |false=>rw[a9]at a2;simp only[wE,qC]at a2;exact .inr a2.2.2
           . have a7:=LN hm;rw[Ac a4]at a7;have:=h1.bfix m (by rw[<-a3];exact a7);rw[sI,this, <-a3];show aT s.args vs m=u;simp only[aT,hm,vQ]
           . rw[<-a3,sI]at hu;rcases hu with⟨hu,_⟩ | ⟨_,p',ac,hb⟩
             . have a7:=LN (show(C9 s.args vs)[m]? =some p.2 by rw[Sc,vT,hm];rfl);rw[Ac a4]at a7;have hu:Jy s.args<=m:=hu;omega
             . rw[hm]at ac;cases ac;exact hb
       . exact a1.elim
     . exact a1.elim
   . exact a1.elim
 . refine wp_mono (nS hty hsp (by rw[<-a3];rfl) a6 af ab a hr) ?_;rintro e a' w' ⟨E',hr',st',Z',B',h',hq⟩;refine⟨E',hr', ?_⟩;cases e with
   |normal=>exact⟨st',Z',B',h',hq⟩
   |ret=>exact⟨st',Z',B',h',hq⟩
   | _=>exact hq.elim
def A4h {f:FuncId} {fn:Func} {c:Code} {s:A6} {vc:A2 s.args->Prop} (hf:cx.P.funcs[f]? =some fn) (hb:fn.body=some c) (hn:s.args.length<=fn.ntmps) (u:Bj fn.ntmps c=true) (hty:G5 cx.P cx.tys=true) (hsp:Rd cx.P sp)
 (he:∀x,B1s cx sp an s fn.results.toList c x=vc x) (hv:∀x,awf s.args x->s.pre x->vc x):A7 cx.P f s:=
 A4g hf hb hn u hty hsp fun x hw hp=>by rw[he];exact hv x hw hp
def B1t (P:Program) (tys:List (Nat×TI)) (sp:H2) (an:An) (s:A6) (fn:Func) (x:A2 s.args):Prop:=B1s ⟨P,tys⟩ sp an s fn.results.toList (fn.body.getD .skip) x
def A4i {P:Program} {tys:List (Nat×TI)} {sp:H2} {an:An} {f:FuncId} {fn:Func} {s:A6} {vc:A2 s.args->Prop} (hf:P.funcs[f]? =some fn) (hb:fn.body.isSome=true) (hn:Nat.ble s.args.length fn.ntmps=true) (a0:Bj fn.ntmps (fn.body.getD .skip)=true) (hty:G5 P tys=true) (hsp:Rd P sp)
 (he:∀x,B1t P tys sp an s fn x=vc x) (hv:∀x,awf s.args x->s.pre x->vc x):A7 P f s:=by
 cases u:fn.body with
 |none=>rw[u]at hb;cases hb
 |some c=>
  have hc:fn.body.getD .skip=c:=by rw[u];rfl
  refine A4h (cx:=⟨P,tys⟩) (an:=an) (c:=c) hf u (qQ hn) (by rw[<-hc];exact a0) hty hsp (fun x=> ?_) hv;rw[<-he x, <-hc];rfl
def AA (ct:Nat):Nat->List SV->List (Nat×Nat×DV)
 | _,[]=> []
 |i,s::ss=>(i,ct, .one s)::AA ct (i+1) ss
def bE (st:St) (ss:List SV):St:=⟨AA (st.ct+1) 0 ss,st.lc,st.nx,st.ct+1,st.nm,st.sl::st.fr⟩
def kQ (cx:Cx) (u:List ResultVar) (k:St->List SV->Prop) (st:St):Prop:=
 match st.fr with
 |f::fr=>(match Xf cx st u with
  |some ss=>k ⟨f,st.lc,st.nx,st.ct,st.nm,fr⟩ ss
  |none=>False)
 | []=>False
def JV (cx:Cx) (a0:List (Nat×H2×An)) (u:List ResultVar) (c:Code) (n d:Nat) (st:St) (ss:List SV) (k:St->List SV->Prop):Prop:=
 match Fh d a0 with
 |some (sp,an)=>bif Nat.ble ss.length n then Mg cx sp an c ⟨kQ cx u k,fun _ _=>False,kQ cx u k⟩ (bE st ss)else False
 |none=>False
def YL {u:List ResultVar} {k k':St->List SV->Prop} {ss:List SV} {st':St} (ev:B9 (bE st ss) st') (h:kQ cx u k st') (hk:∀st' ss',B9 st st'->k st' ss'->k' st' ss'):kQ cx u k' st':=by
 unfold kQ at h⊢;cases hf:st'.fr with
 |nil=>rw[hf]at h;exact h
 |cons f fr=>
  rw[hf]at h;simp only at h⊢;split at h
  . have e:=ev.f;rw[hf]at e;have e:M6 (st.ct+1) st.sl f/\Ab (st.ct+1) st.fr fr:=e;refine hk _ _ ⟨qW (uK _) ev.ct,fun s h0 h1=> ?_,fun q h0 h1=>ev.l q h0 (yC h1),e.2.le (uK _)⟩ h;exact M6.find s e.1 (yC h1)
  . exact h
def A3l (a0:List (Nat×H2×An)) (u:List ResultVar) (c:Code) (n:Nat) {st:St} {d:Nat} {ss:List SV} {k k':St->List SV->Prop} (h:JV cx a0 u c n d st ss k) (hk:∀st' ss',B9 st st'->k st' ss'->k' st' ss'):JV cx a0 u c n d st ss k':=by
 unfold JV at h⊢;split at h
 . obtain⟨hb,h⟩:=B4 h;simp only[hb,qP];refine KR h fun e st' ev hh=> ?_
   cases e with
   |normal=>exact YL ev hh hk
   |ret=>exact YL ev hh hk
   | _=>exact hh
 . exact h
def LX (cx:Cx) (a0:List (Nat×H2×An)) (u:List ResultVar) (c:Code) (n:Nat):Inl:= {run:=JV cx a0 u c n,step:=A3l a0 u c n}
def HJ {ct s:Nat} :∀ {ss:List SV} {i:Nat},(find (0, .dead) s (AA ct i ss)).2=if i<=s then(match ss[s-i]? with|some v=> .one v|none=> .dead)else .dead
 | [],i=>by simp[AA,find]
 |v::ss,i=>by
  simp only[AA,find];cases hb:Nat.beq i s with
  |true=>
   have:=qE hb;subst this;simp
  |false=>
   have u:i≠s:=vB hb;simp only[rC,HJ (ss:=ss) (i:=i+1)];by_cases h1:i+1<=s
   . rw[rB h1,rB (by omega),show s-i=(s-(i+1))+1 from by omega,uB]
   . rw[qT h1,qT (by omega)]
def Om.len {w:World} {Z:Nat->Prop} {B:Nat->Value} :∀ {ss:List SV} {vs:List Value},Om w Z B ss vs->vs.length=ss.length
 | [],_,h=>by rw[show _= _ from h];rfl
 | _:: _,_,⟨v,a0,e,_,u⟩=>by rw[e,rJ,rJ,Om.len u]
def KM (h:B8 za w0 st E w Z B):∀ {a1:List ResultVar} {ss:List SV},Xf cx st a1=some ss->∀s∈ss,Kv st.nx s
 | [],_,u=>by cases u;intro s u;cases u
 | .tmp t::r,ss,u=>by
  simp only[Xf]at u;split at u
  . rename_i s1 a2;simp only[qK]at u;obtain⟨ss',a0,rfl⟩:=u;intro s hm;rcases qV.1 hm with rfl|hm
    . have:=h.refs t;rw[a2]at this;exact this
    . exact KM h a0 s hm
  . cases u
 | .cell a t::r,ss,u=>by
  simp only[Xf,qG,bind_some]at u;obtain⟨ti,_,u⟩:=u;split at u
  . rename_i k _;split at u
    . rename_i T cs hk;obtain⟨_,u⟩:=D4 u;simp only[qK]at u;obtain⟨ss',a0,rfl⟩:=u;intro s hm;rcases qV.1 hm with rfl|hm
      . have:=h.refl k;rw[hk]at this;exact this
      . exact KM h a0 s hm
    . cases u
  . cases u
def lN (P:Program) (u:List (Nat×H2×An)):Prop:=∀x∈u,Rd P x.2.1
def WW {α:Type} {d:Nat} {x:α} :∀ {l:List (Nat×α)},Fh d l=some x->(d,x)∈l
 | [],h=>by cases h
 | (t,y)::l,h=>by
  simp only[Fh]at h;cases hb:Nat.beq t d with
  |true=>
   rw[hb]at h;have:=qE hb;subst this;cases h;simp
  |false=>rw[hb]at h;exact qM _ (WW h)
def DM {f:FuncId} {fn:Func} {c:Code} {a0:List (Nat×H2×An)} (hf:cx.P.funcs[f]? =some fn) (hb:fn.body=some c) (af:Bj fn.ntmps c=true) (hty:G5 cx.P cx.tys=true) (hsp:lN cx.P a0):LG cx.P f (LX cx a0 fn.results.toList c fn.ntmps):=by
 refine {go:= ?_};intro za w0 st E w Z B d ss vs k ab h a9 a7 hs;have hs:JV cx a0 fn.results.toList c fn.ntmps d st ss k:=hs;unfold JV at hs;split at hs
 . rename_i sp an ae;have hsp:=hsp _ (WW ae);simp only at hsp;obtain⟨a2,hs⟩:=B4 hs;have a2:=qQ a2;have a5:=a9.len;have hS:∀s,(bE st ss).S s=match ss[s]? with|some v=> .one v|none=> .dead:=fun s=>by
    show(find (0, .dead) s (AA (st.ct+1) 0 ss)).2= _;rw[HJ,rB (rM _)];rfl
   have h1:B8 {za with es:=E::za.es} w0 (bE st ss) (LR vs) w Z B:=by
    refine⟨h.ext,h.zlt,fun s=> ?_,h.locs,h.disj,fun s=> ?_,h.refl,h.fresh,h.bone,h.zin,h.nms,h.bfix,h.mrk,⟨h.slots,h.frs⟩,fun g hg s=> ?_⟩
    . rw[hS];cases hv:ss[s]? with
      |none=>trivial
      |some v=>
       obtain⟨u,h3,h4⟩:=a9.get hv;show RS w Z B v (LR vs s);simp only[LR,h3,vQ];exact h4
    . rw[hS];cases hv:ss[s]? with
      |none=>trivial
      |some v=>exact a7 v (sO hv)
    . rcases qV.1 hg with rfl|hg
      . exact h.refs s
      . exact h.frf g hg s
   refine LM hf hb (by rw[a5];exact a2) af (fun E' w'=>Nx {za with es:=E::za.es} w0 (kQ cx fn.results.toList k) E' w') ?_ ⟨fun a6 a hr=> ?_⟩
   . rintro E' w' tmps ht ⟨st',Z',B',h',hp⟩;unfold kQ at hp;have a4:=h'.frs;have a1:=h'.frf;cases a3:st'.fr with
     |nil=>rw[a3]at hp;exact hp.elim
     |cons fl fr=>
      rw[a3]at hp a4 a1;simp only at hp;obtain⟨ac,ad⟩:=a4;split at hp
      . rename_i ss' aa;obtain⟨us,g1,g2⟩:=HF hty h' ht aa;have a8:(results fn tmps).run cx.P w'= .ok (Xo us) w':=by
         have hm:(fn.results.mapM (eH tmps)).run cx.P w'= .ok us.toArray w':=by
          rw[yL];simp[g1]
         have e:results fn tmps=(do let vs<-fn.results.mapM (eH tmps);pure (if h:vs.size=1 then vs[0]else .tuple vs)):=by
          unfold results;congr 1
         rw[e];simp only[Sem.run_bind,hm,Result.andThen_ok,Sem.run_pure]
         match us with
         | []=>rfl
         | [u]=>rfl
         |u::u'::r=>rfl
        exact⟨_,a8,⟨fl,st'.lc,st'.nx,st'.ct,st'.nm,fr⟩,Z',B',ss',us,⟨h'.ext,h'.zlt,ac,h'.locs,h'.disj,fun s=>a1 fl (by simp) s,h'.refl,h'.fresh,h'.bone,h'.zin,h'.nms,h'.bfix,h'.mrk,ad,fun g hg s=>a1 g (by simp[hg]) s⟩,rfl,g2,KM h' aa,hp⟩
      . exact hp.elim
   . refine wp_mono (nS hty hsp (by exact ab) h1 hs a6 a hr) ?_;rintro e a' w' ⟨E',hr',st',Z',B',h',hq⟩;refine⟨E',hr', ?_⟩;cases e with
     |normal=>exact⟨st',Z',B',h',hq⟩
     |ret=>exact⟨st',Z',B',h',hq⟩
     | _=>exact hq.elim
 . exact hs.elim
def Fk (run:Inl):A6:= {args:= [],res:= [],pre:=fun _=>False,post:=fun _ _=>True,inl:=some run}
end
end Go.Vc
namespace Go.Proofs.YthiimnbdinlfeaaGreat
open Go.IntKind (i64 u64 u32)
def nv:List Int->Nat
 | []=>0
 |a::l=>a.toNat+4294967296*nv l
def nc (n:Nat):List Int:=if h:n=0 then []else((n%4294967296:Nat):Int)::nc (n/4294967296)
termination_by n
decreasing_by omega
def aQ (x:Int):Prop:=0<=x/\x<=4294967295
def A5 (l:List Int):Prop:=∀x∈l,aQ x
def N4:nc 0= []:=by rw[nc];rfl
def KD {n:Nat} (h:n≠0):nc n=((n%4294967296:Nat):Int)::nc (n/4294967296):=by rw[nc];simp[h]
def E1 (n:Nat):nv (nc n)=n:=by
 induction n using Nat.strongRecOn with
 | _ n u=>
  by_cases h:n=0
  . subst h;rw[N4];rfl
  . rw[KD h];simp only[nv,u (n/4294967296) (by omega)];omega
def H9 (n:Nat):A5 (nc n):=by
 induction n using Nat.strongRecOn with
 | _ n u=>
  by_cases h:n=0
  . subst h;rw[N4];intro x hx;cases hx
  . rw[KD h];intro x hx;rcases qV.1 hx with rfl|hx
    . unfold aQ;omega
    . exact u (n/4294967296) (by omega) x hx
def Wl {n:Nat} :nc n= []↔n=0:=by
 constructor
 . intro h;by_cases u:n=0
   . exact u
   . rw[KD u]at h;cases h
 . rintro rfl;exact N4
def mZ (a:Int) (m:Nat) (u:aQ a) (h:a≠0\/m≠0):nc (a.toNat+4294967296*m)=a::nc m:=by
 unfold aQ at u;rw[KD (by omega)];congr 1
 . omega
 . congr 1;omega
def Pg (a b:List Int):nv (a++b)=nv a+4294967296^a.length*nv b:=by
 induction a with
 |nil=>simp[nv]
 |cons x a u=>
  simp only[yK,nv,u,rJ,rZ];rw[tF, <-uC, <-sJ,tH 4294967296 (4294967296^a.length)]
def Ph (n:Nat):nv (List.replicate n 0)=0:=by
 induction n with
 |zero=>rfl
 |succ n u=>simp[List.replicate_succ,nv,u]
def RK {a:Int} {l:List Int} :A5 (a::l)↔aQ a/\A5 l:=by simp[A5]
def Fm {l:List Int} (h:A5 l):nv l<4294967296^l.length:=by
 induction l with
 |nil=>simp[nv]
 |cons a l u=>
  rw[RK]at h;have:=u h.2;have h1:=h.1;unfold aQ at h1;simp only[nv,rJ,rZ];omega
def B3g {l:List Int} (h:A5 l) (hl:∀x,l.getLast? =some x->x≠0):nc (nv l)=l:=by
 induction l with
 |nil=>exact N4
 |cons a l u=>
  rw[RK]at h;simp only[nv];cases l with
  |nil=>
   have:=hl a rfl;rw[mZ a _ h.1 (.inl this)];simp only[nv,N4]
  |cons b l=>
   have u:=u h.2 (fun x hx=>hl x (by rw[List.getLast?_cons_cons];exact hx));have hn:nv (b::l)≠0:=by
    intro h0;rw[h0,N4]at u;cases u
   rw[mZ a _ h.1 (.inr hn),u]
def nA {l:List Int} (h:A5 l) {n:Nat} (hn:n<=l.length) (hz:∀i x,n<=i->l[i]? =some x->x=0) (hl:n=0\/∃x,l[n-1]? =some x/\x≠0):l.take n=nc (nv l):=by
 have e:nv l=nv (l.take n):=by
  conv=>lhs;rw[<-uT n l]
  rw[Pg];have:l.drop n=List.replicate (l.length-n) 0:=by
   apply vS;intro i;rw[wW];by_cases hi:n+i<l.length
   . rw[qN hi,uM,rB (by omega)];rw[hz (n+i) l[n+i] (by omega) (qN hi)]
   . rw[rS (by omega),rS (by simp;omega)]
  rw[this,Ph];simp
 rw[e]
 symm
 apply B3g
 . intro x hx;exact h x (sL hx)
 . intro x hx;rw[List.getLast?_eq_getElem?,qU,sV hn]at hx;rcases hl with u| ⟨y,hy,a0⟩
   . subst u;simp at hx
   . rw[rT (by
      rcases uY n with u|u
      . subst u;simp at hx
      . omega),hy]at hx
     cases hx;exact a0
def Fl {n k:Nat} (h:n<4294967296^k):(nc n).length<=k:=by
 induction k generalizing n with
 |zero=>have:n=0:=by simpa using h
        subst this;rw[N4];exact rA _
 |succ k ih=>
  by_cases u:n=0
  . subst u;rw[N4];exact rM _
  . rw[KD u,rJ];have:n/4294967296<4294967296^k:=by
     rw[tL (by decide)];rw[rZ]at h;exact h
    have:=ih this;omega
def C7 {l:List Int} (h:A5 l):(nc (nv l)).length<=l.length:=Fl (Fm h)
def A4n {n k:Nat} (h:k<(nc n).length):4294967296^k<=n:=by
 rcases sF n (4294967296^k)with h1|h1
 . have:=Fl h1;omega
 . exact h1
def I2 {m n:Nat} (h:m<=n):(nc m).length<=(nc n).length:=by
 apply Fl;have:=Fm (H9 n);rw[E1]at this;omega
def Kc (n:Nat):n<4294967296^(nc n).length:=by
 have:=Fm (H9 n);rwa[E1]at this
def Nz (m n:Nat):(nc (m*n)).length<=(nc m).length+(nc n).length:=by
 apply Fl;rw[uO];have h1:=Kc m;have u:=Kc n;exact Nat.mul_lt_mul'' h1 u
def KC (m n:Nat):(nc (m+n)).length<=max (nc m).length (nc n).length+1:=by
 apply Fl;have h1:=Kc m;have u:=Kc n;have h3:4294967296^(nc m).length<=4294967296^(max (nc m).length (nc n).length):=rW (by decide) (Nat.le_max_left ..);have h4:4294967296^(nc n).length<=4294967296^(max (nc m).length (nc n).length):=rW (by decide) (Nat.le_max_right ..);rw[rZ];omega
abbrev Jt:=Bool×List Int
abbrev C0:=Jt×List Int
def Bw (a b:Nat):Int:=if a<b then -1 else if b<a then 1 else 0
def J0 (a b:Int):Int:=if a<b then -1 else if b<a then 1 else 0
def iv (x:Jt):Int:=if x.1=true then -(nv x.2:Int)else(nv x.2:Int)
def ic (v:Int):Jt:=(decide (v<0),nc v.natAbs)
def B1r (x:C0):Int:=if nv x.2=0 then 0 else(iv x.1).sign
def rv (x:C0):Rat:=mkRat (iv x.1) (nv x.2)
def rc (q:Rat):C0:=(ic q.num,nc q.den)
def H7 (x:C0):Prop:=nv x.1.2<2147483648/\nv x.2<2147483648
instance (x:C0):Decidable (H7 x):=by unfold H7;infer_instance
def Pf (x:C0):Int:=if nv x.2=0 then 0 else iv x.1
def Me (x:C0):Int:=if nv x.2=0 then 1 else(nv x.2:Int)
def zi:Jt:=(false,[])
def zr:C0:=((false,[]),[])
def ri (k:Int):C0:=(ic k,[1])
abbrev Gu (l:List Int):Prop:=l.length<=35184372088832
abbrev E6 (l:List Int):Prop:=l.length<=17592186044416
abbrev Ae (l:List Int):Prop:=l.length<=8796093022208
def F3 (x:C0):Prop:=x.1.2.length<=2199023255552/\x.2.length<=2199023255552
def Ic (a b:Jt):Rat:=Rat.divInt (iv a) (iv b)
def I7 (n:Nat):Nat:=if n=0 then 0 else Nat.log2 n+1
def B0y (A B u0 u1 v0 v1:Int) (ev:Bool):Prop:=v0=0\/∃A' B':Int,A'=(if ev then u0*A-v0*B else v0*B-u0*A)/\B'=(if ev then v1*B-u1*A else u1*A-v1*B)/\0<=B'/\B'<=A'/\A=v1*A'+v0*B'/\B=u1*A'+u0*B'/\1<=v0/\1<=v1/\0<=u0/\0<=u1
def Lq (l:List Int):Prop:=l.getD (l.length-1) 0≠0
end Go.Proofs.YthiimnbdinlfeaaGreat
namespace Go.Proofs.YthiimnbdinlfeaaGreat
open Go.Vc Go.Gw
open Go.IntKind (i64 u64 u32)
def K4 (a b:Bool):K7 a true b=(a||b):=by cases a<;>rfl
def L8 (a b:Bool):K7 a b false=(a&&b):=by cases a<;>rfl
def wr {a:Int} (h1: -9223372036854775808<=a) (u:a<=9223372036854775807):i64.wrap a=a:=IntWalk.i64_in _ ⟨h1,u⟩
def wv {a:Int} (h: -9223372036854775808<=a/\a<=9223372036854775807):i64.wrap a=a:=wr h.1 h.2
def J4 {α:Type} {d:α} {l:List α} {i:Int} (u:0<=i) (h1:i<(l.length:Int)):gx d l i∈l:=sO (J3 u h1)
def F9 {α:Type} {d:α} {l:List α} {i:Int} (u:0<=i) (h1:i<(l.length:Int)):gx d l i=l.getD i.toNat d:=by
 have:=J3 (d:=d) u h1;rw[qF,this];rfl
def Ib {α:Type} {d:α} {l:List α} {q:α->Prop} {i:Int} (u:0<=i) (h1:i<(l.length:Int)) (hb:∀x∈l.take i.toNat,q x) (hq:q (gx d l i)):∀x∈l.take (i+1).toNat,q x:=by
 intro x hx;rw[show(i+1).toNat=i.toNat+1 from by omega,rX,J3 (d:=d) u h1]at hx;simp at hx;rcases hx with hx|rfl
 . exact hb x hx
 . exact hq
def E9 {α:Type} {l:List α} {i:Int} (h:(l.length:Int)<=i):l.take i.toNat=l:=qR (by omega)
def PC:u32.max=4294967295:=by decide
def PD:u32.min=0:=by decide
def AG:u64.max=18446744073709551615:=by decide
def bR:u64.min=0:=by decide
def Zp:i64.max=9223372036854775807:=by decide
def Ru:i64.min= -9223372036854775808:=by decide
def A3 {l:List Int} (h:∀x∈l,u32.min<=x/\x<=u32.max):A5 l:=fun x hx=>by
 have:=h x hx;rw[PD,PC]at this;exact this
def W0 {a:Int} (u:0<=a) (h1:a<=18446744073709551615):u64.wrap a=a:=IntWalk.u64_in _ ⟨u,h1⟩
def w32 {a:Int} (u:0<=a) (h1:a<=4294967295):u32.wrap a=a:=IntWalk.u32_in _ ⟨u,h1⟩
def Bo (a:Int):u32.wrap a=a%4294967296:=IntKind.wrap_u32 a
def Bp (a:Int):u64.wrap a=a%18446744073709551616:=IntKind.wrap_u64 a
def Sa {l:List Int} (h:A5 l) {i:Int} (u:0<=i) (h1:i<(l.length:Int)):0<=gx 0 l i/\gx 0 l i<=4294967295:=h _ (J4 u h1)
def MA {v:Int} (u:0<=v) (h1:v<18446744073709551616):(BitVec.ofInt 64 v).toNat=v.toNat:=by
 rw[xL];congr 1;omega
def ST {v b:Int} {k:Nat} (v0:0<=v) (v1:v<2^k) (b0:0<=b) (hb:b*2^k<18446744073709551616) (hv:v<18446744073709551616):(((BitVec.ofInt 64 v|||BitVec.ofInt 64 (b*2^k)).toNat:Nat):Int)=v+b*2^k:=by
 have u:0<=b*2^k:=tJ b0 (Int.pow_nonneg (by decide));rw[BitVec.toNat_or,MA v0 hv,MA u hb];have e:(b*2^k).toNat=b.toNat<<<k:=by
  rw[Nat.shiftLeft_eq,g2s b0 (Int.pow_nonneg (by decide)),Int.toNat_pow_of_nonneg (by decide)];rfl
 have a0:v.toNat<2^k:=by
  have:(v.toNat:Int)<((2^k:Nat):Int):=by rw[sN v0,xB];exact v1
  exact sB.1 this
 rw[e,Nat.or_comm, <-zT a0, <-e,wL,sN v0,sN u,Int.add_comm]
def GP {l:List Int} {i:Int} (u:0<=i) (h1:i<(l.length:Int)):nv (l.take (i+1).toNat)=nv (l.take i.toNat)+4294967296^i.toNat*(gx 0 l i).toNat:=by
 rw[show(i+1).toNat=i.toNat+1 from by omega,rX,J3 (d:=(0:Int)) u h1,g0r,Pg,qU,sV (by omega)];simp[nv]
def U5 {l:List Int} {i:Int} (h0:0<=i) (h1:i<(l.length:Int)):l.drop i.toNat=gx 0 l i::l.drop (i+1).toNat:=by
 have h:=J3 (d:=(0:Int)) h0 h1;have u:i.toNat<l.length:=by omega
 rw[qN u]at h;rw[wZ u,show(i+1).toNat=i.toNat+1 from by omega];congr 1;exact vZ h
def aY {a b:List Int} (ha:A5 a) (_:A5 b) (hl:a.length=b.length) {i:Int} (u:0<=i) (h1:i<(a.length:Int)) (he:a.drop (i+1).toNat=b.drop (i+1).toNat) (a1:gx 0 a i<gx 0 b i):nv a<nv b:=by
 have ea:nv a=nv (a.take i.toNat)+4294967296^i.toNat*nv (a.drop i.toNat):=by
  conv=>lhs;rw[<-uT i.toNat a,Pg,qU,sV (by omega)]
 have eb:nv b=nv (b.take i.toNat)+4294967296^i.toNat*nv (b.drop i.toNat):=by
  conv=>lhs;rw[<-uT i.toNat b,Pg,qU,sV (by omega)]
 have a0:=Sa ha u h1;have h2:nv (a.drop i.toNat)+1<=nv (b.drop i.toNat):=by
  rw[U5 u h1,U5 u (by omega),he];simp only[nv];omega
 have h3:nv (a.take i.toNat)<4294967296^i.toNat:=by
  have:=Fm (l:=a.take i.toNat) fun x hx=>ha x (sL hx)
  rwa[qU,sV (by omega)]at this
 have h4:=sW (4294967296^i.toNat) h2;rw[tF,yG]at h4;omega
def Zu {m n:Nat} (h:(nc m).length<(nc n).length):m<n:=by
 rcases sF m n with h1|h1
 . exact h1
 . have:=I2 h1;omega
def Sd:nc 1= [1]:=by rw[KD (by decide)];simp[N4]
def B1g:nv [1]=1:=rfl
def aX:nv []=0:=rfl
def XX (n:Nat):Bw n n=0:=by simp[Bw]
def Mp {m n:Nat} (h:m<n):Bw m n= -1:=by simp[Bw,h]
def OT {m n:Nat} (h:n<m):Bw m n=1:=by
 unfold Bw;rw[qT (by omega),rB h]
def RZ {m n:Nat} :Bw m n=0↔m=n:=by
 unfold Bw;split
 . omega
 . split<;>omega
def U4 (v:Int):iv (ic v)=v:=by
 unfold iv ic;simp only[sA,E1];split<;>omega
def A3g {neg:Bool} {m:Nat} :ic (iv (neg,nc m))=(neg&&decide (m≠0),nc m):=by
 unfold ic iv;simp only[E1];cases neg
 . simp
 . simp only[zS,xG,Prod.mk.injEq,vC];constructor
   . omega
   . congr 1;omega
def B2w {x:Jt} :ic (iv x)=(x.1&&decide (nv x.2≠0),nc (nv x.2)):=by
 have:iv x=iv (x.1,nc (nv x.2)):=by unfold iv;simp only[E1]
 rw[this,A3g]
def B1p (k:Int):nv (ri k).2=1:=rfl
def bH (k:Int):rc (k:Rat)=ri k:=by
 unfold rc ri;rw[g2c,g2a,Sd]
def B3l (k:Int):rv (ri k)=(k:Rat):=by
 unfold rv;rw[B1p];show mkRat (iv (ic k)) 1= _;rw[U4];exact Rat.mkRat_one k
def I8 (q:Rat):rv (rc q)=q:=by
 unfold rv rc;simp only[U4,E1];exact g2n q
def A8t (x:C0):B1r x=(rv x).num.sign:=by
 unfold B1r rv;split
 . rename_i h;rw[h,yH];rfl
 . rename_i h;rw[Rat.num_mkRat,qT h];have hg:(0:Int)<(((nv x.2).gcd (iv x.1).natAbs:Nat):Int):=by
    have:=g1j (iv x.1).natAbs (sP h);omega
   have hd:(((nv x.2).gcd (iv x.1).natAbs:Nat):Int)∣iv x.1:=xM.2 (yB ..);obtain⟨c,u⟩:=hd;generalize (((nv x.2).gcd (iv x.1).natAbs:Nat):Int)=g at hg u;rw[u,xH _ (by omega),g2x,uG hg,Int.one_mul]
def Mo {x:Int} {d:Nat} (u:d≠0):(mkRat x d).num=x/((d.gcd x.natAbs:Nat):Int)/\(mkRat x d).den=d/d.gcd x.natAbs:=by
 rw[Rat.num_mkRat,Rat.den_mkRat,qT u,qT u];exact⟨rfl,rfl⟩
def dg (l:List Int) (i:Nat):Nat:=(l.getD i 0).toNat
def H3 (l:List Int) (i:Nat):nv (l.take (i+1))=nv (l.take i)+4294967296^i*dg l i:=by
 unfold dg;by_cases h:i<l.length
 . have:=GP (l:=l) (i:=(i:Int)) (by omega) (by omega);rw[show((i:Int)+1).toNat=i+1 from by omega,qJ]at this;rw[this,F9 (by omega) (by omega),qJ]
 . rw[qR (by omega),qR (by omega),qF,rS (by omega)];simp
def K6 {l:List Int} (h:A5 l) (i:Nat):dg l i<=4294967295:=by
 unfold dg;by_cases hi:i<l.length
 . rw[qF,qN hi];have:=h l[i] (wT hi);unfold aQ at this;simp only[vQ];omega
 . rw[qF,rS (by omega)];simp
def Eu {l:List Int} (h:A5 l) {i:Int} (u:0<=i) (h1:i<(l.length:Int)):gx 0 l i=(dg l i.toNat:Int):=by
 have:=Sa h u h1;unfold dg;rw[<-F9 (d:=(0:Int)) u h1];omega
def W8 {l:List Int} (h:A5 l) {i:Nat} :l.getD i 0=(dg l i:Int):=by
 unfold dg;by_cases hi:i<l.length
 . have:=h l[i] (wT hi);unfold aQ at this;rw[qF,qN hi];simp only[vQ];omega
 . rw[qF,rS (by omega)];rfl
def Nu {l:List Int} {i:Nat} (h:l.length<=i):dg l i=0:=by
 unfold dg;rw[qF,rS h];rfl
def Q9 {l:List Int} {i:Nat} {v:Int} (h:i<l.length):nv ((l.set i v).take (i+1))=nv (l.take i)+4294967296^i*v.toNat:=by
 rw[H3,yR (rA _)];unfold dg;rw[qF,sZ h];rfl
def Je:∀ {l:List Int} {k:Nat} {v:Int},k<l.length->nv (l.set k v)+4294967296^k*dg l k=nv l+4294967296^k*v.toNat
 | [],_,_,h=>by simp at h
 |a::l,0,v,_=>by simp[nv,dg];omega
 |a::l,k+1,v,h=>by
  have u:=Je (l:=l) (k:=k) (v:=v) (by simpa using h);have e:dg (a::l) (k+1)=dg l k:=by simp[dg]
  rw[e];simp only[List.set_cons_succ,nv,rZ];generalize nv (l.set k v)=A at*;have e1:4294967296^k*4294967296*dg l k=4294967296*(4294967296^k*dg l k):=by rw[tH (4294967296^k) 4294967296,sJ]
  have e2:4294967296^k*4294967296*v.toNat=4294967296*(4294967296^k*v.toNat):=by rw[tH (4294967296^k) 4294967296,sJ]
  rw[e1,e2,uC,uC, <-tF, <-tF,u]
def XQ {l:List Int} {k:Nat} {v:Int} (h:A5 l) (u:aQ v):A5 (l.set k v):=fun x hx=>by
 rcases List.mem_or_eq_of_mem_set hx with hx|hx
 . exact h x hx
 . rw[hx];exact u
def Wc {l:List Int} {k i:Nat} {v:Int} (u:k<l.length):dg (l.set k v) i=if i=k then v.toNat else dg l i:=by
 unfold dg;rw[qF,xF];by_cases h:k=i
 . subst h;rw[rB rfl,rB u,rB rfl];rfl
 . rw[qT h,qT (fun e=>h e.symm),qF]
def GG (n i:Nat):dg (List.replicate n 0) i=0:=by
 unfold dg;rw[qF,uM];split<;>rfl
def LZ {l:List Int} {i:Nat} (h:∀j,i<=j->dg l j=0):nv (l.take i)=nv l:=by
 have key:∀k,nv (l.take (i+k))=nv (l.take i):=by
  intro k
  induction k with
  |zero=>rfl
  |succ k u=>rw[<-uC,H3,u,h (i+k) (by omega),wF,tA]
 rw[<-key l.length,qR (by omega)]
def YB {P A B o c a b s c':Nat} (h:o+P*c=A+B) (u:s+4294967296*c'=c+a+b):(o+P*s)+(P*4294967296)*c'=(A+P*a)+(B+P*b):=by
 have:=tN (P* ·) u;simp only[tF, <-sJ]at this;omega
def SA {P A B o c a b s c':Nat} (h:A+P*c=o+B) (u:a+4294967296*c'=s+b+c):(A+P*a)+(P*4294967296)*c'=(o+P*s)+(B+P*b):=by
 have:=tN (P* ·) u;simp only[tF, <-sJ]at this;omega
def pU {a b:List Int} (ha:A5 a) (hb:A5 b):nv a+nv b<4294967296^(max a.length b.length+1):=by
 have hA:=Fm ha;have hB:=Fm hb;have u:4294967296^a.length<=4294967296^(max a.length b.length):=rW (by decide) (Nat.le_max_left ..);have a0:4294967296^b.length<=4294967296^(max a.length b.length):=rW (by decide) (Nat.le_max_right ..);rw[rZ];generalize 4294967296^(max a.length b.length)=P at*;omega
def DC {P c x:Nat} (h:P*c<=x) (hx:x<P):c=0:=by
 rcases uY c with h1|h1
 . exact h1
 . have:=sW P h1;omega
def Jc (l:List Int):iv (false,l)=(nv l:Int):=rfl
def RI (l:List Int):iv (true,l)= -(nv l:Int):=rfl
def A3s (b:Bool) (l:List Int):iv (!b,l)= -iv (b,l):=by
 cases b
 . rfl
 . show(nv l:Int)= - -(nv l:Int);omega
def Fi (v:Int):(ic v).2.length=(nc v.natAbs).length:=rfl
def jN:ic 1=(false,[1]):=by unfold ic;rw[show(1:Int).natAbs=1 from rfl,Sd];rfl
def aC:ic 0=(false,[]):=by unfold ic;rw[show(0:Int).natAbs=0 from rfl,N4];rfl
def nI:rc 0=((false,[]),[1]):=by
 unfold rc;rw[Rat.zero_num,Rat.zero_den,aC,Sd]
def dG {a:Jt} {b:Jt} (h:iv b=1):Ic a b=((iv a:Int):Rat):=by
 unfold Ic;rw[h];have:=zQ (iv a) 1;rw[show((1:Nat):Int)=1 from rfl]at this;rw[this];exact Rat.mkRat_one _
def oS {a:Jt} {b:Jt} (h:iv b=0):Ic a b=0:=by
 unfold Ic;rw[h,Rat.divInt_zero]
def A8u (x:C0):Ic x.1 (false,x.2)=rv x:=by
 unfold Ic rv;rw[Jc,zQ]
end Go.Proofs.YthiimnbdinlfeaaGreat
namespace Go.Proofs.YthiimnbdinlfeaaGreat
open Go.IntKind (i64 u64 u32)
structure VD (U V v1 v2 t u2 P:Nat):Prop where
 pos:0<P
 v1p:0<v1
 v1b:v1<4294967296
 v2b:v2<4294967296
 u2b:u2<4294967296
 vlo:(v1*4294967296+v2)*P<=V
 vhi:V<(v1*4294967296+v2+1)*P
 ulo:(t*4294967296+u2)*P<=U
 uhi:U<(t*4294967296+u2+1)*P
 lt:U<V*4294967296
variable {U V v1 v2 t u2 P:Nat}
def VD.vpos (h:VD U V v1 v2 t u2 P):0<V:=by
 have h1:=h.vlo;have u:0<(v1*4294967296+v2)*P:=Nat.mul_pos (by have:=h.v1p;omega) h.pos;omega
def VD.quo (h:VD U V v1 v2 t u2 P):U/V<4294967296:=by
 rw[tL h.vpos,tH];exact h.lt
def mQ {a b c P Q:Nat} (hP:0<P) (h:a*P<=Q) (hq:Q<(b+1)*P) (hc:c<=a):c<=b:=by
 have h1:c*P<=a*P:=rI _ hc;have u:c*P<(b+1)*P:=by omega
 have:=wX u;omega
def VD.top (h:VD U V v1 v2 t u2 P):t*4294967296+u2<(v1*4294967296+v2+1)*4294967296:=by
 have h1:=h.ulo;have h2:=h.lt;have h3:=rI 4294967296 (vW h.vhi);have u:(t*4294967296+u2)*P<((v1*4294967296+v2+1)*4294967296)*P:=by
  have h5:V*4294967296<(v1*4294967296+v2+1)*P*4294967296:=wQ h.vhi (by decide);rw[zF];omega
 exact wX u
def VD.t_le (h:VD U V v1 v2 t u2 P):t<=v1*4294967296+v2:=by
 have:=h.top;omega
def VD.est (h:VD U V v1 v2 t u2 P):U/V*v1<=t:=by
 have h1:U/V*V<=U:=yS U V;have u:U/V*(v1*4294967296+v2)*P<=U:=by
  rw[sJ];exact qW (sW _ h.vlo) h1
 have h3:U/V*(v1*4294967296+v2)<=t*4294967296+u2:=mQ h.pos u h.uhi (rA _);rw[tF, <-sJ]at h3;have:=h.u2b;omega
def VD.dec (h:VD U V v1 v2 t u2 P) {d r:Nat} (ht:t=d*v1+r) (hq:U/V<=d) (hb:4294967296<=d\/r*4294967296+u2<d*v2):U/V+1<=d:=by
 rcases sF (U/V) d with h1|h1
 . omega
 . exfalso;have he:U/V=d:=by omega
   rcases hb with hb|hb
   . have:=h.quo;omega
   . have h1:d*V<=U:=by rw[<-he];exact yS U V
     have u:d*(v1*4294967296+v2)*P<=U:=by
      rw[sJ];exact qW (sW _ h.vlo) h1
     have h3:d*(v1*4294967296+v2)<=t*4294967296+u2:=mQ h.pos u h.uhi (rA _);rw[tF, <-sJ,ht,uH]at h3;omega
def VD.near (h:VD U V v1 v2 t u2 P) {d r:Nat} (ht:t=d*v1+r) (hd:d<4294967296) (a0:d*v2<=r*4294967296+u2):d<=U/V+1:=by
 have h1:=h.ulo;have h2:d*(v1*4294967296+v2)<=t*4294967296+u2:=by
  rw[ht,uH,tF, <-sJ];omega
 have h3:d*(v1*4294967296+v2)*P<=U:=qW (rI _ h2) h1;have h4:d*V<=d*((v1*4294967296+v2+1)*P):=sW _ (vW h.vhi);have h5:d*((v1*4294967296+v2+1)*P)=d*(v1*4294967296+v2)*P+d*P:=by
  rw[<-sJ,tF d,yG,uH]
 have h6:d*P<V:=by
  have h7:d*P<4294967296*P:=wQ hd h.pos;have h8:4294967296*P<=(v1*4294967296+v2)*P:=rI _ (by have:=h.v1p;omega);have:=h.vlo;omega
 have h9:d*V<U+V:=zD (qW h4 (g3a h5)) (Nat.add_lt_add_of_le_of_lt h3 h6);rcases uY d with h0|h0
 . rw[h0];exact rM _
 . have u:(d-1)*V<U:=by
    have:d*V=(d-1)*V+V:=by
     conv=>lhs;rw[show d=d-1+1 from by omega,uH,wR]
    omega
   have:=(uU h.vpos).2 (vW u);omega
def VD.out (h:VD U V v1 v2 t u2 P) {d r:Nat} (ht:t=d*v1+r) (hr:4294967296<=r) (hd:U/V<=d):d<4294967296/\d*v2<=r*4294967296+u2:=by
 have h1:=h.t_le;have h2:=h.v2b;have a0:d<4294967296:=by
  rcases sF d 4294967296 with u|u
  . exact u
  . have:=rI v1 u;rw[tH 4294967296]at this;omega
 refine⟨a0, ?_⟩;have u:d*v2<=4294967295*4294967295:=yF (by omega) (by omega);omega
end Go.Proofs.YthiimnbdinlfeaaGreat
namespace Go.Proofs.YthiimnbdinlfeaaGreat
open Go.Vc Go.Gw
open Go.IntKind (i64 u64 u32)
def Zd:I7 0=0:=rfl
def ZI (n:Nat):n<2^I7 n:=by
 unfold I7;split
 . rename_i h;subst h;decide
 . exact Nat.lt_log2_self
def Zb {n:Nat} (h:n≠0):2^(I7 n-1)<=n/\1<=I7 n:=by
 unfold I7;rw[qT h,Nat.add_sub_cancel];exact⟨Nat.log2_self_le h,by omega⟩
def A6y {n k:Nat} (u:2^k<=n) (h1:n<2^(k+1)):I7 n=k+1:=by
 have hp:0<2^k:=tO (by decide);unfold I7;rw[qT (by omega)];congr 1;exact(Nat.log2_eq_iff (by omega)).2 ⟨u,h1⟩
def GD {n k:Nat} (h:2^k<=n):I7 n=I7 (n/2^k)+k:=by
 have u:0<2^k:=tO (by decide);have hm:n/2^k≠0:=by
  have:1<=n/2^k:=(uU u).2 (by omega);omega
 obtain⟨h1,h2⟩:=Zb hm;have h3:=ZI (n/2^k);have e:I7 (n/2^k)+k=(I7 (n/2^k)-1+k)+1:=by omega
 rw[e];apply A6y
 . rw[uO];have:=(uU u).1 h1;exact this
 . rw[show I7 (n/2^k)-1+k+1=I7 (n/2^k)+k from by omega,uO];exact(tL u).1 h3
def QC (p q:Rat):Int:=if p<q then -1 else if q<p then 1 else 0
def QD {a b:Int} {c d:Nat} (u:c≠0) (hd:d≠0):QC (mkRat a c) (mkRat b d)=J0 (a*d) (b*c):=by
 have key:∀ {a b:Int} {c d:Nat},c≠0->d≠0->(mkRat a c<mkRat b d↔a*d<b*c):=fun {a b c d} u hd=>by
  have hc':(0:Rat)<(c:Rat):=g2b.2 (sP u);have a0:(0:Rat)<(d:Rat):=g2b.2 (sP hd);rw[zR,zR,Rat.div_lt_iff hc',wS,wG,g3e _ (c:Rat), <-wG, <-wS,Rat.lt_div_iff a0];have:(a:Rat)*(d:Rat)=((a*(d:Int):Int):Rat):=by rw[Rat.intCast_mul];rfl
  have h2:(b:Rat)*(c:Rat)=((b*(c:Int):Int):Rat):=by rw[Rat.intCast_mul];rfl
  rw[this,h2,Rat.intCast_lt_intCast]
 unfold QC J0;simp only[key u hd,key hd u]
def oI {p q:Rat} (h:p.num.sign≠q.num.sign):QC p q=J0 p.num.sign q.num.sign:=by
 have hp:=g2m p;have hq:=g2m q;have e:QC p q=J0 (p.num*q.den) (q.num*p.den):=by
  have:=QD (a:=p.num) (b:=q.num) p.den_nz q.den_nz;rwa[g2n,g2n]at this
 rw[e];have s1:(p.num*(q.den:Int)).sign=p.num.sign:=by rw[g2x,uG (show(0:Int)<q.den by omega),Int.mul_one]
 have s2:(q.num*(p.den:Int)).sign=q.num.sign:=by rw[g2x,uG (show(0:Int)<p.den by omega),Int.mul_one]
 rw[<-s1, <-s2]at h⊢;generalize p.num*(q.den:Int)=x at*;generalize q.num*(p.den:Int)=y at*;have key:∀z:Int,(z<0/\z.sign= -1)\/(z=0/\z.sign=0)\/(0<z/\z.sign=1):=fun z=>by
  rcases g0w z 0 with h|h|h
  . exact .inl ⟨h,wV h⟩
  . exact .inr (.inl ⟨h,by rw[h];rfl⟩)
  . exact .inr (.inr ⟨h,uG h⟩)
 unfold J0;rcases key x with⟨h1,u⟩ | ⟨h1,u⟩ | ⟨h1,u⟩<;>rcases key y with⟨h3,h4⟩ | ⟨h3,h4⟩ | ⟨h3,h4⟩<;>rw[u,h4]at h⊢ <;>first|exact absurd rfl h| (split<;>(try split)<;>(try split)<;>(try split)<;>omega)
end Go.Proofs.YthiimnbdinlfeaaGreat
namespace Go.Proofs.YthiimnbdinlfeaaGreat
open Go.IntKind (i64 u64 u32)
structure Leh (X Y w x y u0 u1 u2 v0 v1 v2:Int) (ev:Bool):Prop where
 yx:y<=x
 y0:0<=y
 x0:0<x
 u10:0<=u1
 u20:0<=u2
 v10:0<=v1
 v20:1<=v2
 uv2:u2<=v2
 ex:x=if ev then v1*Y-u1*X else u1*X-v1*Y
 ey:y=if ev then u2*X-v2*Y else v2*Y-u2*X
 idX:x*v2+y*v1=X
 idY:x*u2+y*u1=Y
 det:u1*v2-u2*v1=if ev then -1 else 1
 /--At the start,or with what the cofactors before need. -/
 back:(u0=0/\u1=1/\v0=0/\v1=0/\ev=false/\u2=0/\v2=1)\/(0<=u0/\0<=v0/\u1<=v1/\v1<=x/\u0<=w/\v0<=w/\w-x>=v0+v1/\(v0=0\/u0<=v0)/\1<=v1/\
  w=(if ev then u0*X-v0*Y else v0*Y-u0*X)/\(u0*v1-u1*v0=if ev then 1 else -1))
def Leh.start {X Y:Int} (hY:0<=Y) (h:Y<=X) (u:0<X):Leh X Y 0 X Y 0 1 0 0 0 1 false where
 yx:=h
 y0:=hY
 x0:=u
 u10:=by decide
 u20:=by decide
 v10:=by decide
 v20:=by decide
 uv2:=by decide
 ex:=by simp
 ey:=by simp
 idX:=by omega
 idY:=by omega
 det:=by simp
 back:= .inl ⟨rfl,rfl,rfl,rfl,rfl,rfl,rfl⟩
def Leh.step {X Y w x y u0 u1 u2 v0 v1 v2:Int} {ev:Bool} (h:Leh X Y w x y u0 u1 u2 v0 v1 v2 ev) (c1:v2<=y) (c2:v1+v2<=x-y):Leh X Y x y (x%y) u1 u2 (u1+x/y*u2) v1 v2 (v1+x/y*v2) (!ev):=by
 have hv:=h.v20;have hy:0<y:=by omega
 have a8:1<=x/y:=by
  rw[g1r hy];have:=h.yx;omega
 have aa:=g1w x (b:=y) (by omega);have ab:=zA x hy;have ad:x=y*(x/y)+x%y:=(xU x y).symm;have he:x%y=x-x/y*y:=by rw[g1s (x/y)];omega
 have a5:=h.idX;have a6:=h.idY;have a1:=h.det;have u:=h.ex;have a0:=h.ey;have a3:=h.u20;have a2:=h.u10;have a7:=h.v10;have a4:=h.uv2;generalize x/y=q at*;have a9:0<=q*u2:=tJ (by omega) a3;have ae:1*v2<=q*v2:=sE a8 (by omega);have ac:q*u2<=q*v2:=tS a4 (by omega);refine⟨xE ab,aa,hy,a3,Int.add_nonneg a2 a9,by omega,by omega, ?_, ?_, ?_, ?_, ?_, ?_, .inr ⟨a2,a7,a4,c1, ?_,by omega,by omega, ?_,hv, ?_, ?_⟩⟩
 . rcases h.back with⟨_,b1,_,b2,_,b3,b4⟩ | ⟨_,_,b1,_⟩
   . subst b3 b4;omega
   . omega
 . cases ev<;>simpa using a0
 . rw[he];cases ev
   . simp only[g0i,xG,vO,yJ]at u a0⊢;rw[u,a0];grind
   . simp only[yV,xG,vO,yJ]at u a0⊢;rw[u,a0];grind
 . rw[he, <-a5];grind
 . rw[he, <-a6];grind
 . have e1:u2*(v1+q*v2)-(u1+q*u2)*v2= -(u1*v2-u2*v1):=by
    grind
   rw[e1,a1];cases ev<;>simp
 . rcases h.back with⟨_,b1,_,b2,_⟩ | ⟨_,_,b1,_⟩<;>omega
 . rcases h.back with⟨_,b1,_,b2,_⟩ | ⟨_,_,b1,_⟩
   . exact .inl b2
   . exact .inr b1
 . cases ev<;>simpa using u
 . rw[a1];cases ev<;>simp
def Leh.apply {X Y w x y u0 u1 u2 v0 v1 v2:Int} {ev:Bool} (h:Leh X Y w x y u0 u1 u2 v0 v1 v2 ev) (a4:v0≠0) {P α β A B:Int} (hP:0<P) (a2:0<=α) (a9:α<P) (a3:0<=β) (aa:β<P) (hA:A=X*P+α) (hB:B=Y*P+β):
 ∃A' B':Int,A'=(if ev then u0*A-v0*B else v0*B-u0*A)/\B'=(if ev then v1*B-u1*A else u1*A-v1*B)/\0<=B'/\B'<=A'/\A=v1*A'+v0*B'/\B=u1*A'+u0*B'/\1<=v0/\1<=v1/\0<=u0/\0<=u1:=by
 rcases h.back with⟨_,_,b2,_⟩ | ⟨a0,b0,a6,vx,uw,vw,a8,a5,v1p,ew,det⟩
 . exact absurd b2 a4
 have a7:u0<=v0:=a5.resolve_left a4;have a1:=h.u10;refine⟨_,_,rfl,rfl, ?_, ?_, ?_, ?_,by omega,v1p,a0,a1⟩
 . --the second combination is not negative
   have u:=h.ex;have h1:0<=(x-v1)*P:=tJ (by omega) (by omega);have h2:0<=u1*α:=tJ a1 a2;have h3:v1*β<=v1*P:=tS (by omega) (by omega);have h4:0<=v1*β:=tJ (by omega) a3;have h5:u1*α<=u1*P:=tS (by omega) a1;have h6:u1*P<=v1*P:=sE a6 (by omega);rw[Int.sub_mul]at h1;cases ev
   . simp only[vO,yJ]at u⊢;have:u1*A-v1*B=x*P+u1*α-v1*β:=by
      rw[hA,hB,u];grind
     omega
   . simp only[xG]at u⊢;have:v1*B-u1*A=x*P+v1*β-u1*α:=by
      rw[hA,hB,u];grind
     omega
 . have u:=h.ex;have h1:0<=(w-x-(v0+v1))*P:=tJ (by omega) (by omega);have h2:0<=(u0+u1)*α:=tJ (by omega) a2;have h3:(v0+v1)*β<=(v0+v1)*P:=tS (by omega) (by omega);have h4:0<=(v0+v1)*β:=tJ (by omega) a3;have h5:(u0+u1)*α<=(u0+u1)*P:=tS (by omega) (by omega);have h6:(u0+u1)*P<=(v0+v1)*P:=sE (by omega) (by omega);rw[Int.sub_mul]at h1;cases ev
   . simp only[vO,yJ]at u ew⊢;have:v0*B-u0*A-(u1*A-v1*B)=(w-x)*P+(v0+v1)*β-(u0+u1)*α:=by
      rw[hA,hB,u,ew];grind
     omega
   . simp only[xG]at u ew⊢;have:u0*A-v0*B-(v1*B-u1*A)=(w-x)*P+(u0+u1)*α-(v0+v1)*β:=by
      rw[hA,hB,u,ew];grind
     omega
 . cases ev
   . simp only[vO,yJ]at det⊢;have:v1*(v0*B-u0*A)+v0*(u1*A-v1*B)= -(u0*v1-u1*v0)*A:=by
      grind
     rw[this,det];omega
   . simp only[xG]at det⊢;have:v1*(u0*A-v0*B)+v0*(v1*B-u1*A)=(u0*v1-u1*v0)*A:=by
      grind
     rw[this,det];omega
 . cases ev
   . simp only[vO,yJ]at det⊢;have:u1*(v0*B-u0*A)+u0*(u1*A-v1*B)= -(u0*v1-u1*v0)*B:=by
      grind
     rw[this,det];omega
   . simp only[xG]at det⊢;have:u1*(u0*A-v0*B)+u0*(v1*B-u1*A)=(u0*v1-u1*v0)*B:=by
      grind
     rw[this,det];omega
def A3c {A B A' B' u0 u1 v0 v1 s t p q:Int} (h1:A=v1*A'+v0*B') (u:B=u1*A'+u0*B') (h3:A'=s*A+t*B) (h4:B'=p*A+q*B):Int.gcd A B=Int.gcd A' B':=by
 apply Nat.dvd_antisymm
 . apply Int.dvd_gcd
   . rw[h3];exact g2g (uJ (zO ..)) (uJ (zG ..))
   . rw[h4];exact g2g (uJ (zO ..)) (uJ (zG ..))
 . apply Int.dvd_gcd
   . rw[h1];exact g2g (uJ (zO ..)) (uJ (zG ..))
   . rw[u];exact g2g (uJ (zO ..)) (uJ (zG ..))
end Go.Proofs.YthiimnbdinlfeaaGreat
namespace Go.Proofs.YthiimnbdinlfeaaGreat
open Go.Vc Go.Gw
open Go.IntKind (i64 u64 u32)
def AD {s:Nat} (u:s<=32):4294967296=2^s*2^(32-s):=by
 rw[<-uO,show s+(32-s)=32 from by omega]
def Kf (n:Nat):4294967296^n=2^(32*n):=by
 rw[show(4294967296:Nat)=2^32 from rfl, <-Nat.pow_mul]
def A9i {a low lo H P s:Nat} (hP:0<P) (ha:a=low+lo*P+H*(P*4294967296)) (u:low<P) (hs:s<=31):a*2^s/(P*4294967296)=H*2^s+lo/2^(32-s):=by
 have hQ:0<P*4294967296:=Nat.mul_pos hP (by decide);have h2:0<2^s:=tO (by decide);have e:a*2^s=(low+lo*P)*2^s+H*2^s*(P*4294967296):=by
  rw[ha,uH,zF H]
 rw[e,xW _ _ hQ,vV];congr 1;have e2:P*4294967296=P*2^(32-s)*2^s:=by rw[sJ,tH (2^(32-s)), <-AD (by omega)]
 rw[e2,zM _ _ h2, <-vA,xW _ _ hP,tX u,sI]
def A0i {a s m:Nat} (h:s<=m):a*2^s/2^m=a/2^(m-s):=by
 have u:0<2^s:=tO (by decide)
 conv=>lhs;rw[show m=m-s+s from by omega,uO,zM _ _ u]
def aW (l:List Int) (i:Nat) (h:i<=l.length):nv l=nv (l.take i)+4294967296^i*nv (l.drop i):=by
 conv=>lhs;rw[<-uT i l,Pg,qU,sV h]
def S4 {l:List Int} (h:A5 l) (i:Nat):nv (l.take i)<4294967296^i:=by
 have h1:=Fm (l:=l.take i) fun x hx=>h x (sL hx)
 refine rG h1 (rW (by decide) ?_);rw[qU];exact g1x ..
def Sg (l:List Int) {n:Nat} (h:l.length<=n+1):nv l=nv (l.take n)+4294967296^n*dg l n:=by
 conv=>lhs;rw[<-qR h,H3]
def nC (l:List Int) {n:Nat} (h:l.length<=n+2):nv l=nv (l.take n)+4294967296^n*(dg l (n+1)*4294967296+dg l n):=by
 rw[Sg l (n:=n+1) h,H3,rZ,tF,tH (dg l (n+1)), <-sJ];omega
def nD (l:List Int) {n:Nat} (h:l.length<=n+3):nv l=nv (l.take n)+4294967296^n*((dg l (n+2)*4294967296+dg l (n+1))*4294967296+dg l n):=by
 rw[nC l (n:=n+1) h,H3,rZ];generalize 4294967296^n=P;grind
def mR {a:List Int} (ha:A5 a) {n:Nat} (hn:a.length=n+1) {s:Nat} (hs:s+I7 (dg a n)<=32):nv a*2^s<4294967296^(n+1):=by
 have h1:=Sg a (n:=n) (by omega);have h2:=S4 ha n;have h3:=ZI (dg a n);have h4:nv a<4294967296^n*2^I7 (dg a n):=by
  have:4294967296^n*(dg a n+1)<=4294967296^n*2^I7 (dg a n):=sW _ h3;rw[tF,yG]at this;omega
 have u:nv a*2^s<4294967296^n*2^I7 (dg a n)*2^s:=wQ h4 (tO (by decide));rw[sJ, <-uO]at u;have h6:2^(I7 (dg a n)+s)<=2^32:=rW (by decide) (by omega);have h7:=sW (4294967296^n) h6;rw[rZ];exact rG u h7
def XW {n:Nat} (h:n≠0):Lq (nc n):=by
 have a0:(nc n).length≠0:=fun h0=>h (Wl.1 (qO h0))
 unfold Lq;intro h0;have hb:=H9 n;have e:=Sg (nc n) (n:=(nc n).length-1) (by omega);have hd:dg (nc n) ((nc n).length-1)=0:=by unfold dg;rw[h0];rfl
 rw[hd,wF,tA,E1]at e;have u:=S4 hb ((nc n).length-1);rw[<-e]at u;have:=Fl u;omega
def KV {l:List Int} (u:A5 l) (h:Lq l):dg l (l.length-1)≠0:=by
 unfold Lq at h;have:=W8 u (i:=l.length-1);rw[this]at h;omega
def TU {l:List Int} (u:A5 l) (h:Lq l):nv l≠0:=by
 have h1:=KV u h;have h0:l.length≠0:=fun e=>by
  rw[qO e]at h1;simp[dg]at h1
 have e:=Sg l (n:=l.length-1) (by omega);have h2:0<4294967296^(l.length-1):=tO (by decide);have h3:=sW (4294967296^(l.length-1)) (sP h1);omega
def mU {V low P x:Nat} (h:V=low+P*x) (u:low<P):x*P<=V/\V<(x+1)*P:=by
 rw[uH,wR,tH x,h];omega
def B0k {w v:List Int} (hw:A5 w) (hv:A5 v) {n:Nat} (hn:v.length=n+2) (a1:w.length=n+3) (a0:dg v (n+1)≠0) (u:nv w<nv v*4294967296):VD (nv w) (nv v) (dg v (n+1)) (dg v n) (dg w (n+2)*4294967296+dg w (n+1)) (dg w n) (4294967296^n):=by
 have ev:=nC v (n:=n) (by omega);have ew:=nD w (n:=n) (by omega);have lv:=S4 hv n;have lw:=S4 hw n;have b1:=K6 hv (n+1);have b2:=K6 hv n;have b3:=K6 hw n;exact⟨tO (by decide),sP a0,by omega,by omega,by omega,(mU ev lv).1,(mU ev lv).2,(mU ew lw).1,(mU ew lw).2,u⟩
def A2i {l:List Int} (h:A5 l) (i:Nat):dg l i=nv l/4294967296^i%4294967296:=by
 have hp:0<4294967296^i:=tO (by decide);by_cases hi:i<l.length
 . have e:=aW l (i+1) (by omega);rw[H3]at e;have h1:=S4 h i;have u:=K6 h i;have e2:nv l=nv (l.take i)+(dg l i+4294967296*nv (l.drop (i+1)))*4294967296^i:=by
    rw[e,rZ];generalize 4294967296^i=P;grind
   rw[e2,xW _ _ hp,tX h1,sI,yP,tR (by omega)]
 . rw[Nu (by omega)];have h1:=Fm h;have u:4294967296^l.length<=4294967296^i:=rW (by decide) (by omega);rw[tX (by omega)]
def A6x {l:List Int} (h:A5 l) (i:Nat):dg l (i/32)/2^(i%32)%2=nv l/2^i%2:=by
 rw[A2i h,Kf];have e:i=32*(i/32)+i%32:=by omega
 have u:(4294967296:Nat)=2^(i%32)*2^(32-i%32):=AD (by omega)
 conv=>rhs;rw[e,uO, <-vA]
 generalize nv l/2^(32*(i/32))=x;rw[u,Nat.mod_mul_right_div_self];have h3:2^(32-i%32)=2*2^(31-i%32):=by rw[<-Nat.pow_succ'];congr 1;omega
 rw[h3,Nat.mod_mul_right_mod]
def A1r {a b i:Nat} (hb:b≠0):a/2^i=2*(a/2^(i+1))+a/2^i%2/\
 a/2^i/b=2*(a/2^(i+1)/b)+(if b<=2*(a/2^(i+1)%b)+a/2^i%2 then 1 else 0)/\
 a/2^i%b=2*(a/2^(i+1)%b)+a/2^i%2-(if b<=2*(a/2^(i+1)%b)+a/2^i%2 then b else 0):=by
 have e1:a/2^(i+1)=a/2^i/2:=by rw[rZ,vA]
 have e0:a/2^i=2*(a/2^(i+1))+a/2^i%2:=by rw[e1];omega
 refine⟨e0, ?_⟩;have a0:a/2^i%2<2:=vX _ (by decide);generalize a/2^i%2=d at*;generalize a/2^(i+1)=h at*;rw[e0];have hd:=wN h b;have hm:=vX h (sP hb);generalize h%b=r at*;generalize h/b=q at*;have e2:2*h+d=b*(2*q)+(2*r+d):=by rw[<-hd];grind
 rw[e2,g1y (sP hb),g1z];by_cases u:b<=2*r+d
 . rw[rB u,rB u];have e3:2*r+d=b+(2*r+d-b):=by omega
   have h1:(2*r+d)/b=1:=Nat.div_eq_of_lt_le (by omega) (by omega);refine⟨by rw[h1], ?_⟩;have:=wN (2*r+d) b;rw[h1]at this;omega
 . rw[qT u,qT u,tX (by omega),tR (by omega)];exact⟨rfl,by omega⟩
def A8y {q:List Int} (hq:A5 q) {M i:Nat} (he:nv q=M*2^(i+1)) (hi:i/32<q.length):∃b:Nat,dg q (i/32)=b*2^(i%32+1)/\nv (q.set (i/32) ((dg q (i/32)+2^(i%32):Nat):Int))=(2*M+1)*2^i:=by
 have e:i=32*(i/32)+i%32:=by omega
 have hb:dg q (i/32)=(M*2^(i%32+1))%4294967296:=by
  rw[A2i hq,he,Kf];congr 1;have e5:i+1=32*(i/32)+(i%32+1):=by omega
  rw[e5,uO,zK,xK _ (tO (by decide))]
 refine⟨M%2^(31-i%32), ?_, ?_⟩
 . rw[hb];have u:(4294967296:Nat)=2^(31-i%32)*2^(i%32+1):=by
    rw[<-uO,show 31-i%32+(i%32+1)=32 from by omega]
   conv=>lhs;rw[u]
   rw[Nat.mul_mod_mul_right]
 . have h1:=Je (l:=q) (k:=i/32) (v:=((dg q (i/32)+2^(i%32):Nat):Int)) hi;rw[qJ,he,Kf,tF]at h1;have u:2^(32*(i/32))*2^(i%32)=2^i:=by rw[<-uO, <-e]
   rw[u]at h1;have h3:(2*M+1)*2^i=M*2^(i+1)+2^i:=by rw[rZ];grind
   rw[h3];omega
def JO {l:List Int} (h:A5 l) (i:Nat):dg l i=nv l/4294967296^i%4294967296:=by
 have u:0<4294967296^i:=tO (by decide);have hd:=K6 h i;have ht:=S4 h i;rcases sF i l.length with h1|h1
 . have e1:=aW l (i+1) h1;rw[H3,rZ]at e1;have e2:nv l=nv (l.take i)+(dg l i+nv (l.drop (i+1))*4294967296)*4294967296^i:=by rw[e1];grind
   rw[e2,xW _ _ u,tX ht,sI,Nat.add_mul_mod_self_right,tR (by omega)]
 . rw[Nu h1];have hl:=Fm h;have a0:4294967296^l.length<=4294967296^i:=rW (by decide) h1;rw[tX (by omega)]
def A0j {l:List Int} (h:A5 l) (i:Nat) {s:Nat} (hs:s<=31):nv l/2^s/4294967296^i%4294967296=(dg l i+dg l (i+1)*4294967296)/2^s%4294967296:=by
 have h2:0<2^s:=tO (by decide);have u:nv l/2^s/4294967296^i=nv l/4294967296^i/2^s:=by rw[vA,vA,tH]
 have e1:dg l i+dg l (i+1)*4294967296=nv l/4294967296^i%(4294967296*4294967296):=by
  rw[Nat.mod_mul, <-JO h i,vA, <-rZ, <-JO h (i+1),tH]
 rw[u,e1];generalize nv l/4294967296^i=W;have e2:W=W%(4294967296*4294967296)+2^s*(4294967296*(2^(32-s)*(W/(4294967296*4294967296)))):=by
  have a:=Nat.mod_add_div W (4294967296*4294967296);have b:=AD (s:=s) (by omega)
  conv=>lhs;rw[<-a]
  congr 1
  calc 4294967296*4294967296*(W/(4294967296*4294967296))=4294967296*(4294967296*(W/(4294967296*4294967296))):=sJ ..
   _=(2^s*2^(32-s))*(4294967296*(W/(4294967296*4294967296))):=by rw[<-b]
   _= _:=by rw[sJ,zK (2^(32-s))]
 conv=>lhs;rw[e2,Nat.add_mul_div_left _ _ h2,yP]
def YS {l:List Int} (h:A5 l) {k s:Nat} :nv l/2^(32*k+s)=nv (l.drop k)/2^s:=by
 rw[uO, <-Kf, <-vA];congr 1;have u:0<4294967296^k:=tO (by decide);rcases sF l.length k with h1|h1
 . rw[sC (by omega)];have hl:=Fm h;have a0:4294967296^l.length<=4294967296^k:=rW (by decide) (by omega);rw[tX (by omega)];rfl
 . have e:=aW l k h1;have ht:=S4 h k;rw[e,Nat.add_mul_div_left _ _ u,tX ht,sI]
def H5 (x:Jt):(iv x).natAbs=nv x.2:=by
 unfold iv;split<;>omega
def DS {a b:List Int} (u:A5 a) (hb:A5 b):(nc (nv a*nv b)).length<=a.length+b.length:=by
 have h1:=Nz (nv a) (nv b);have h2:=C7 u;have h3:=C7 hb;omega
def DL {x y:Jt} (hx:A5 x.2) (u:A5 y.2):(ic (iv x*iv y)).2.length<=x.2.length+y.2.length:=by
 rw[Fi,vH,H5,H5];exact DS hx u
def RA {x y:Jt} {k:Nat} (hx:A5 x.2) (u:A5 y.2) (h1:x.2.length<=k) (h2:y.2.length<=k):(ic (iv x+iv y)).2.length<=k+1:=by
 rw[Fi];have e:(iv x+iv y).natAbs<=nv x.2+nv y.2:=by
  have:=g0x (iv x) (iv y);rwa[H5,H5]at this
 have h:=KC (nv x.2) (nv y.2);have a:=C7 hx;have b:=C7 u;have c:=I2 e;omega
def eM (v:Int):A5 (ic v).2:=H9 _
def bI {V:Int} {D:Nat} (hD:D≠0):rc (mkRat V D)=((decide (V<0),nc (V.natAbs/Nat.gcd V.natAbs D)),nc (D/Nat.gcd V.natAbs D)):=by
 obtain⟨hn,a2⟩:=Mo (x:=V) (d:=D) hD;unfold rc;rw[hn,a2,wP V.natAbs D];unfold ic;have u:((D.gcd V.natAbs:Nat):Int)∣V:=xM.2 (yB ..);have a0:0<D.gcd V.natAbs:=g1j _ (sP hD);generalize D.gcd V.natAbs=G at u a0;obtain⟨c,rfl⟩:=u;rw[xH _ (by omega)];have a1:(G:Int)*c<0↔c<0:=by
  constructor
  . intro h;rcases g2w c 0 with h1|h1
    . exact h1
    . have:=tJ (xE (sB.2 a0)) h1;omega
  . intro h;exact yM (by omega) h
 rw[vH,uP,xK _ a0];simp only[a1]
def A8q {V:Int} {D:Nat} (u:D≠0) (h:Nat.gcd V.natAbs D=1):rc (mkRat V D)=(ic V,nc D):=by
 rw[bI u,h,g2j,g2j];rfl
def JZ {a b:Int} {c d:Nat} (u:c≠0) (hd:d≠0):mkRat a c+mkRat b d=mkRat (a*d+b*c) (c*d):=Rat.mkRat_add_mkRat a b u hd
def jY {a b:Int} {c:Nat} (u:c≠0):mkRat a c+mkRat b c=mkRat (a+b) c:=by
 rw[JZ u u, <-Int.add_mul,Rat.mkRat_mul_right u]
def Ku {x:C0} {n:Jt} {d:List Int} (h:(nv x.2=0->n=zi/\d= [1])/\(nv x.2≠0->n=x.1/\d=x.2)):nv d≠0/\rv x=mkRat (iv n) (nv d):=by
 rcases g2u (nv x.2=0)with u|u
 . obtain⟨rfl,rfl⟩:=h.1 u;refine⟨by decide, ?_⟩;unfold rv;rw[u,yH];exact(Rat.zero_mkRat _).symm
 . obtain⟨rfl,rfl⟩:=h.2 u;exact⟨u,rfl⟩
def Hm {x:C0} {n:Jt} {d:List Int} {k:Nat} (h:(nv x.2=0->n=zi/\d= [1])/\(nv x.2≠0->n=x.1/\d=x.2)) (h1:x.1.2.length<=k) (h2:x.2.length<=k) (hk:1<=k):n.2.length<=k/\d.length<=k:=by
 rcases g2u (nv x.2=0)with u|u
 . obtain⟨rfl,rfl⟩:=h.1 u;exact⟨by simp[zi],by simpa using hk⟩
 . obtain⟨rfl,rfl⟩:=h.2 u;exact⟨h1,h2⟩
def B0o (A B:Nat):(A:Int)/(B:Int)=((A/B:Nat):Int)/\(A:Int)%(B:Int)=((A%B:Nat):Int):=⟨rfl,rfl⟩
def B0n {A B:Nat} (hB:B≠0):(A%B=0-> -(A:Int)/(B:Int)= -((A/B:Nat):Int)/\ -(A:Int)%(B:Int)=0)/\(A%B≠0-> -(A:Int)/(B:Int)= -((A/B:Nat):Int)-1/\ -(A:Int)%(B:Int)=(B:Int)-((A%B:Nat):Int)):=by
 have h1:=wN A B;have h2:=vX A (sP hB);have u:(A:Int)=(B:Int)*((A/B:Nat):Int)+((A%B:Nat):Int):=by
  rw[<-uF, <-wL,h1]
 generalize A/B=Q at*;generalize A%B=M at*;refine⟨fun h=> ?_,fun h=> ?_⟩
 . subst h;refine(Int.ediv_emod_unique (by omega)).2 ⟨?_,by omega,by omega⟩;rw[u];grind
 . refine(Int.ediv_emod_unique (by omega)).2 ⟨?_,by omega,by omega⟩;rw[u];grind
def B0m {sa sb:Bool} {A B:Nat} (hB:B≠0) {a b q m:Int} (u:a=if sa=true then -(A:Int)else A) (hb:b=if sb=true then -(B:Int)else B) (hq:q=if(sa !=sb)=true then -((A/B:Nat):Int)else((A/B:Nat):Int)) (hm:m=if sa=true then -((A%B:Nat):Int)else((A%B:Nat):Int)):
 (m<0->a%b=m+B/\(sb=true->a/b=q+1)/\(sb=false->a/b=q-1))/\(¬m<0->a%b=m/\a/b=q):=by
 obtain⟨n1,n2⟩:=B0n (A:=A) hB;obtain⟨p1,p2⟩:=B0o A B;generalize hQ:A/B=Q at*;generalize hM:A%B=M at*;cases sa<;>cases sb<;>simp at u hb hq hm<;>subst u hb hq hm<;>simp only[Int.ediv_neg,Int.emod_neg]
 . exact⟨fun h=>by omega,fun h=>⟨p2,p1⟩⟩
 . exact⟨fun h=>by omega,fun h=>⟨p2,by rw[p1]⟩⟩
 . refine⟨fun h=> ?_,fun h=> ?_⟩
   . obtain⟨e1,e2⟩:=n2 (by omega);exact⟨by rw[e2];omega,⟨fun h=>absurd h (by decide),fun _=>e1⟩⟩
   . obtain⟨e1,e2⟩:=n1 (by omega);exact⟨by rw[e2];omega,e1⟩
 . refine⟨fun h=> ?_,fun h=> ?_⟩
   . obtain⟨e1,e2⟩:=n2 (by omega);exact⟨by rw[e2];omega,⟨fun _=>by rw[e1];omega,fun h=>by cases h⟩⟩
   . obtain⟨e1,e2⟩:=n1 (by omega);exact⟨by rw[e2];omega,by rw[e1];omega⟩
def Sn {q:C0} {k:Nat} (h1:A5 q.1.2) (h2:A5 q.2) (l1:q.1.2.length<=k) (l2:q.2.length<=k) (hk:1<=k):(ic (rv q).num).2.length<=k/\(nc (rv q).den).length<=k:=by
 unfold rv;rcases g2u (nv q.2=0)with u|u
 . rw[u,yH];have a1:(0:Rat).num=0:=rfl;have a2:(0:Rat).den=1:=rfl;rw[a1,a2,aC,Sd];exact⟨rM _,hk⟩
 . obtain⟨e1,e2⟩:=Mo (x:=iv q.1) (d:=nv q.2) u;have b1:=C7 h1;have b2:=C7 h2;rw[e1,e2,Fi];refine⟨?_,qW (I2 (wO _ _)) (by omega)⟩;refine qW (I2 ?_) (qW b1 l1);rw[<-H5];exact wY _ _
def QZ {A:Int} {G:Nat} (hG:0<G) (hd:(G:Int)∣A):ic (A/(G:Int))=(decide (A<0),nc (A.natAbs/G)):=by
 obtain⟨c,rfl⟩:=hd;rw[xH _ (by omega)];have u:(G:Int)*c<0↔c<0:=by
  constructor
  . intro h;rcases g2w c 0 with h1|h1
    . exact h1
    . have:=tJ (xE (sB.2 hG)) h1;omega
  . intro h;exact yM (by omega) h
 unfold ic;rw[vH,uP,xK _ hG];simp only[u]
def DH {A B:Int} (u:0<B):Rat.divInt A B=mkRat A B.natAbs:=by
 rw[<-zQ,show((B.natAbs:Nat):Int)=B from by omega]
def dH {A B:Int} (u:B<0):Rat.divInt A B=mkRat (-A) B.natAbs:=by
 rw[<-zQ,show((B.natAbs:Nat):Int)= -B from by omega,Rat.neg_divInt_neg]
def A4f {A B:Int} (hB:B≠0) {G:Nat} (hG:G=Nat.gcd A.natAbs B.natAbs):0<G/\(B/(G:Int)<0↔B<0)/\(B<0->(ic (-(A/(G:Int))),(ic (-(B/(G:Int)))).2)=rc (Rat.divInt A B))/\(¬B<0->(ic (A/(G:Int)),(ic (B/(G:Int))).2)=rc (Rat.divInt A B)):=by
 have a2:B.natAbs≠0:=by omega
 have u:0<G:=by rw[hG];exact g1a _ (by omega)
 have a1:(G:Int)∣A:=by rw[hG];exact xM.2 (Nat.gcd_dvd_left ..)
 have a0:(G:Int)∣B:=by rw[hG];exact xM.2 (yB ..)
 refine⟨u, ?_,fun h=> ?_,fun h=> ?_⟩
 . have:=tN (·.1) (QZ u a0);exact vC.1 this
 . rw[<-Int.neg_ediv_of_dvd a1, <-Int.neg_ediv_of_dvd a0,QZ u (Int.dvd_neg.2 a1),QZ u (Int.dvd_neg.2 a0),dH h,bI a2,g0j,g0j,hG]
 . rw[QZ u a1,QZ u a0,DH (by omega),bI a2,hG]
def jJ (p q:Rat):Rat.divInt (p.num*q.den+q.num*p.den) (p.den*q.den)=p+q:=by
 have h1:=g2m p;have u:=g2m q;rw[<-Rat.divInt_add_divInt _ _ (by omega) (by omega),Rat.num_divInt_den,Rat.num_divInt_den]
def jB {n k:Nat} (h:n<2^k):I7 n<=k:=by
 rcases uY n with u|u
 . rw[u,Zd];omega
 . have h1:=(Zb (n:=n) (by omega)).1;rcases sF k (I7 n)with h2|h2
   . have:2^k<=2^(I7 n-1):=rW (by decide) (by omega);omega
   . exact h2
def oE {n:Nat} (h:n≠0):I7 n=I7 (n/2)+1:=by
 rcases sF n 2 with h1|h1
 . have:n=1:=by omega
   subst this;decide+kernel
 . have:=GD (n:=n) (k:=1) h1;rwa[Nat.pow_one]at this
def lW {l:List Int} (h:A5 l):I7 (nv l)<=32*l.length:=by
 refine jB ?_;rw[<-Kf];exact Fm h
def A1s {n:Nat} (h:n≠0):I7 n=I7 (dg (nc n) ((nc n).length-1))+32*((nc n).length-1):=by
 have u:(nc n).length≠0:=fun h0=>h (Wl.1 (qO h0))
 have h1:4294967296^((nc n).length-1)<=n:=A4n (by omega);have h2:=Kc n;have hP:0<4294967296^((nc n).length-1):=tO (by decide);rw[JO (H9 n),E1,Kf,tR]
 . exact GD (by rw[<-Kf];exact h1)
 . rw[<-Kf,tL hP,tH, <-rZ,show((nc n).length-1).succ=(nc n).length from by omega];exact h2
def oC {z:Int} (u:0<=z) (h1:z<4294967296):(BitVec.ofInt 32 z&&&BitVec.ofInt 32 1).toNat=z.toNat%2:=by
 rw[BitVec.toNat_and,xL,xL,show((1:Int)%((2^32:Nat):Int)).toNat=1 from by decide,Nat.and_one_is_mod];rw[show z%((2^32:Nat):Int)=z from by omega]
def A4w {d b s:Nat} (u:d=b*2^(s+1)) (h1:d<4294967296) (hs:s<=31):(BitVec.ofInt 32 (d:Int) |||BitVec.ofInt 32 ((2^s:Nat):Int)).toNat=d+2^s/\d+2^s<4294967296:=by
 have a0:2^s<=2^31:=rW (by decide) hs;have e:(BitVec.ofInt 32 (d:Int) |||BitVec.ofInt 32 ((2^s:Nat):Int)).toNat=d+2^s:=by
  rw[BitVec.toNat_or,xL,xL];rw[show((d:Int)%((2^32:Nat):Int)).toNat=d from by omega];generalize hz:2^s=z at*;rw[show((z:Int)%((2^32:Nat):Int)).toNat=z from by omega,u, <-Nat.shiftLeft_eq];exact(zT (by rw[<-hz];exact Nat.pow_lt_pow_right (by decide) (by omega)) b).symm
 exact⟨e,by have:=(BitVec.ofInt 32 (d:Int) |||BitVec.ofInt 32 ((2^s:Nat):Int)).isLt;omega⟩
def ZU (l:List Int) (j i:Nat):dg (l.drop j) i=dg l (j+i):=by
 unfold dg;simp[List.getD,wW]
def Zi {l:List Int} {k i:Nat} (h:i<k):dg (l.take k) i=dg l i:=by
 unfold dg;simp[List.getD,wC,h]
def Ih {l:List Int} (h:A5 l) (k:Nat):nv (l.take k)=nv l%4294967296^k:=by
 rcases sF k l.length with h1|h1
 . have e:=aW l k (by omega);rw[e,yP,tR (S4 h k)]
 . rw[qR h1,tR];exact rG (Fm h) (rW (by decide) h1)
def fP {l:List Int} (h:A5 l) (j:Nat):nv (l.drop j)=nv l/4294967296^j:=by
 have:=YS h (k:=j) (s:=0);rw[tA,g3b,g2j, <-Kf]at this;exact this.symm
def B2m {u v:List Int} (hu:A5 u) (hv:A5 v) {j n:Nat} (a7:n+2<=v.length) (hV:nv v<4294967296^(n+2)) (a4:dg v (n+1)≠0) (a6:j+n+3<=u.length) (a2:nv u<nv v*4294967296^(j+1)):VD (nv u/4294967296^j) (nv v) (dg v (n+1)) (dg v n) (dg u (j+n+2)*4294967296+dg u (j+n+1)) (dg u (j+n)) (4294967296^n):=by
 have hP:0<4294967296^j:=tO (by decide);have hW:nv u/4294967296^j<nv v*4294967296:=by
  rw[tL hP,sJ,tH 4294967296, <-rZ];exact a2
 have a1:nv u/4294967296^j<4294967296^(n+3):=by
  rw[rZ _ (n+2)];exact rG hW (rI _ (vW hV))
 have a3:A5 (v.take (n+2)):=fun x hx=>hv x (sL hx)
 have a0:A5 (u.drop j):=fun x hx=>hu x (uW hx)
 have a5:A5 ((u.drop j).take (n+3)):=fun x hx=>a0 x (sL hx)
 have ev:nv (v.take (n+2))=nv v:=by rw[Ih hv,tR hV]
 have ew:nv ((u.drop j).take (n+3))=nv u/4294967296^j:=by rw[Ih a0,fP hu,tR a1]
 have h:=B0k (w:=(u.drop j).take (n+3)) (v:=v.take (n+2)) a5 a3 (n:=n) (by rw[qU];omega) (by rw[qU,sR];omega) (by rw[Zi (by omega)];exact a4) (by rw[ev,ew];exact hW);rw[ev,ew,Zi (by omega),Zi (by omega),Zi (by omega),Zi (by omega),Zi (by omega),ZU,ZU,ZU]at h;exact h
def A0p {o o' U Pk P c c' D x s t v:Nat} (h:o+P*(D*x)=U+Pk*c) (hs:o'+Pk*t=o+Pk*s) (he:t+4294967296*c'=s+(D*v+c)) {Pi:Nat} (u:Pk=P*Pi):o'+P*(D*(x+Pi*v))=U+Pk*4294967296*c':=by
 subst u;have h1:=tN ((P*Pi)* ·) he;simp only[tF]at h1⊢;have e1:P*(D*(Pi*v))=P*Pi*(D*v):=by grind
 have e2:P*Pi*(4294967296*c')=P*Pi*4294967296*c':=by grind
 omega
def nX {o o' U Pk P c c' x s t v:Nat} (h:o+Pk*c=U+P*x) (hs:o'+Pk*t=o+Pk*s) (he:s+4294967296*c'=c+(t+v)) {Pi:Nat} (u:Pk=P*Pi):o'+Pk*4294967296*c'=U+P*(x+Pi*v):=by
 subst u;have h1:=tN ((P*Pi)* ·) he;simp only[tF]at h1⊢;have e1:P*(Pi*v)=P*Pi*v:=by grind
 have e2:P*Pi*(4294967296*c')=P*Pi*4294967296*c':=by grind
 omega
def A1v {D v c t:Nat} (u:D<4294967296) (hv:v<4294967296) (hc:c<=D):D*v+c<=18446744069414584320/\(D*v+c)/4294967296+(if t<(D*v+c)%4294967296 then 1 else 0)<=D:=by
 have h1:D*v<=D*4294967295:=sW _ (by omega);generalize D*v=p at*;split<;>omega
end Go.Proofs.YthiimnbdinlfeaaGreat
namespace Go.Proofs.YthiimnbdinlfeaaGreat
open Go.IntKind (i64 u64 u32)
def A1q {B U P V e M w1 y z g t r o:Nat} (hP:0<P) (hV:0<V) (a0:w1+P*((e+1)*V)=U+M*B) (a4:w1<M*B) (hd:e+1<=U/P/V+1) (hy:y+M*g=w1+P*V) (hz:z+M*t=y+M*r) (ho:t+g=r+B*o) (a5:o<=1) (a3:z<M*B):U/P/V=e/\z+P*(e*V)=U:=by
 have h1:U/P/V<e+1:=by
  rw[tL hV,tL hP,tH];omega
 have he:U/P/V=e:=by omega
 have hU:P*(e*V)<=U:=by
  rw[<-he,tH];exact qW (rI _ (yS _ _)) (yS _ _)
 have a1:P*((e+1)*V)=P*(e*V)+P*V:=by rw[uH,wR,tF]
 rw[a1]at a0;have u:M*t+M*g=M*r+M*B*o:=by rw[<-tF,ho,tF,sJ]
 have a2:o=1:=by
  rcases sF o 1 with h|h
  . have h0:o=0:=by omega
    subst h0;simp only[wF,tA]at u;omega
  . omega
 subst a2;rw[yG]at u;exact⟨he,by omega⟩
def B3k (m:Nat):4294967296^(m+2)*4294967296=4294967296^(m+3):=(rZ (n:=4294967296) (m:=m+2)).symm
end Go.Proofs.YthiimnbdinlfeaaGreat
namespace Go.Proofs.YthiimnbdinlfeaaGreat
open Go.Vc Go.Gw
open Go.IntKind (i64 u64 u32)
def qs (k:Nat) (q:Rat):Prop:=(nc q.num.natAbs).length<=k/\(nc q.den).length<=k
def sz (k:Nat) (x:C0):Prop:=x.1.2.length<=k/\x.2.length<=k
def Ek (x:C0):Prop:=A5 x.1.2/\A5 x.2
def HL {k:Nat} {q:Rat} (h:qs k q):sz k (rc q):=h
def mS (q:Rat):Ek (rc q):=⟨H9 _,H9 _⟩
def Dk {k:Nat} {x:C0} (u:Ek x) (h:sz k x) (hk:1<=k):qs k (rv x):=Sn u.1 u.2 h.1 h.2 hk
def J9 {j k:Nat} {q:Rat} (h:qs j q) (u:j<=k):qs k q:=⟨qW h.1 u,qW h.2 u⟩
def F6 {j k:Nat} {x:C0} (h:sz j x) (u:j<=k):sz k x:=⟨qW h.1 u,qW h.2 u⟩
def TB {V:Int} {D k:Nat} (hD:D≠0) (h1:(nc V.natAbs).length<=k) (u:(nc D).length<=k):qs k (mkRat V D):=by
 obtain⟨e1,e2⟩:=Mo (x:=V) hD;unfold qs;rw[e1,e2];refine⟨qW (I2 ?_) h1,qW (I2 (wO _ _)) u⟩;exact wY _ _
def Df {k:Nat} (u:1<=k):qs k 0:=by
 refine⟨?_, ?_⟩
 . show(nc 0).length<=k;rw[N4];exact rM _
 . show(nc 1).length<=k;rw[Sd];exact u
def B1m {k:Nat} (u:1<=k):qs k 1:=by
 refine⟨?_, ?_⟩<;>(show(nc 1).length<=k;rw[Sd];exact u)
def kR {k:Nat} {q:Rat} (h:qs k q):1<=k:=by
 have h1:=h.2;have u:nc q.den≠ []:=fun e=>q.den_nz (Wl.1 e)
 have:=uS.2 u;omega
def bG {k:Nat} {q:Rat} (h:qs k q):qs k (-q):=by
 unfold qs at h⊢;rw[Rat.neg_num,Rat.neg_den,g0j];exact h
def EH {j k:Nat} {p q:Rat} (h1:qs j p) (u:qs k q):qs (j+k) (p*q):=by
 rw[Rat.mul_def'];refine TB (yZ p.den_nz q.den_nz) ?_ ?_
 . rw[vH];exact qW (Nz _ _) (Nat.add_le_add h1.1 u.1)
 . exact qW (Nz _ _) (Nat.add_le_add h1.2 u.2)
def EG {j k:Nat} {p q:Rat} (h1:qs j p) (u:qs k q):qs (j+k+1) (p+q):=by
 rw[Rat.add_def'];refine TB (yZ p.den_nz q.den_nz) ?_ ?_
 . have e:(p.num*(q.den:Int)+q.num*(p.den:Int)).natAbs<=p.num.natAbs*q.den+q.num.natAbs*p.den:=by
    refine qW (g0x _ _) ?_;rw[vH,vH,uP,uP];exact rA _
   have a1:=Nz p.num.natAbs q.den;have a2:=Nz q.num.natAbs p.den;have a3:=KC (p.num.natAbs*q.den) (q.num.natAbs*p.den);have a4:=I2 e;have:=h1.1;have:=h1.2;have:=u.1;have:=u.2;omega
 . have:=Nz p.den q.den;have:=h1.2;have:=u.2;omega
def TC {j k:Nat} {p q:Rat} (h1:qs j p) (u:qs k q):qs (j+k+1) (p-q):=by
 rw[tK];exact EG h1 (bG u)
def A5l {k:Nat} {q:Rat} (h:qs k q):qs k q⁻¹:=by
 have hk:=kR h;by_cases u:q=0
 . subst u;rw[Rat.inv_zero];exact Df hk
 have hn:q.num≠0:=fun e=>u (zX.1 e)
 refine⟨?_, ?_⟩
 . rw[Rat.num_inv,vH,uP,g0k hn,wR];exact h.2
 . rw[Rat.den_inv,qT hn];exact h.1
def bF {j k:Nat} {p q:Rat} (h1:qs j p) (u:qs k q):qs (j+k) (p/q):=by
 rw[wS];exact EH h1 (A5l u)
def A5k {a:Int} (h:a.natAbs<4294967296):qs 1 (a:Rat):=by
 refine⟨?_, ?_⟩
 . rw[g2c];exact Fl (by simpa using h)
 . rw[g2a,Sd];exact rA _
abbrev K0:Nat:=1073741824
abbrev K1:Nat:=549755813888
def J6 {k:Nat} {x:C0} (h:sz k x) (u:k<=2199023255552):F3 x:=⟨qW h.1 u,qW h.2 u⟩
def Hs {k:Nat} {q:Rat} (h:qs k q) (u:k<=2199023255552):F3 (rc q):=⟨qW h.1 u,qW h.2 u⟩
def A5t {q:Rat} :q.num.sign=0↔q=0:=⟨fun h=>zX.1 (yN.1 h),fun h=>by rw[h];rfl⟩
abbrev D1:=Int×C0
def A8:List D1->Int->Rat
 | [],_=>0
 |e::v,i=>(if e.1=i then rv e.2 else 0)+A8 v i
def Gl (v:List D1):Prop:=v.Pairwise fun a b=>a.1<b.1
instance (v:List D1):Decidable (Gl v):=by unfold Gl;infer_instance
def Gm (v:List D1):Prop:=Gl v/\∀e∈v,rv e.2≠0/\e.2=rc (rv e.2)
def K5 (v:List D1) (n:Int):Prop:=Gl v/\∀e∈v,0<=e.1/\e.1<n/\rv e.2≠0
instance (v:List D1) (n:Int):Decidable (K5 v n):=by unfold K5;infer_instance
def gU (k:Nat) (v:List D1):Prop:=∀e∈v,sz k e.2
def Ht (k:Nat) (l:List C0):Prop:=∀x∈l,sz k x
def YC (k:Nat) (v:List D1):Prop:=Gl v/\gU k v/\v.length<=100000
def RJ (v:List D1):Prop:=∀e∈v,Ek e.2
def Wr (ok:D1×D1×Unit->Prop) (φ:D1×D1×Unit->Int):Prop:=(∀a b,ok (a,b,()))/\(∀a b c,¬φ (a,b,())<0->¬φ (b,c,())<0->¬φ (a,c,())<0)/\(∀a b,φ (a,b,())<0->¬φ (b,a,())<0)
def Uy (φ:D1×D1×Unit->Int) (l:List D1):Prop:=l.Pairwise fun a b=>¬φ (b,a,())<0
def WK (v:List D1):Prop:=Gl v\/(v.length<=20/\gU 65536 v)
def fO (v:List D1):Prop:=YC K1 v\/(v.length<=20/\gU 65536 v)
def Oz (i:Int):A8 [] i=0:=rfl
def F7 {v:List D1} {i:Int} (h:∀e∈v,e.1≠i):A8 v i=0:=by
 induction v with
 |nil=>rfl
 |cons e v u=>
  rw[A8,qT (h e (rL ..)),u fun x hx=>h x (qM _ hx),tV]
def Q7 (a b:List D1) (i:Int):A8 (a++b) i=A8 a i+A8 b i:=by
 induction a with
 |nil=>rw[wM,Oz,tV]
 |cons e a u=>rw[yK,A8,A8,u,xS]
def I6 {e:D1} {v:List D1} :Gl (e::v)↔(∀x∈v,e.1<x.1)/\Gl v:=List.pairwise_cons
def Ia {e:D1} {v:List D1} (h:Gl (e::v)):Gl v:=(I6.1 h).2
def Bf {e:D1} {v:List D1} (h:Gl (e::v)):A8 (e::v) e.1=rv e.2:=by
 rw[A8,rB rfl,F7 fun x hx u=>by have:=(I6.1 h).1 x hx;omega,rP]
def OK {e:D1} {v:List D1} (h:Gl (e::v)) {i:Int} (hi:i<e.1):A8 (e::v) i=0:=
 F7 fun x hx=>by
  rcases qV.1 hx with rfl|hx
  . omega
  . have:=(I6.1 h).1 x hx;omega
def Es {e:D1} {v:List D1} {i:Int} (hi:e.1≠i):A8 (e::v) i=A8 v i:=by
 rw[A8,qT hi,tV]
def R7 {v:List D1} (h:Gl v) {e:D1} (u:e∈v):A8 v e.1=rv e.2:=by
 induction v with
 |nil=>cases u
 |cons x v ih=>
  rcases qV.1 u with rfl|u
  . exact Bf h
  . have:=(I6.1 h).1 e u;rw[Es (by omega),ih (Ia h) u]
def Zg {v:List D1} {i:Int} (h:A8 v i≠0):∃e∈v,e.1=i:=
 qX fun hn=>h (F7 fun e u hi=>hn ⟨e,u,hi⟩)
def cZ:Gm []:=⟨List.Pairwise.nil,fun _ h=>by cases h⟩
def cU {v:List D1} {e:D1} (h:Gl v) (he:∀x∈v,x.1<e.1):Gl (v++ [e]):=by
 unfold Gl;rw[uX];refine⟨h,g1g ..,fun a u b hb=> ?_⟩;rw[qY]at hb;subst hb;exact he a u
def JB {v:List D1} {i:Int} {q:Rat} (h:Gm v) (hq:q≠0) (u:∀x∈v,x.1<i):Gm (v++ [(i,rc q)]):=by
 refine⟨cU h.1 u,fun x hx=> ?_⟩;rcases rF.1 hx with hx|hx
 . exact h.2 x hx
 . rw[qY]at hx;subst hx;simp only[I8];exact⟨hq,trivial⟩
def Pa (v:List D1) (i:Int) (q:Rat) (j:Int):A8 (v++ [(i,rc q)]) j=A8 v j+(if i=j then q else 0):=by
 rw[Q7];simp only[A8,I8,rP]
def OJ {v:List D1} (h:Gm v) {k:Nat} (hq:∀i,qs k (A8 v i)):gU k v:=fun e u=>by
 rw[(h.2 e u).2, <-R7 h.1 u];exact hq _
def mB {v:List D1} (h:Gl v) (hl:RJ v) {k:Nat} (hs:gU k v) (hk:1<=k) (i:Int):qs k (A8 v i):=by
 by_cases hi:∃e∈v,e.1=i
 . obtain⟨e,u,rfl⟩:=hi;rw[R7 h u];exact Dk (hl e u) (hs e u) hk
 . rw[F7 fun e u a0=>hi ⟨e,u,a0⟩];exact Df hk
def Hv {v:List D1} {n:Int} (h:K5 v n):(v.length:Int)<=max n 0:=by
 have key:∀(v:List D1) (k n:Int),Gl v->(∀e∈v,k<=e.1/\e.1<n)->(v.length:Int)<=max (n-k) 0:=by
  intro v
  induction v with
  |nil=>intro k n _ _;simp only[xC];omega
  |cons e v ih=>
   intro k n u hb;have h1:=hb e (rL ..);have:=ih (e.1+1) n (Ia u) fun x hx=>⟨by have:=(I6.1 u).1 x hx;omega,(hb x (qM _ hx)).2⟩
   simp only[rJ];omega
 have:=key v 0 n h.1 fun e he=>⟨(h.2 e he).1,(h.2 e he).2.1⟩
 omega
abbrev Ff:=Int×Int×List (List D1)
def el (m:Ff) (i j:Nat):Rat:=A8 (m.2.2.getD i []) (j:Int)
def F4 (m:Ff):Prop:=0<=m.1/\m.1<=16384/\0<=m.2.1/\m.2.1<=16384/\(m.2.2.length:Int)=m.1/\∀v∈m.2.2,K5 v m.2.1
instance (m:Ff):Decidable (F4 m):=by unfold F4;infer_instance
def zm:Ff:=(0,0,[])
def pC (R C:Nat) (f:Nat->Nat->Rat) (m:Ff):Prop:=
 m.1=(R:Int)/\m.2.1=(C:Int)/\m.2.2.length=R/\∀i,i<R->Gm (m.2.2.getD i [])/\(∀e∈m.2.2.getD i [],0<=e.1/\e.1<(C:Int))/\∀j,j<C->A8 (m.2.2.getD i []) (j:Int)=f i j
def isV (n:Nat) (f:Nat->Rat) (v:List D1):Prop:=Gm v/\(∀e∈v,0<=e.1/\e.1<(n:Int))/\∀j,j<n->A8 v (j:Int)=f j
def A3q {n:Nat} {f:Nat->Rat} {v:List D1} (h:isV n f v) (i:Int):A8 v i=if 0<=i/\i<(n:Int)then f i.toNat else 0:=by
 by_cases hi:0<=i/\i<(n:Int)
 . rw[rB hi, <-h.2.2 i.toNat (by omega)];congr 1;omega
 . rw[qT hi,F7 fun e he u=>hi (by rw[<-u];exact h.2.1 e he)]
def G8 {α:Type} (l:List α) (d:α) {i:Nat} (h:i<l.length):l.getD i d=l[i]:=by rw[qF,qN h];rfl
def jT {R C:Nat} {f:Nat->Nat->Rat} {m:Ff} (h:pC R C f m) {i j:Nat} (hi:i<R) (u:j<C):el m i j=f i j:=(h.2.2.2 i hi).2.2 j u
def C2 {α:Type} {l:List α} {i:Nat} {d:α} (h:i<l.length):l.getD i d∈l:=by rw[G8 _ _ h];exact wT h
def S0 {α:Type} {l:List α} {x:α} (d:α) (h:x∈l):∃i,i<l.length/\l.getD i d=x:=by
 obtain⟨i,hi,e⟩:=tW.1 h;exact⟨i,hi,by rw[G8 _ _ hi];exact e⟩
def pD {n:Nat} {f:Nat->Rat} {v:List D1} (h:isV n f v):K5 v (n:Int):=⟨h.1.1,fun e u=>⟨(h.2.1 e u).1,(h.2.1 e u).2,(h.1.2 e u).1⟩⟩
def XH {R C:Nat} {f:Nat->Nat->Rat} {m:Ff} (h:pC R C f m) (hR:R<=16384) (hC:C<=16384):F4 m:=by
 obtain⟨h1,u,h3,h4⟩:=h;refine⟨by omega,by omega,by omega,by omega,by omega,fun v hv=> ?_⟩;obtain⟨i,hi,rfl⟩:=S0 [] hv;rw[u];exact pD (h4 i (by omega))
def Fe (k:Nat) (m:Ff):Prop:=∀v∈m.2.2,gU k v
def pJ (m:Ff):Prop:=∀v∈m.2.2,RJ v
def A3p {R C k:Nat} {f:Nat->Nat->Rat} {m:Ff} (h:pC R C f m) (hk:1<=k) (u:∀i j,i<R->j<C->qs k (f i j)):Fe k m:=fun v hv=>by
 obtain⟨i,hi,rfl⟩:=S0 [] hv;rw[h.2.2.1]at hi;refine OJ (h.2.2.2 i hi).1 fun j=> ?_
 rw[A3q (h.2.2.2 i hi)];split
 . exact u i _ hi (by omega)
 . exact Df hk
def VB (f:Int->Rat) (v:List D1):Prop:=Gm v/\∀i,A8 v i=f i
def dl (n:Int) (f:Int->Rat):List C0:=(List.range n.toNat).map fun j:Nat=>rc (f (j:Int))
def Kk (x:C0):Prop:=∃q,qs 1 q/\x=rc q
def C6:Nat->(Nat->Rat)->Rat
 |0,_=>0
 |n+1,f=>C6 n f+f n
def C1 {n:Nat} {f g:Nat->Rat} (h:∀i,i<n->f i=g i):C6 n f=C6 n g:=by
 induction n with
 |zero=>rfl
 |succ n u=>rw[C6,C6,u fun i hi=>h i (by omega),h n (by omega)]
def Dh {n:Nat} {f:Nat->Rat} (h:∀i,i<n->f i=0):C6 n f=0:=by
 induction n with
 |zero=>rfl
 |succ n u=>rw[C6,u fun i hi=>h i (by omega),h n (by omega),rP]
def Kz (n:Nat) (f g:Nat->Rat):C6 n (fun i=>f i+g i)=C6 n f+C6 n g:=by
 induction n with
 |zero=>rw[C6,C6,C6,rP]
 |succ n u=>rw[C6,C6,C6,u];grind
def La (n:Nat) (c:Rat) (f:Nat->Rat):C6 n (fun i=>c*f i)=c*C6 n f:=by
 induction n with
 |zero=>rw[C6,C6,uQ]
 |succ n u=>rw[C6,C6,u,Rat.mul_add]
def KQ (n:Nat) (c:Rat) (f:Nat->Rat):C6 n (fun i=>f i*c)=C6 n f*c:=by
 induction n with
 |zero=>rw[C6,C6,tB]
 |succ n u=>rw[C6,C6,u,g2l]
def Kd (m n:Nat) (f:Nat->Nat->Rat):C6 m (fun i=>C6 n (f i))=C6 n fun j=>C6 m fun i=>f i j:=by
 induction m with
 |zero=>rw[C6];exact(Dh fun _ _=>rfl).symm
 |succ m u=>
  rw[C6,u, <-Kz];exact C1 fun j _=>rfl
def N8 {n k:Nat} {f:Nat->Rat} (hk:k<n) (h:∀i,i<n->i≠k->f i=0):C6 n f=f k:=by
 induction n with
 |zero=>omega
 |succ n ih=>
  rw[C6];by_cases u:k=n
  . subst u;rw[Dh fun i hi=>h i (by omega) (by omega),tV]
  . rw[ih (by omega) fun i hi=>h i (by omega),h n (by omega) (by omega),rP]
def nR {n k:Nat} {f:Nat->Rat} (u:∀i,i<n->qs k (f i)):qs (n*(k+1)+1) (C6 n f):=by
 induction n with
 |zero=>rw[C6];exact Df (by omega)
 |succ n ih=>
  rw[C6];refine J9 (EG (ih fun i hi=>u i (by omega)) (u n (by omega))) ?_;rw[uH,wR];omega
def Rr:List D1->(Int->Rat)->Rat
 | [],_=>0
 |e::v,h=>rv e.2*h e.1+Rr v h
def dO (a b:List D1) (h:Int->Rat):Rr (a++b) h=Rr a h+Rr b h:=by
 induction a with
 |nil=>rw[wM,Rr,tV]
 |cons e a u=>rw[yK,Rr,Rr,u,xS]
def WV {d:D1} {v:List D1} {i:Int} (u:0<=i) (h1:i<(v.length:Int)) (h:Int->Rat):Rr (v.take (i+1).toNat) h=Rr (v.take i.toNat) h+rv (gx d v i).2*h (gx d v i).1:=by
 rw[show(i+1).toNat=i.toNat+1 from by omega,rX,J3 (d:=d) u h1,dO];simp only[g0r,Rr,rP]
def mC {v:List D1} {n:Nat} (u:∀e∈v,0<=e.1/\e.1<(n:Int)) (h:Int->Rat):Rr v h=C6 n fun j=>A8 v (j:Int)*h (j:Int):=by
 induction v with
 |nil=>rw[Rr];exact(Dh fun j _=>tB _).symm
 |cons e v ih=>
  obtain⟨h0,h1⟩:=u e (rL ..);rw[Rr,ih fun x hx=>u x (qM _ hx)];have e1:(C6 n fun j=>A8 (e::v) (j:Int)*h (j:Int))=(C6 n fun j=>(if e.1=(j:Int)then rv e.2 else 0)*h (j:Int))+C6 n fun j=>A8 v (j:Int)*h (j:Int):=by
   rw[<-Kz];exact C1 fun j _=>by rw[A8,g2l]
  have e2:(C6 n fun j=>(if e.1=(j:Int)then rv e.2 else 0)*h (j:Int))=rv e.2*h e.1:=by
   rw[N8 (k:=e.1.toNat) (by omega) fun i _ hi=>by rw[qT (by omega),tB],rB (by omega),show((e.1.toNat:Nat):Int)=e.1 from by omega]
  rw[e1,e2]
def HH:rv zr=0:=yH _
def put (i:Int) (x:C0) (l:List D1):List D1:=if rv x=0 then l else(i,x)::l
def H1 (φ:C0×C0×Unit->C0):List D1->List D1->List D1
 | [],[]=> []
 |e::a,[]=>put e.1 (φ (e.2,zr,())) (H1 φ a [])
 | [],f::b=>put f.1 (φ (zr,f.2,())) (H1 φ [] b)
 |e::a,f::b=>if e.1<f.1 then put e.1 (φ (e.2,zr,())) (H1 φ a (f::b))else if e.1=f.1 then put e.1 (φ (e.2,f.2,())) (H1 φ a b)else put f.1 (φ (zr,f.2,())) (H1 φ (e::a) b)
termination_by a b=>a.length+b.length
def Vy (i:Int) (q:Rat) (l:List D1) (j:Int):A8 (put i (rc q) l) j=(if i=j then q else 0)+A8 l j:=by
 unfold put;rw[I8];split
 . rename_i h;subst h;simp only[ite_self,tV]
 . rw[A8,I8]
def HD {i:Int} {x:C0} {l:List D1} {e:D1} (h:e∈put i x l):e.1=i\/e∈l:=by
 unfold put at h;split at h
 . exact .inr h
 . rcases qV.1 h with rfl|h
   . exact .inl rfl
   . exact .inr h
def Vw {i:Int} {q:Rat} {l:List D1} (h:Gm l) (hl:∀e∈l,i<e.1):Gm (put i (rc q) l):=by
 unfold put;rw[I8];split
 . exact h
 . rename_i h0;refine⟨I6.2 ⟨hl,h.1⟩,fun e u=> ?_⟩;rcases qV.1 u with rfl|u
   . simp only[I8];exact⟨h0,trivial⟩
   . exact h.2 e u
def LW (φ:C0×C0×Unit->C0) (g:Rat->Rat->Rat) (g0:g 0 0=0) (a b:List D1):
 (∀x y,(x=zr\/∃e∈a,e.2=x)->(y=zr\/∃e∈b,e.2=y)->φ (x,y,())=rc (g (rv x) (rv y)))->Gl a->Gl b->
 Gm (H1 φ a b)/\(∀e∈H1 φ a b,(∃x∈a,x.1=e.1)\/∃y∈b,y.1=e.1)/\∀i,A8 (H1 φ a b) i=g (A8 a i) (A8 b i):=by
 induction a,b using H1.induct with
 |case1=>
  intro _ _ _;rw[H1];exact⟨cZ,fun e he=>(by cases he),fun i=>g0.symm⟩
 |case2 e a ih=>
  intro a0 ha hb;obtain⟨h1,h2,h3⟩:=ih (fun x y hx hy=>a0 x y (hx.imp id fun⟨z,hz,u⟩=>⟨z,qM _ hz,u⟩) hy) (Ia ha) hb;rw[H1,a0 e.2 zr (.inr ⟨e,rL ..,rfl⟩) (.inl rfl),HH];refine⟨Vw h1 fun x hx=> ?_,fun x hx=> ?_,fun i=> ?_⟩
  . rcases h2 x hx with⟨z,hz,u⟩ | ⟨z,hz,_⟩
    . rw[<-u];exact(I6.1 ha).1 z hz
    . cases hz
  . rcases HD hx with hx|hx
    . exact .inl ⟨e,rL ..,hx.symm⟩
    . exact(h2 x hx).imp (fun⟨z,hz,u⟩=>⟨z,qM _ hz,u⟩) id
  . rw[Vy,h3,Oz];by_cases hi:e.1=i
    . subst hi;rw[rB rfl,Bf ha,F7 fun x hx a3=>by have:=(I6.1 ha).1 x hx;omega,g0,rP]
    . rw[qT hi,Es hi,tV]
 |case3 f b ih=>
  intro a0 ha hb;obtain⟨h1,h2,h3⟩:=ih (fun x y hx hy=>a0 x y hx (hy.imp id fun⟨z,hz,u⟩=>⟨z,qM _ hz,u⟩)) ha (Ia hb);rw[H1,a0 zr f.2 (.inl rfl) (.inr ⟨f,rL ..,rfl⟩),HH];refine⟨Vw h1 fun x hx=> ?_,fun x hx=> ?_,fun i=> ?_⟩
  . rcases h2 x hx with⟨z,hz,_⟩ | ⟨z,hz,u⟩
    . cases hz
    . rw[<-u];exact(I6.1 hb).1 z hz
  . rcases HD hx with hx|hx
    . exact .inr ⟨f,rL ..,hx.symm⟩
    . exact(h2 x hx).imp id fun⟨z,hz,u⟩=>⟨z,qM _ hz,u⟩
  . rw[Vy,h3,Oz];by_cases hi:f.1=i
    . subst hi;rw[rB rfl,Bf hb,F7 fun x hx a3=>by have:=(I6.1 hb).1 x hx;omega,g0,rP]
    . rw[qT hi,Es hi,tV]
 |case4 e a f b a1 ih=>
  intro a0 ha hb;obtain⟨h1,h2,h3⟩:=ih (fun x y hx hy=>a0 x y (hx.imp id fun⟨z,hz,u⟩=>⟨z,qM _ hz,u⟩) hy) (Ia ha) hb;rw[H1,rB a1,a0 e.2 zr (.inr ⟨e,rL ..,rfl⟩) (.inl rfl),HH];refine⟨Vw h1 fun x hx=> ?_,fun x hx=> ?_,fun i=> ?_⟩
  . rcases h2 x hx with⟨z,hz,u⟩ | ⟨z,hz,u⟩
    . rw[<-u];exact(I6.1 ha).1 z hz
    . rw[<-u];rcases qV.1 hz with rfl|hz
      . exact a1
      . have:=(I6.1 hb).1 z hz;omega
  . rcases HD hx with hx|hx
    . exact .inl ⟨e,rL ..,hx.symm⟩
    . exact(h2 x hx).imp (fun⟨z,hz,u⟩=>⟨z,qM _ hz,u⟩) id
  . rw[Vy,h3];by_cases hi:e.1=i
    . subst hi;rw[rB rfl,Bf ha,F7 (v:=a) fun x hx a3=>by have:=(I6.1 ha).1 x hx;omega,OK hb a1,g0,rP]
    . rw[qT hi,Es hi,tV]
 |case5 e a f b a1 a2 ih=>
  intro a0 ha hb;obtain⟨h1,h2,h3⟩:=ih (fun x y hx hy=>a0 x y (hx.imp id fun⟨z,hz,u⟩=>⟨z,qM _ hz,u⟩) (hy.imp id fun⟨z,hz,u⟩=>⟨z,qM _ hz,u⟩)) (Ia ha) (Ia hb);rw[H1,qT a1,rB a2,a0 e.2 f.2 (.inr ⟨e,rL ..,rfl⟩) (.inr ⟨f,rL ..,rfl⟩)];refine⟨Vw h1 fun x hx=> ?_,fun x hx=> ?_,fun i=> ?_⟩
  . rcases h2 x hx with⟨z,hz,u⟩ | ⟨z,hz,u⟩
    . rw[<-u];exact(I6.1 ha).1 z hz
    . rw[<-u,a2];exact(I6.1 hb).1 z hz
  . rcases HD hx with hx|hx
    . exact .inl ⟨e,rL ..,hx.symm⟩
    . exact(h2 x hx).imp (fun⟨z,hz,u⟩=>⟨z,qM _ hz,u⟩) fun⟨z,hz,u⟩=>⟨z,qM _ hz,u⟩
  . rw[Vy,h3];by_cases hi:e.1=i
    . subst hi;have a4:=Bf hb;rw[<-a2]at a4;rw[rB rfl,Bf ha,a4,F7 (v:=a) fun x hx a3=>by have:=(I6.1 ha).1 x hx;omega,F7 (v:=b) fun x hx a3=>by have:=(I6.1 hb).1 x hx;omega,g0,rP]
    . rw[qT hi,Es hi,Es (e:=f) (by omega),tV]
 |case6 e a f b a1 a2 ih=>
  intro a0 ha hb;obtain⟨h1,h2,h3⟩:=ih (fun x y hx hy=>a0 x y hx (hy.imp id fun⟨z,hz,u⟩=>⟨z,qM _ hz,u⟩)) ha (Ia hb);rw[H1,qT a1,qT a2,a0 zr f.2 (.inl rfl) (.inr ⟨f,rL ..,rfl⟩),HH];refine⟨Vw h1 fun x hx=> ?_,fun x hx=> ?_,fun i=> ?_⟩
  . rcases h2 x hx with⟨z,hz,u⟩ | ⟨z,hz,u⟩
    . rw[<-u];rcases qV.1 hz with rfl|hz
      . omega
      . have:=(I6.1 ha).1 z hz;omega
    . rw[<-u];exact(I6.1 hb).1 z hz
  . rcases HD hx with hx|hx
    . exact .inr ⟨f,rL ..,hx.symm⟩
    . exact(h2 x hx).imp id fun⟨z,hz,u⟩=>⟨z,qM _ hz,u⟩
  . rw[Vy,h3];by_cases hi:f.1=i
    . subst hi;rw[rB rfl,Bf hb,F7 (v:=b) fun x hx a3=>by have:=(I6.1 hb).1 x hx;omega,OK ha (by omega),g0,rP]
    . rw[qT hi,Es (e:=f) hi,tV]
def eP {α:Type} (p:α->Bool) (l:List α):Int:=match l.findIdx? p with
 |some i=>(i:Int)
 |none=> -1
def eO (p:Int->Bool) (l:List Int):Int:=match l.findIdx? p with
 |some i=>(i:Int)
 |none=> -1
def B3i (v:List D1):List D1:=H1 (fun x=>rc (rv x.1)) v []
def pT {v:List D1} (h:Gl v):Gm (B3i v)/\∀i,A8 (B3i v) i=A8 v i:=by
 obtain⟨h1,_,u⟩:=LW (fun x=>rc (rv x.1)) (fun p _=>p) rfl v [] (fun _ _ _ _=>rfl) h List.Pairwise.nil;exact⟨h1,u⟩
def fill {α:Type} (n i:Nat) (F:Nat->α) (out:List α):Prop:=out.length=n/\∀j,j<i->out[j]? =some (F j)
def dR (n i:Nat) (P:Nat->List D1->Prop) (out:List (List D1)):Prop:=out.length=n/\∀j,j<i->P j (out.getD j [])
def B0p {n:Nat} {P:Nat->List D1->Prop} {out:List (List D1)} (h:out.length=n):dR n 0 P out:=⟨h,fun _ u=>by omega⟩
def oU {n:Nat} {i:Int} {P:Nat->List D1->Prop} {out:List (List D1)} {x:List D1} (h:dR n i.toNat P out) (h0:0<=i) (hi:i<(n:Int)) (hx:P i.toNat x):dR n (i+1).toNat P (out.set i.toNat x):=by
 refine⟨by rw[qL];exact h.1,fun j hj=> ?_⟩;rw[qF,xF];by_cases u:i.toNat=j
 . rw[rB u,rB (by rw[h.1];omega), <-u];exact hx
 . rw[qT u, <-qF];exact h.2 j (by omega)
def kU {k:Nat} {m:Ff} (u:F4 m) (hs:Fe k m) {v:List D1} (h:v∈m.2.2):YC k v:=by
 refine⟨(u.2.2.2.2.2 v h).1,hs v h, ?_⟩;have:=Hv (u.2.2.2.2.2 v h);have:=u.2.2.2.1;have:=u.2.2.1;omega
def A0u {v:List D1} {n i:Int} (h:K5 v n) (hi:¬(0<=i/\i<n)):A8 v i=0:=F7 fun e he u=>hi (by rw[<-u];exact⟨(h.2 e he).1,(h.2 e he).2.1⟩)
abbrev LUV:=List Int×List Int×Ff×Ff
def bZ:LUV:=([],[],zm,zm)
def K3 (p:List Int) (n:Int):Prop:=(p.length:Int)=n/\(∀i∈p,0<=i/\i<n)/\p.Nodup
instance (p:List Int) (n:Int):Decidable (K3 p n):=by unfold K3;infer_instance
def sqr (m:Ff) (n:Int):Prop:=m.1=n/\m.2.1=n/\F4 m
instance (m:Ff) (n:Int):Decidable (sqr m n):=by unfold sqr;infer_instance
def Bv (f:LUV) (n:Int):Prop:=K3 f.1 n/\K3 f.2.1 n/\sqr f.2.2.1 n/\sqr f.2.2.2 n/\∀i j:Nat,(i:Int)<n->(j:Int)<n->(i<j->el f.2.2.1 i j=0)/\el f.2.2.1 i i=1/\(j<i->el f.2.2.2 i j=0)/\el f.2.2.2 i i≠0
def luM (f:LUV) (n:Nat) (i j:Nat):Rat:=C6 n fun k=>el f.2.2.1 i k*el f.2.2.2 k j
def nonsing (n:Nat) (A:Nat->Nat->Rat):Prop:=∀x:Nat->Rat,(∀i,i<n->C6 n (fun j=>A i j*x j)=0)->∀j,j<n->x j=0
def sK (s:Nat):Nat->Nat
 |0=>s
 |k+1=>4*sK s k+1
def gK (s T:Nat):Nat->Nat
 |0=>T
 |k+1=>2*gK s T k+s+1
def hK (s Y:Nat):Nat->Nat
 |0=>Y
 |k+1=>2*hK s Y k+2*s+1
def ix (p:List Int) (i:Nat):Nat:=(p.getD i 0).toNat
end Go.Proofs.YthiimnbdinlfeaaGreat
namespace Go.Proofs.YthiimnbdinlfeaaGreat
open Go.IntKind (i64 u64 u32)
abbrev Ln:=Int×Int
def D0 (s:List Int) (i:Int):Int:=s.getD i.toNat 0
def NV (n:Int) (l:Ln):Prop:=0<=l.1/\l.1<n/\0<=l.2/\l.2<n
instance (n:Int) (l:Ln):Decidable (NV n l):=by unfold NV;infer_instance
def SB (n:Int) (ls:List Ln):Prop:=0<=n/\n<=16384/\∀l∈ls,NV n l
def Se (n:Int) (ls:List Ln):Int:=if n<0\/16384<n then 3 else if∀l∈ls,NV n l then 0 else 12
def UF (s:List Int):Prop:=∀i:Nat,i<s.length->0<=D0 s i/\D0 s i<=i
def HG (s:List Int):Nat->Int->Int
 |0,b=>b
 |k+1,b=>if D0 s b=b then b else HG s k (D0 s b)
def root (s:List Int) (b:Int):Int:=HG s b.toNat b
def eN (n:Int):List Int:=(List.range n.toNat).map Int.ofNat
def Ev (L:List Int) (l:Ln):List Int:=L.map fun x=>if x=max (D0 L l.1) (D0 L l.2)then min (D0 L l.1) (D0 L l.2)else x
def L9 (n:Int) (ls:List Ln):List Int:=ls.foldl Ev (eN n)
def cnt (L:List Int):Nat:=((List.range L.length).filter fun(b:Nat)=>decide (D0 L (b:Int)=(b:Int))).length
end Go.Proofs.YthiimnbdinlfeaaGreat
namespace Go.Proofs.YthiimnbdinlfeaaGreat
open Go.Vc Go.Gw
open Go.IntKind (i64 u64 u32)
def gH (n:Nat) (f g:Nat->Rat):C6 n (fun i=>f i-g i)=C6 n f-C6 n g:=by
 induction n with
 |zero=>rw[C6,C6,C6];decide+kernel
 |succ n u=>rw[C6,C6,C6,u];grind
def gG {n:Nat} {f:Nat->Rat} (h:∀i,i<n->0<=f i):0<=C6 n f:=by
 induction n with
 |zero=>exact Rat.le_refl
 |succ n u=>
  rw[C6];exact Rat.add_nonneg (u fun i hi=>h i (by omega)) (h n (by omega))
def A0c {n:Nat} {f:Nat->Rat} (h:∀i,i<n->0<=f i) (h0:C6 n f=0):∀i,i<n->f i=0:=by
 induction n with
 |zero=>intro i hi;omega
 |succ n ih=>
  rw[C6]at h0;have h1:=gG (n:=n) fun i hi=>h i (by omega)
  have h2:=h n (by omega);have e2:f n=0:=by grind
  have e1:C6 n f=0:=by grind
  intro i hi;by_cases u:i=n
  . subst u;exact e2
  . exact ih (fun i hi=>h i (by omega)) e1 i (by omega)
def FJ (fr to:Nat->Nat) (b i:Nat):Rat:=(if fr i=b then 1 else 0)-(if to i=b then 1 else 0)
def QK (m:Nat) (fr to:Nat->Nat) (f:Nat->Rat) (b:Nat):Rat:=C6 m fun i=>FJ fr to b i*f i
variable {n m:Nat} {fr to:Nat->Nat}
def fZ {φ:Nat->Rat} {a:Nat} (h:a<n):C6 n (fun b=>(if a=b then 1 else 0)*φ b)=φ a:=by
 rw[N8 h fun i _ hi=>by rw[qT (Ne.symm hi),tB],rB rfl,yI]
def lX {φ:Nat->Rat} {i:Nat} (h1:fr i<n) (u:to i<n):C6 n (fun b=>FJ fr to b i*φ b)=φ (fr i)-φ (to i):=by
 rw[C1 (g:=fun b=>(if fr i=b then 1 else 0)*φ b-(if to i=b then 1 else 0)*φ b) fun b _=>by unfold FJ;grind,gH,fZ h1,fZ u]
def B3o {φ D:Nat->Rat} (h:∀i,i<m->fr i<n/\to i<n):C6 m (fun i=>D i*(φ (fr i)-φ (to i)))=C6 n (fun b=>φ b*QK m fr to D b):=by
 rw[C1 (g:=fun i=>C6 n fun b=>D i*(FJ fr to b i*φ b)) fun i hi=>by rw[La,lX (h i hi).1 (h i hi).2],Kd];refine C1 fun b _=> ?_
 unfold QK;rw[<-La];exact C1 fun i _=>by grind
def A8g {φ D s:Nat->Rat} (h:∀i,i<m->fr i<n/\to i<n) (hs:∀i,i<m->0<s i) (hD:∀i,i<m->D i=s i*(φ (fr i)-φ (to i))) (h0:∀b,b<n->φ b=0\/QK m fr to D b=0):∀i,i<m->φ (fr i)-φ (to i)=0:=by
 have e0:C6 m (fun i=>D i*(φ (fr i)-φ (to i)))=0:=by
  rw[B3o h];exact Dh fun b hb=>by rcases h0 b hb with e|e<;>rw[e]<;>grind
 have hq:∀x:Rat,0<=x*x:=fun x=>by
  rcases(Rat.le_total (a:=0) (b:=x))with h|h
  . exact g2o h h
  . have u:0<= -x:=by grind
    have:=g2o u u;grind
 have:=A0c (f:=fun i=>D i*(φ (fr i)-φ (to i))) (fun i hi=>by
  show 0<=D i*(φ (fr i)-φ (to i));rw[hD i hi,wG];exact g2o (Rat.le_of_lt (hs i hi)) (hq _)) e0
 intro i hi;have e:=this i hi;rw[hD i hi,wG]at e;rcases zW.1 e with e|e
 . have:=hs i hi;rw[e]at this;exact absurd this (g2t)
 . rcases zW.1 e with e|e<;>exact e
def flw (fr to:Nat->Nat) (s h θ:Nat->Rat) (i:Nat):Rat:=s i*(θ (fr i)-θ (to i)+h i)
def A7f (f g:Nat->Rat) (w:Rat) (b:Nat):QK m fr to (fun i=>f i+w*g i) b=QK m fr to f b+w*QK m fr to g b:=by
 unfold QK;rw[<-La, <-Kz];exact C1 fun i _=>by grind
def JP {f g:Nat->Rat} (h:∀i,i<m->f i=g i) (b:Nat):QK m fr to f b=QK m fr to g b:=C1 fun i hi=>by rw[h i hi]
def RG {f:Nat->Rat} {lab:Nat->Nat} (hb:∀i,i<m->fr i<n/\to i<n) (u:∀i,i<m->lab (fr i)=lab (to i)) (t:Nat):C6 n (fun b=>(if lab b=t then 1 else 0)*QK m fr to f b)=0:=by
 rw[<-B3o hb];exact Dh fun i hi=>by rw[u i hi];grind
variable {n m k:Nat} {fr to:Nat->Nat} {s:Nat->Rat}
def JW (m:Nat) (fr to:Nat->Nat) (s:Nat->Rat) (b c:Nat):Rat:=C6 m fun i=>s i*(FJ fr to b i*FJ fr to c i)
def mP (h:∀i,i<m->fr i<n/\to i<n) (θ:Nat->Rat) (b:Nat):C6 n (fun c=>JW m fr to s b c*θ c)=QK m fr to (fun i=>s i*(θ (fr i)-θ (to i))) b:=by
 rw[C1 (g:=fun c=>C6 m fun i=>s i*FJ fr to b i*(FJ fr to c i*θ c)) fun c _=>by
  unfold JW;rw[<-KQ];exact C1 fun i _=>by grind,Kd]
 refine C1 fun i hi=> ?_
 rw[La,lX (h i hi).1 (h i hi).2];grind
def DJ (k:Nat) (o:Nat->Nat) (x:Nat->Rat) (b:Nat):Rat:=C6 k fun c=>if o c=b then x c else 0
def mE {o:Nat->Nat} (hi:∀a c,a<k->c<k->o a=o c->a=c) (x:Nat->Rat) {c:Nat} (hc:c<k):DJ k o x (o c)=x c:=by
 unfold DJ;rw[N8 hc fun a ha u=>qT fun e=>u (hi a c ha hc e),rB rfl]
def GH {o:Nat->Nat} (x:Nat->Rat) {b:Nat} (h:∀c,c<k->o c≠b):DJ k o x b=0:=Dh fun c u=>qT (h c u)
def mO {o:Nat->Nat} (ho:∀a,a<k->o a<n) (x:Nat->Rat) (b:Nat):C6 n (fun c=>JW m fr to s b c*DJ k o x c)=C6 k fun c=>JW m fr to s b (o c)*x c:=by
 rw[C1 (g:=fun c=>C6 k fun a=>JW m fr to s b c*(if o a=c then x a else 0)) fun c _=>by unfold DJ;rw[La],Kd];refine C1 fun a u=> ?_
 rw[N8 (ho a u) fun c _ hc=>by rw[qT (Ne.symm hc),uQ],rB rfl]
def gB {o lab:Nat->Nat} (hb:∀i,i<m->fr i<n/\to i<n) (hs:∀i,i<m->0<s i) (ho:∀a,a<k->o a<n) (hi:∀a c,a<k->c<k->o a=o c->a=c)
 (u:∀φ:Nat->Rat,(∀i,i<m->φ (fr i)=φ (to i))->∀b,b<n->φ b=φ (lab b)) (a1:∀b,b<n->∀a,a<k->o a≠lab b):nonsing k fun a c=>JW m fr to s (o a) (o c):=by
 intro x hx c hc;have h1:=A8g (φ:=DJ k o x) (D:=fun i=>s i*(DJ k o x (fr i)-DJ k o x (to i))) hb hs (fun _ _=>rfl) fun b hbn=>by
  by_cases a0:∃a,a<k/\o a=b
  . obtain⟨a,ha,rfl⟩:=a0;refine .inr ?_;rw[<-mP hb,mO ho];exact hx a ha
  . exact .inl (GH x fun a ha e=>a0 ⟨a,ha,e⟩)
 rw[<-mE hi x hc,u (DJ k o x) (fun i hi=>by have:=h1 i hi;grind) (o c) (ho c hc)];exact GH x fun a ha=>a1 (o c) (ho c hc) a ha
def A5v {lab:Nat->Nat} {F J:Nat->Rat} (h1:∀b,b<n->lab b≠b->F b=J b) (hF:∀t,C6 n (fun b=>(if lab b=t then 1 else 0)*F b)=0) (hJ:∀t,t<n->C6 n (fun b=>(if lab b=t then 1 else 0)*J b)=0):∀b,b<n->F b=J b:=by
 intro t ht;by_cases hl:lab t=t
 . have e:C6 n (fun b=>(if lab b=t then 1 else 0)*(F b-J b))=0:=by
    rw[C1 (g:=fun b=>(if lab b=t then 1 else 0)*F b-(if lab b=t then 1 else 0)*J b) fun b _=>by grind,gH,hF,hJ t ht];grind
   rw[N8 ht fun b hb a0=> ?_,rB hl]at e
   . grind
   . by_cases u:lab b=t
     . rw[h1 b hb (by omega)];grind
     . rw[qT u,tB]
 . exact h1 t ht hl
def A5o {o lab:Nat->Nat} {h J right x:Nat->Rat} (hb:∀i,i<m->fr i<n/\to i<n) (ho:∀a,a<k->o a<n)
 (u:∀b,b<n->lab b≠b->∃a,a<k/\o a=b) (a0:∀i,i<m->lab (fr i)=lab (to i)) (hx:∀a,a<k->C6 k (fun c=>JW m fr to s (o a) (o c)*x c)=right a)
 (hr:∀a,a<k->right a=J (o a)-QK m fr to (fun i=>s i*h i) (o a)) (hJ:∀t,t<n->C6 n (fun b=>(if lab b=t then 1 else 0)*J b)=0):∀b,b<n->QK m fr to (flw fr to s h (DJ k o x)) b=J b:=by
 refine A5v (lab:=lab) (fun b a1 hl=> ?_) (fun t=>RG hb a0 t) hJ;obtain⟨a,ha,rfl⟩:=u b a1 hl;have e1:=hx a ha;rw[<-mO ho,mP hb,hr a ha]at e1;have e2:QK m fr to (flw fr to s h (DJ k o x)) (o a)=QK m fr to (fun i=>s i*(DJ k o x (fr i)-DJ k o x (to i))+1*(s i*h i)) (o a):=JP (fun i _=>by unfold flw;grind) _;rw[e2,A7f,e1];grind
end Go.Proofs.YthiimnbdinlfeaaGreat
